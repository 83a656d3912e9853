/-
  Part 14 of the proof: an evaluator of programs, its soundness, and what functions of this program compute.
-/
import Derived.Test.YtmcjkemalibacaaGreatK13
import Derived.Test.YtmcjkemalibacaaGreatK12
import Derived.Test.YtmcjkemalibacaaGreatK10
set_option linter.all false
set_option maxRecDepth 20000
set_option maxHeartbeats 40000000
namespace Go.Ab.Tryz
open Classical Go.Proofs Go.Ab
theorem z8:Rg 0:=⟨by omega,by omega⟩
theorem zOk:pH An:=⟨⟨none,rfl,by simp[ol]⟩,⟨none,rfl,by simp[ol]⟩,⟨none,rfl,by simp[ol]⟩,⟨none,rfl,by simp[ol],by simp[ol]⟩,⟨z8,z8,z8,z8,z8⟩,⟨z8,z8⟩,⟨z8,z8,z8,z8⟩,z8,z8⟩
theorem aRh (x:xY) (h:pH x):∃r,aB Tryz.prog 184 [.agg (lB x)]=some r∧∃e:Int,r=.v (.int .i64 e):=by
 have z:=zOk
 have hf:=h.flat
 obtain⟨r1,e1,o1,e,rfl⟩:=aRg x h
 have PC:=kx e1 (cV hf) (.eG _ (bF (zJ _) (.v _)))
 rw[cG Tryz.func184 rfl aMj (by kernel_rfl) rfl]
 by_cases g1:x.kind<1
 ·simp only[ZG,seval,Bool.false_and,Prod.mk.injEq,Mi,g1];exact⟨_,bZ rfl (by simp only[E8,seval]<;>rfl) (by first|exact .v _|simp only[eC]),_,rfl⟩
 by_cases g9:8<x.kind
 ·simp only[ZG,seval,Bool.false_and,Prod.mk.injEq,Mi,g1,g9];exact⟨_,bZ rfl (by simp only[E8,seval]<;>rfl) (by first|exact .v _|simp only[eC]),_,rfl⟩
 by_cases g0:e=0
 case neg =>
  simp only[ZG,seval,Bool.false_and,Prod.mk.injEq,Mi,g1,g9,PC,dN,bf g0];exact⟨_,bZ rfl (by simp only[E8,seval]<;>rfl) (by first|exact .v _|simp only[eC]),_,rfl⟩
 by_cases k2:x.kind=2
 ·have hy:pH { An with kind:=x.kind,block:=x.block }:=⟨z.Hl,z.c1,z.c2,z.WV,h.rb,z.ra,z.rs,z.rt,z.rv⟩
  obtain⟨r2,e2,B,rfl⟩:=WW x { An with kind:=x.kind,block:=x.block } h hy
  have Tl:=kx e2 (bF hf hy.flat) (.v _)
  have UU:=h.fl
  cases B
  all_goals
   simp only[ZG,seval,Bool.false_and,Prod.mk.injEq,Mi,g1,g9,PC,dN,bt g0,bt k2,Tl,Ca,Cb,Is,It];exact⟨_,bZ rfl (by simp only[E8,seval]<;>rfl) (by first|exact .v _|simp only[eC]),_,rfl⟩
 by_cases k3:x.kind=3
 ·have hy:pH { An with kind:=x.kind,Hl:=x.Hl }:=⟨h.Hl,z.c1,z.c2,z.WV,z.rb,h.ra,z.rs,z.rt,z.rv⟩
  obtain⟨r2,e2,B,rfl⟩:=WW x { An with kind:=x.kind,Hl:=x.Hl } h hy
  have Tl:=kx e2 (bF hf hy.flat) (.v _)
  have UU:=h.fl
  cases B
  all_goals
   simp only[ZG,seval,Bool.false_and,Prod.mk.injEq,Mi,g1,g9,PC,dN,bt g0,bf k2,bt k3,Tl,Ca,Cb,Is,It];exact⟨_,bZ rfl (by simp only[E8,seval]<;>rfl) (by first|exact .v _|simp only[eC]),_,rfl⟩
 by_cases k4:x.kind=4
 ·have hy:pH { An with kind:=x.kind,oV:=x.oV }:=⟨z.Hl,h.c1,h.c2,z.WV,z.rb,z.ra,h.rs,z.rt,z.rv⟩
  obtain⟨r2,e2,B,rfl⟩:=WW x { An with kind:=x.kind,oV:=x.oV } h hy
  have Tl:=kx e2 (bF hf hy.flat) (.v _)
  have UU:=h.fl
  cases B
  all_goals
   simp only[ZG,seval,Bool.false_and,Prod.mk.injEq,Mi,g1,g9,PC,dN,bt g0,bf k2,bf k3,bt k4,Tl,Ca,Cb,Is,It];exact⟨_,bZ rfl (by simp only[E8,seval]<;>rfl) (by first|exact .v _|simp only[eC]),_,rfl⟩
 by_cases k5:x.kind=5
 ·have hy:pH { An with kind:=x.kind,table:=x.table }:=⟨z.Hl,z.c1,z.c2,h.WV,z.rb,z.ra,z.rs,h.rt,z.rv⟩
  obtain⟨r2,e2,B,rfl⟩:=WW x { An with kind:=x.kind,table:=x.table } h hy
  have Tl:=kx e2 (bF hf hy.flat) (.v _)
  have UU:=h.fl
  cases B
  all_goals
   simp only[ZG,seval,Bool.false_and,Prod.mk.injEq,Mi,g1,g9,PC,dN,bt g0,bf k2,bf k3,bf k4,bt k5,Tl,Ca,Cb,Is,It];exact⟨_,bZ rfl (by simp only[E8,seval]<;>rfl) (by first|exact .v _|simp only[eC]),_,rfl⟩
 by_cases k6:x.kind=6
 ·have hy:pH { An with kind:=x.kind,verdict:=x.verdict }:=⟨z.Hl,z.c1,z.c2,z.WV,z.rb,z.ra,z.rs,z.rt,h.rv⟩
  obtain⟨r2,e2,B,rfl⟩:=WW x { An with kind:=x.kind,verdict:=x.verdict } h hy
  have Tl:=kx e2 (bF hf hy.flat) (.v _)
  have UU:=h.fl
  cases B
  all_goals
   simp only[ZG,seval,Bool.false_and,Prod.mk.injEq,Mi,g1,g9,PC,dN,bt g0,bf k2,bf k3,bf k4,bf k5,bt k6,Tl,Ca,Cb,Is,It];exact⟨_,bZ rfl (by simp only[E8,seval]<;>rfl) (by first|exact .v _|simp only[eC]),_,rfl⟩
 by_cases k8:x.kind=8
 ·have hy:pH { An with kind:=x.kind,write:=x.write,qL:=x.qL }:=⟨z.Hl,z.c1,z.c2,z.WV,z.rb,z.ra,z.rs,z.rt,z.rv⟩
  obtain⟨r2,e2,B,rfl⟩:=WW x { An with kind:=x.kind,write:=x.write,qL:=x.qL } h hy
  have Tl:=kx e2 (bF hf hy.flat) (.v _)
  have UU:=h.fl
  cases B
  all_goals
   simp only[ZG,seval,Bool.false_and,Prod.mk.injEq,Mi,g1,g9,PC,dN,bt g0,bf k2,bf k3,bf k4,bf k5,bf k6,bt k8,Tl,Ca,Cb,Is,It];exact⟨_,bZ rfl (by simp only[E8,seval]<;>rfl) (by first|exact .v _|simp only[eC]),_,rfl⟩
 have hy:pH { An with kind:=x.kind }:=⟨z.Hl,z.c1,z.c2,z.WV,z.rb,z.ra,z.rs,z.rt,z.rv⟩
 obtain⟨r2,e2,B,rfl⟩:=WW x { An with kind:=x.kind } h hy
 have Tl:=kx e2 (bF hf hy.flat) (.v _)
 have UU:=h.fl
 cases B
 all_goals
  simp only[ZG,seval,Bool.false_and,Prod.mk.injEq,Mi,g1,g9,PC,dN,bt g0,bf k2,bf k3,bf k4,bf k5,bf k6,bf k8,Tl,Ca,Cb,Is,It];exact⟨_,bZ rfl (by simp only[E8,seval]<;>rfl) (by first|exact .v _|simp only[eC]),_,rfl⟩
theorem x45 (n bits:Int) (h0:0<n) (h1:n≤1000):∃r,aB Tryz.prog 45 [.v (.int .i64 n),.v (.int .i64 bits)]=some r∧∃l:List Int,r=.uniq 3 1 l.length (aK l)∧(l.length:Int)≤n:=by
 rw[cL Tryz.func45 rfl aRi rfl];simp only[Z8,seval];refine cI (fun m st=>∃k:Nat,(st.env 0=.v (.int .i64 n)∧st.env 1=.v (.int .i64 bits)∧st.env 6=.v (.int .i64 k))∧(st.env 5=.v (.slice none 0 0)∨∃(l:List Int) (g:Nat),(st.env 5=.own 21 g∧st.heap 21 g=some (.row 3 1 l.length (aK l)))∧g<st.aU 21∧0<l.length∧l.length≤k)∧(k:Int)≤n∧m=(n-k).toNat)
  (fun e st=>e=.exit 0∧st.env 0=.v (.int .i64 n)∧(st.env 5=.v (.slice none 0 0)∨∃(l:List Int) (g:Nat),(st.env 5=.own 21 g∧st.heap 21 g=some (.row 3 1 l.length (aK l)))∧0<l.length∧(l.length:Int)≤n)) n.toNat ?step ?start ?rest
 case step =>
  rintro m st ⟨k,hI,h5,hk,hm⟩
  by_cases bA:(k:Int)<n
  ·have q0:(0:Int)≤k:=by omega
   have hw:IntKind.i64.wrap ((k:Int)+1)=((k+1:Nat):Int):=by rw[nU _ (by omega) (by omega)];omega
   by_cases hh:IntKind.i64.wrap ((BitVec.ofInt IntKind.i64.bits (bits.fdiv (2 ^ min (IntKind.u64.wrap (k:Int)).toNat IntKind.i64.bits)) &&& BitVec.ofInt IntKind.i64.bits 1).toNat:Int)=1
   ·rcases h5 with h5|⟨l,g,h5,hg,hl0,hl⟩
    ·apply oN ((n-((k+1:Nat):Int)).toNat)
     ·simp only[Z8,seval,hI,h5,bA,q0,yG,bt hh,hw];rfl
     ·exact⟨k+1,by simp only[E8,seval,hI],.inr ⟨[(k:Int)],_,⟨by simp only[E8,seval]<;>rfl,by simp only[E8,seval]<;>rfl⟩,by simp only[E8,seval]<;>omega,by simp,by simp⟩,by omega,rfl⟩
    ·have vA:(g=st.aU 21)=False:=eq_false (by omega)
     have nl:(l.length:Int)<1000000:=by omega
     apply oN ((n-((k+1:Nat):Int)).toNat)
     ·simp only[Z8,seval,hI,h5,vA,bA,q0,yG,bt hh,hw,Ge _ _ _ _ nl];rfl
     ·exact⟨k+1,by simp only[E8,seval,hI],.inr ⟨l++[(k:Int)],_,⟨by simp only[E8,seval]<;>rfl,by simp only[E8,seval]<;>rfl⟩,by simp only[E8,seval]<;>omega,by simp,by rw[List.length_append,List.length_cons,List.length_nil];omega⟩,by omega,rfl⟩
   ·have h5':st.env 5=.v (.slice none 0 0)∨∃(l:List Int) (g:Nat),(st.env 5=.own 21 g∧st.heap 21 g=some (.row 3 1 l.length (aK l)))∧g<st.aU 21∧0<l.length∧l.length≤k+1:=h5.imp id fun ⟨l,g,a,b,c,d⟩=>⟨l,g,a,b,c,by omega⟩
    apply oN ((n-((k+1:Nat):Int)).toNat)
    ·simp only[Z8,seval,hI,bA,q0,yG,bf hh,hw];rfl
    ·exact⟨k+1,by simp only[E8,seval,hI],by simpa only[E8,seval] using h5',by omega,rfl⟩
  ·have h5':st.env 5=.v (.slice none 0 0)∨∃(l:List Int) (g:Nat),(st.env 5=.own 21 g∧st.heap 21 g=some (.row 3 1 l.length (aK l)))∧0<l.length∧(l.length:Int)≤n:=h5.imp id fun ⟨l,g,a,b,c,d⟩=>⟨l,g,a,c,by omega⟩
   apply oT (.exit 0)
   ·simp only[Z8,seval,hI,bA];rfl
   ·exact⟨rfl,by simp only[E8,seval,hI],by simpa only[E8,seval] using h5'⟩
 case start=>exact⟨0,by simp only[E8,seval]<;>rfl,.inl (by simp only[E8,seval]),by omega,by simp⟩
 case rest =>
  rintro e st ⟨rfl,h0',h5|⟨l,g,h5,hl0,hl⟩⟩
  ·simp only[Z8,seval,h0',h5,h0];exact⟨_,Ql (n:=([0]:List Int).length) (cs:=aK [0]) (aH (by decide)) (.inl rfl) rfl (by simp only[E8,seval]<;>rfl) (by simp only[E8,seval]<;>rfl) (fV _),_,rfl,by simp;omega⟩
  ·have hn0:¬((l.length:Int)=0):=by omega
   simp only[Z8,seval,h0',h5,bf hn0];exact⟨_,tV rfl (by simp only[E8,seval,h5]<;>rfl) (by simp only[E8,seval,h5]<;>rfl) (fV _),l,rfl,hl⟩
theorem k45 (n bits:Int) (h0:0<n) (h1:n≤1000):∃l:List Int,(∀(st:St) (d:Nat),aO (aB Tryz.prog) 45 [.v (.int .i64 n),.v (.int .i64 bits)] st (some d)=some { dst:=some d,val:=.own d (st.aU d),new:=some (d,[.row 3 1 l.length (aK l)])})∧(l.length:Int)≤n:=by
 obtain⟨r,hr,l,rfl,hl⟩:=x45 n bits h0 h1
 exact⟨l,fun st d=>jG (bF (.v _) (.v _)) hr,hl⟩
theorem x92 {s:aM} {v:SV} {q:Int} (h:GI s v q) (r:RG s v) (i e:Int) (he:Rg e):∃x,aB Tryz.prog 92 [.agg (aA s),.v (.int .i64 i),.v (.int .u64 e)]=some x∧∃c:dQ,x=.agg (bB c)∧Rg c.aG:=by
 have Y2:=NS v.ns h.up h.sd.nn i (IntKind.u64.wrap (e * s.cFg.jH))
 have hr:=HD h.up (i:=i) (s:=IntKind.u64.wrap (e * s.cFg.jH))
 obtain⟨k,hk⟩:∃k,IU v.ns i (IntKind.u64.wrap (e * s.cFg.jH))=k:=⟨_,rfl⟩
 rw[hk] at Y2 hr
 rw[cL Tryz.func92 rfl aRl rfl];by_cases g1:k<0
 ·simp only[Z8,seval,h.sd.tree,Y2,g1];exact⟨_,fL rfl (by simp only[E8,seval,Bx]<;>rfl) (by simp only[Z8,seval,Bx]<;>rfl) (by simp only[eC,and_self,Bx]),_,rfl,r.f⟩
 ·have k0:0≤k:=by omega
  have k1:k<v.ns.length:=by omega
  simp only[Z8,seval,h.sd.tree,Y2,g1,k0,k1];exact⟨_,fL rfl (by simp only[E8,seval,Bx]<;>rfl) (by simp only[Z8,seval,Bx]<;>rfl) (by simp only[eC,and_self,Bx]),_,rfl,he⟩
theorem aRm (n:Int):∃x,aB Tryz.prog 111 [.v (.int .i64 n)]=some x∧∃w:qM,x=.agg (gJ w):=by
 obtain⟨j,hj⟩:∃j,(IntKind.i64.wrap ((BitVec.ofInt IntKind.i64.bits (((n).fdiv (2 ^ min 9 IntKind.i64.bits))) &&& BitVec.ofInt IntKind.i64.bits 3).toNat:Int))=j:=⟨_,rfl⟩
 have hb:=Ds ((n).fdiv (2 ^ min 9 IntKind.i64.bits)) 3 (by decide)
 rw[hj] at hb;have j0:=hb.1
 have j1:j<4:=by omega
 have j3:j.toNat<4:=by omega
 have j4:j.toNat≤3:=by omega
 have Pb:∀(w:qM) (x:Int),dS (gJ w) j.toNat [.v (.int .u64 x)] (j.toNat+1)=gJ (w.set j.toNat x):=fun w x=>pI w j.toNat _ x j3 rfl
 have fw:∀w:qM,Flat (.agg (gJ w))=True:=fun w=>eq_true (.agg _ (iF w))
 rw[cL Tryz.func111 rfl aMl rfl];by_cases c1:(IntKind.i64.wrap ((BitVec.ofInt IntKind.i64.bits (((n).fdiv (2 ^ min 7 IntKind.i64.bits))) &&& BitVec.ofInt IntKind.i64.bits 3).toNat:Int))=1
 ·simp only[Z8,seval,bt c1,pI,Nat.reduceLT,Iq,hj,j0,j1,j4,Pb,Nat.mul_one,yG];exact⟨_,fL rfl (by simp only[E8,seval,fw]<;>rfl) (by simp only[Z8,seval,fw]<;>rfl) (by simp only[eC,and_self,fw]),_,rfl⟩
 by_cases c2:(IntKind.i64.wrap ((BitVec.ofInt IntKind.i64.bits (((n).fdiv (2 ^ min 7 IntKind.i64.bits))) &&& BitVec.ofInt IntKind.i64.bits 3).toNat:Int))=2
 ·simp only[Z8,seval,bf c1,bt c2,pI,Nat.reduceLT,Iq,hj,j0,j1,j4,Pb,Nat.mul_one,yG];exact⟨_,fL rfl (by simp only[E8,seval,fw]<;>rfl) (by simp only[Z8,seval,fw]<;>rfl) (by simp only[eC,and_self,fw]),_,rfl⟩
 by_cases c3:(IntKind.i64.wrap ((BitVec.ofInt IntKind.i64.bits (((n).fdiv (2 ^ min 7 IntKind.i64.bits))) &&& BitVec.ofInt IntKind.i64.bits 3).toNat:Int))=3
 ·simp only[Z8,seval,bf c1,bf c2,bt c3,pI,Nat.reduceLT,Iq,hj,j0,j1,j4,Pb,Nat.mul_one,yG];exact⟨_,fL rfl (by simp only[E8,seval,fw]<;>rfl) (by simp only[Z8,seval,fw]<;>rfl) (by simp only[eC,and_self,fw]),_,rfl⟩
 simp only[Z8,seval,bf c1,bf c2,bf c3,pI,Nat.reduceLT,Iq,hj,j0,j1,j4,Pb,Nat.mul_one,yG];exact⟨_,fL rfl (by simp only[E8,seval,fw]<;>rfl) (by simp only[Z8,seval,fw]<;>rfl) (by simp only[eC,and_self,fw]),_,rfl⟩
theorem aRn (n k:Int) (h0:0<n) (h1:n≤1000):∃r,aB Tryz.prog 182 [.v (.int .i64 n),.v (.int .i64 k)]=some r∧∃x:gB,r=.agg (cD x)∧xF x.first∧xF x.second∧Rg x.first.source∧Rg x.first.target∧Rg x.second.source∧Rg x.second.target:=by
 obtain⟨l,kl,hl⟩:=k45 n k h0 h1
 obtain⟨m,km,hm⟩:=k45 n ((k).fdiv (2 ^ min 6 IntKind.i64.bits)) h0 h1
 have cl:xF ⟨1,5,mkRoot 2,ov aK (some l)⟩:=⟨some l,rfl,by show (l.length:Int)≤1000;omega⟩
 have rg:∀x:Int,0≤x∧x≤6→Rg x:=fun x h=>⟨by omega,by omega⟩
 have okl:∀a b r,xF ⟨a,b,r,ov aK (some l)⟩:=fun a b r=>⟨some l,rfl,by show (l.length:Int)≤1000;omega⟩
 have okm:∀a b r,xF ⟨a,b,r,ov aK (some m)⟩:=fun a b r=>⟨some m,rfl,by show (m.length:Int)≤1000;omega⟩
 rw[cL Tryz.func182 rfl aMn rfl];by_cases c0:((((k).fdiv (2 ^ min 12 IntKind.i64.bits))).tmod 8)=0
 ·simp only[Z8,seval,kl,km,Ss,bt c0];exact⟨_,by apply eA;rfl;all_goals simp only[aH,Z8,seval,bP,rO,vV,bO,cS,jY,eC]<;>rfl,_,rfl,okm _ _ _,okl _ _ _,rg _ (by dsimp only;omega),rg _ (by dsimp only;omega),rg _ (by dsimp only;omega),rg _ (by dsimp only;omega)⟩
 by_cases c1:((((k).fdiv (2 ^ min 12 IntKind.i64.bits))).tmod 8)=1
 ·simp only[Z8,seval,kl,km,Ss,bf c0,bt c1];exact⟨_,by apply eA;rfl;all_goals simp only[aH,Z8,seval,bP,rO,vV,bO,cS,jY,eC]<;>rfl,_,rfl,okl _ _ _,okm _ _ _,rg _ (by dsimp only;omega),rg _ (by dsimp only;omega),rg _ (by dsimp only;omega),rg _ (by dsimp only;omega)⟩
 by_cases c2:((((k).fdiv (2 ^ min 12 IntKind.i64.bits))).tmod 8)=2
 ·simp only[Z8,seval,kl,km,Ss,bf c0,bf c1,bt c2];exact⟨_,by apply eA;rfl;all_goals simp only[aH,Z8,seval,bP,rO,vV,bO,cS,jY,eC]<;>rfl,_,rfl,okl _ _ _,okl _ _ _,rg _ (by dsimp only;omega),rg _ (by dsimp only;omega),rg _ (by dsimp only;omega),rg _ (by dsimp only;omega)⟩
 by_cases c3:((((k).fdiv (2 ^ min 12 IntKind.i64.bits))).tmod 8)=3
 ·simp only[Z8,seval,kl,km,Ss,bf c0,bf c1,bf c2,bt c3];exact⟨_,by apply eA;rfl;all_goals simp only[aH,Z8,seval,bP,rO,vV,bO,cS,jY,eC]<;>rfl,_,rfl,okl _ _ _,okm _ _ _,rg _ (by dsimp only;omega),rg _ (by dsimp only;omega),rg _ (by dsimp only;omega),rg _ (by dsimp only;omega)⟩
 by_cases c4:((((k).fdiv (2 ^ min 12 IntKind.i64.bits))).tmod 8)=4
 ·simp only[Z8,seval,kl,km,Ss,bf c0,bf c1,bf c2,bf c3,bt c4];exact⟨_,by apply eA;rfl;all_goals simp only[aH,Z8,seval,bP,rO,vV,bO,cS,jY,eC]<;>rfl,_,rfl,okl _ _ _,okm _ _ _,rg _ (by dsimp only;omega),rg _ (by dsimp only;omega),rg _ (by dsimp only;omega),rg _ (by dsimp only;omega)⟩
 simp only[Z8,seval,kl,km,Ss,bf c0,bf c1,bf c2,bf c3,bf c4];exact⟨_,by apply eA;rfl;all_goals simp only[aH,Z8,seval,bP,rO,vV,bO,cS,jY,eC]<;>rfl,_,rfl,okl _ _ _,okm _ _ _,rg _ (by dsimp only;omega),rg _ (by dsimp only;omega),rg _ (by dsimp only;omega),rg _ (by dsimp only;omega)⟩
theorem aRo {s:aM} {v:SV} {q:Int} (h:GI s v q) (r:RG s v) (hB:0<(ol v.B).length∧(ol v.B).length≤64) (k:Int) (hk:0≤k):∃x,aB Tryz.prog 183 [.agg (aA s),.v (.int .i64 k)]=some x∧∃(t:Table) (b:List Int),x=.agg (cA t)∧t.iP=ov bI (some b)∧(b.length:Int)≤1000∧(∀y∈b,Rg y)∧Rg t.ck.aG:=by
 have hn:=h.sd.nn
 have hp:(0:Int)<(v.ns.length:Int):=by have:=h.pos;omega
 have fQ:¬((v.ns.length:Int)=0):=by omega
 obtain⟨m1,m2⟩:=cP (n:=(v.ns.length:Int)) hk hp
 obtain⟨i,hi⟩:∃i,k.tmod (v.ns.length:Int)=i:=⟨_,rfl⟩
 rw[hi] at m1 m2;have Pd:=h.sp
 obtain⟨y,hy,c2,rfl,rc2⟩:=x92 h r i (yD s s.now) (iM _)
 unfold yD at hy;have Tm:=kx hy (mE h.sd.flat (.v _) (.v _)) (.agg _ (bR _))
 have rc1:Rg (nd v.ns i).block.dW.pj.aG:=(r.nd _ (Ti m1 m2)).1.pj
 rw[cL Tryz.func183 rfl aMo rfl];by_cases c0:((((k).fdiv (2 ^ min 5 IntKind.i64.bits))).tmod 4)=0
 case neg =>
  simp only[Z8,seval,h.sd.tree,fQ,hi,m1,m2,bf c0];refine cI (fun m st=>∃(j:Nat) (X:AV) (L:List Int),(st.env 1=.v (.int .i64 k)∧st.env 2=.ptr 2 0 0∧st.heap 2 0=some (.cells (aA s))∧st.env 4=.ptr 4 0 0∧st.heap 4 0=some (.cells (cA eI))∧st.env 6=.ptr 6 0 0∧st.heap 6 0=some (.cells (cA ⟨(nd v.ns i).block.dW.pj,X⟩))∧st.env 7=.v (.int .i64 j))∧((X=.v (.slice none 0 0)∧L=[])∨∃g,X=.own 55 g∧g<st.aU 55∧st.heap 55 g=some (.row 23 1 L.length (bI L)))∧(∀y∈L,Rg y)∧L.length=j∧j≤(ol v.B).length∧m=(ol v.B).length-j)
   (fun e st=>e=.exit 0∧∃(g:Nat) (L:List Int),(st.env 1=.v (.int .i64 k)∧st.env 2=.ptr 2 0 0∧st.heap 2 0=some (.cells (aA s))∧st.env 4=.ptr 4 0 0∧st.heap 4 0=some (.cells (cA eI))∧st.env 6=.ptr 6 0 0∧st.heap 6 0=some (.cells (cA ⟨(nd v.ns i).block.dW.pj,.own 55 g⟩))∧st.heap 55 g=some (.row 23 1 L.length (bI L)))∧(∀y∈L,Rg y)∧L.length=(ol v.B).length) (ol v.B).length ?step ?start ?rest
  case step =>
   rintro m st ⟨j,X,L,hI,hX,hL,hj,hjB,hm⟩
   by_cases bA:(j:Int)<(ol v.B).length
   ·have q0:(0:Int)≤j:=by omega
    have hw:IntKind.i64.wrap ((j:Int)+1)=((j+1:Nat):Int):=by rw[nU _ (by omega) (by omega)];omega
    have nL:(L.length:Int)<1000000:=by omega
    obtain⟨y,hy9⟩:∃y,IntKind.u64.wrap ((k.fdiv (2 ^ min (IntKind.u64.wrap (j:Int)).toNat IntKind.i64.bits)).tmod 50)=y:=⟨_,rfl⟩
    have ry:Rg y:=by rw[← hy9];exact iM _
    have Ws:∀z∈L++[y],Rg z:=fun z hz=>(List.mem_append.1 hz).elim (hL z) fun e=>by rw[List.mem_singleton] at e;rw[e];exact ry
    have yS:(L++[y]).length=j+1:=by rw[List.length_append,List.length_cons,List.length_nil];omega
    rcases hX with ⟨rfl,rfl⟩|⟨g,rfl,hg,hh⟩
    ·apply oN ((ol v.B).length-(j+1))
     ·simp only[Z8,seval,hI,bA,q0,h.sd.iP,yG,hy9,hw];rfl
     ·exact⟨j+1,_,[]++[y],⟨by simp only[E8,seval,hI],by simp only[E8,seval,hI],by simp only[E8,seval,hI],by simp only[E8,seval,hI],by simp only[E8,seval,hI],by simp only[E8,seval,hI],by simp only[E8,seval,hI]<;>rfl,by simp only[E8,seval]⟩,.inr ⟨_,rfl,by simp only[E8,seval]<;>omega,by simp only[E8,seval]<;>rfl⟩,Ws,yS,by omega,rfl⟩
    ·have vA:(g=st.aU 55)=False:=eq_false (by omega)
     apply oN ((ol v.B).length-(j+1))
     ·simp only[Z8,seval,hI,hh,vA,bA,q0,h.sd.iP,yG,hy9,hw,wQ _ _ _ _ nL];rfl
     ·exact⟨j+1,_,L++[y],⟨by simp only[E8,seval,hI],by simp only[E8,seval,hI],by simp only[E8,seval,hI],by simp only[E8,seval,hI],by simp only[E8,seval,hI],by simp only[E8,seval,hI],by simp only[E8,seval,hI]<;>rfl,by simp only[E8,seval]⟩,.inr ⟨_,rfl,by simp only[E8,seval]<;>omega,by simp only[E8,seval]<;>rfl⟩,Ws,yS,by omega,rfl⟩
   ·rcases hX with ⟨rfl,rfl⟩|⟨g,rfl,hg,hh⟩
    ·simp at hj;omega
    ·apply oT (.exit 0)
     ·simp only[Z8,seval,hI,bA,h.sd.iP];rfl
     ·exact⟨rfl,g,L,by simp only[E8,seval,hI,hh],hL,by omega⟩
  case start=>exact⟨0,_,[],by and_intros<;>(simp only[E8,seval]<;>rfl),.inl ⟨rfl,rfl⟩,by simp,rfl,by omega,by omega⟩
  case rest =>
   rintro e st ⟨rfl,g,L,hI,hL,hlL⟩
   have nL:(L.length:Int)<1000000:=by omega
   by_cases d0:((((k).fdiv (2 ^ min 12 IntKind.i64.bits))).tmod 16)=0
   ·have Ws:∀z∈L++[(1:Int)],Rg z:=fun z hz=>(List.mem_append.1 hz).elim (hL z) fun e=>by rw[List.mem_singleton] at e;rw[e];exact⟨by omega,by omega⟩
    simp only[Z8,seval,hI,bt d0,wQ _ _ _ _ nL];exact⟨_,by apply eA;rfl;all_goals simp only[aH,Z8,seval,hI,bP,tM,bO,uN,eC]<;>rfl,⟨(nd v.ns i).block.dW.pj,_⟩,L++[1],rfl,rfl,by rw[List.length_append,List.length_cons,List.length_nil];omega,Ws,rc1⟩
   by_cases d1:((((k).fdiv (2 ^ min 12 IntKind.i64.bits))).tmod 16)=1
   ·have z0:(0:Int)≤0:=by omega
    have z1:(0:Int)<(L.length:Int):=by omega
    have z2:0<L.length:=by omega
    have z3:1≤L.length:=z2
    have Ws:∀z∈L.set 0 4611686018427387904,Rg z:=fun z hz=>(List.mem_or_eq_of_mem_set hz).elim (hL z) fun e=>by rw[e];exact⟨by omega,by omega⟩
    have yR:dS (bI L) 0 [.v (.int .u64 4611686018427387904)] 1=bI (L.set 0 4611686018427387904):=by
     cases L with
     | nil=>simp at z2
     | cons a L=>simp[dS,bI,lV]
    simp only[Z8,seval,hI,bf d0,bt d1,z0,z1,z3,yR,Int.toNat_zero,Nat.zero_mul];exact⟨_,by apply eA;rfl;all_goals simp only[aH,Z8,seval,hI,bP,tM,bO,uN,eC]<;>rfl,⟨(nd v.ns i).block.dW.pj,_⟩,L.set 0 4611686018427387904,rfl,by simp only[ov,List.length_set],by rw[List.length_set];omega,Ws,rc1⟩
   simp only[Z8,seval,hI,bf d0,bf d1];exact⟨_,by apply eA;rfl;all_goals simp only[aH,Z8,seval,hI,bP,tM,bO,uN,eC]<;>rfl,⟨(nd v.ns i).block.dW.pj,_⟩,L,rfl,rfl,by omega,hL,rc1⟩
 simp only[Z8,seval,h.sd.tree,fQ,hi,m1,m2,bt c0,Pd,Tm];refine cI (fun m st=>∃(j:Nat) (X:AV) (L:List Int),(st.env 1=.v (.int .i64 k)∧st.env 2=.ptr 2 0 0∧st.heap 2 0=some (.cells (aA s))∧st.env 4=.ptr 4 0 0∧st.heap 4 0=some (.cells (cA eI))∧st.env 6=.ptr 6 0 0∧st.heap 6 0=some (.cells (cA ⟨c2,X⟩))∧st.env 7=.v (.int .i64 j))∧((X=.v (.slice none 0 0)∧L=[])∨∃g,X=.own 55 g∧g<st.aU 55∧st.heap 55 g=some (.row 23 1 L.length (bI L)))∧(∀y∈L,Rg y)∧L.length=j∧j≤(ol v.B).length∧m=(ol v.B).length-j)
  (fun e st=>e=.exit 0∧∃(g:Nat) (L:List Int),(st.env 1=.v (.int .i64 k)∧st.env 2=.ptr 2 0 0∧st.heap 2 0=some (.cells (aA s))∧st.env 4=.ptr 4 0 0∧st.heap 4 0=some (.cells (cA eI))∧st.env 6=.ptr 6 0 0∧st.heap 6 0=some (.cells (cA ⟨c2,.own 55 g⟩))∧st.heap 55 g=some (.row 23 1 L.length (bI L)))∧(∀y∈L,Rg y)∧L.length=(ol v.B).length) (ol v.B).length ?step ?start ?rest
 case step =>
  rintro m st ⟨j,X,L,hI,hX,hL,hj,hjB,hm⟩
  by_cases bA:(j:Int)<(ol v.B).length
  ·have q0:(0:Int)≤j:=by omega
   have hw:IntKind.i64.wrap ((j:Int)+1)=((j+1:Nat):Int):=by rw[nU _ (by omega) (by omega)];omega
   have nL:(L.length:Int)<1000000:=by omega
   obtain⟨y,hy9⟩:∃y,IntKind.u64.wrap ((k.fdiv (2 ^ min (IntKind.u64.wrap (j:Int)).toNat IntKind.i64.bits)).tmod 50)=y:=⟨_,rfl⟩
   have ry:Rg y:=by rw[← hy9];exact iM _
   have Ws:∀z∈L++[y],Rg z:=fun z hz=>(List.mem_append.1 hz).elim (hL z) fun e=>by rw[List.mem_singleton] at e;rw[e];exact ry
   have yS:(L++[y]).length=j+1:=by rw[List.length_append,List.length_cons,List.length_nil];omega
   rcases hX with ⟨rfl,rfl⟩|⟨g,rfl,hg,hh⟩
   ·apply oN ((ol v.B).length-(j+1))
    ·simp only[Z8,seval,hI,bA,q0,h.sd.iP,yG,hy9,hw];rfl
    ·exact⟨j+1,_,[]++[y],⟨by simp only[E8,seval,hI],by simp only[E8,seval,hI],by simp only[E8,seval,hI],by simp only[E8,seval,hI],by simp only[E8,seval,hI],by simp only[E8,seval,hI],by simp only[E8,seval,hI]<;>rfl,by simp only[E8,seval]⟩,.inr ⟨_,rfl,by simp only[E8,seval]<;>omega,by simp only[E8,seval]<;>rfl⟩,Ws,yS,by omega,rfl⟩
   ·have vA:(g=st.aU 55)=False:=eq_false (by omega)
    apply oN ((ol v.B).length-(j+1))
    ·simp only[Z8,seval,hI,hh,vA,bA,q0,h.sd.iP,yG,hy9,hw,wQ _ _ _ _ nL];rfl
    ·exact⟨j+1,_,L++[y],⟨by simp only[E8,seval,hI],by simp only[E8,seval,hI],by simp only[E8,seval,hI],by simp only[E8,seval,hI],by simp only[E8,seval,hI],by simp only[E8,seval,hI],by simp only[E8,seval,hI]<;>rfl,by simp only[E8,seval]⟩,.inr ⟨_,rfl,by simp only[E8,seval]<;>omega,by simp only[E8,seval]<;>rfl⟩,Ws,yS,by omega,rfl⟩
  ·rcases hX with ⟨rfl,rfl⟩|⟨g,rfl,hg,hh⟩
   ·simp at hj;omega
   ·apply oT (.exit 0)
    ·simp only[Z8,seval,hI,bA,h.sd.iP];rfl
    ·exact⟨rfl,g,L,by simp only[E8,seval,hI,hh],hL,by omega⟩
 case start=>exact⟨0,_,[],by and_intros<;>(simp only[E8,seval]<;>rfl),.inl ⟨rfl,rfl⟩,by simp,rfl,by omega,by omega⟩
 case rest =>
  rintro e st ⟨rfl,g,L,hI,hL,hlL⟩
  have nL:(L.length:Int)<1000000:=by omega
  by_cases d0:((((k).fdiv (2 ^ min 12 IntKind.i64.bits))).tmod 16)=0
  ·have Ws:∀z∈L++[(1:Int)],Rg z:=fun z hz=>(List.mem_append.1 hz).elim (hL z) fun e=>by rw[List.mem_singleton] at e;rw[e];exact⟨by omega,by omega⟩
   simp only[Z8,seval,hI,bt d0,wQ _ _ _ _ nL];exact⟨_,by apply eA;rfl;all_goals simp only[aH,Z8,seval,hI,bP,tM,bO,uN,eC]<;>rfl,⟨c2,_⟩,L++[1],rfl,rfl,by rw[List.length_append,List.length_cons,List.length_nil];omega,Ws,rc2⟩
  by_cases d1:((((k).fdiv (2 ^ min 12 IntKind.i64.bits))).tmod 16)=1
  ·have z0:(0:Int)≤0:=by omega
   have z1:(0:Int)<(L.length:Int):=by omega
   have z2:0<L.length:=by omega
   have z3:1≤L.length:=z2
   have Ws:∀z∈L.set 0 4611686018427387904,Rg z:=fun z hz=>(List.mem_or_eq_of_mem_set hz).elim (hL z) fun e=>by rw[e];exact⟨by omega,by omega⟩
   have yR:dS (bI L) 0 [.v (.int .u64 4611686018427387904)] 1=bI (L.set 0 4611686018427387904):=by
    cases L with
    | nil=>simp at z2
    | cons a L=>simp[dS,bI,lV]
   simp only[Z8,seval,hI,bf d0,bt d1,z0,z1,z3,yR,Int.toNat_zero,Nat.zero_mul];exact⟨_,by apply eA;rfl;all_goals simp only[aH,Z8,seval,hI,bP,tM,bO,uN,eC]<;>rfl,⟨c2,_⟩,L.set 0 4611686018427387904,rfl,by simp only[ov,List.length_set],by rw[List.length_set];omega,Ws,rc2⟩
  simp only[Z8,seval,hI,bf d0,bf d1];exact⟨_,by apply eA;rfl;all_goals simp only[aH,Z8,seval,hI,bP,tM,bO,uN,eC]<;>rfl,⟨c2,_⟩,L,rfl,rfl,by omega,hL,rc2⟩
structure TD (t:State) (v:SV) (Q R:Option (List Request)):Prop where
 sd:SD t.store v
 Hx:t.iY=ov aE Q
 ret:t.rK=ov aE R
 nQ:((ol Q).length:Int)<900000
 nR:((ol R).length:Int)<900000
theorem TD.fl {t:State} {v:SV} {Q R:Option (List Request)} (h:TD t v Q R):Flat t.store.cFg.iP∧Flat t.store.gH.dU∧Flat t.store.gH.gN∧Flat t.store.cC.early∧Flat t.store.cC.bL∧Flat t.store.tree.nodes∧Flat t.store.tables∧Flat t.iY∧Flat t.rK:=by
 obtain⟨h1,h2,h3,h4,h5,h6,h7⟩:=h.sd.fl
 exact⟨h1,h2,h3,h4,h5,h6,h7,by rw[h.Hx];exact iZ Q,by rw[h.ret];exact iZ R⟩
theorem TD.flat {t:State} {v:SV} {Q R:Option (List Request)} (h:TD t v Q R):Flat (.agg (aT t)):=(uH t).2 h.fl
def Ao (ns:List Node) (r:cN):Prop:=0≤aN ns r∧(nd ns (aN ns r)).status=0
theorem c85 {t:State} {v:SV} {Q R:Option (List Request)} (h:TD t v Q R) (r:cN):aB Tryz.prog 85 [.agg (aT t),.agg (bD r)]=some (.v (.bool (decide (Ao v.ns r)))):=by
 have hr:=eQ v.ns r
 rw[cL Tryz.func85 rfl aRs rfl];refine iT ?_
 by_cases g1:0≤aN v.ns r
 ·by_cases g2:(nd v.ns (aN v.ns r)).status=0
  ·simp only[Z8,seval,h.sd.tree,mU _ _ h.sd.nn,g1,hr.2,bt g2];exact⟨_,bZ rfl (by simp only[E8,seval]<;>rfl) (by first|exact .v _|simp only[eC]),by simp[Ao,g1,g2]⟩
  ·simp only[Z8,seval,h.sd.tree,mU _ _ h.sd.nn,g1,hr.2,bf g2];exact⟨_,bZ rfl (by simp only[E8,seval]<;>rfl) (by first|exact .v _|simp only[eC]),by simp[Ao,g1,g2]⟩
 ·simp only[Z8,seval,h.sd.tree,mU _ _ h.sd.nn,g1];exact⟨_,bZ rfl (by simp only[E8,seval]<;>rfl) (by first|exact .v _|simp only[eC]),by simp[Ao,g1]⟩
theorem k85 {t:State} {v:SV} {Q R:Option (List Request)} (h:TD t v Q R) (r:cN) (st:St) (d:Option Nat):aO (aB Tryz.prog) 85 [.agg (aT t),.agg (bD r)] st d=some { dst:=d,val:=.v (.bool (decide (Ao v.ns r)))}:=kx (c85 h r) (bF h.flat (qQ r)) (.v _) st d
def aGQ (t:State) (L:List Request) (r:cN) (n:Int):State:={ t with iY:=ov aE (some (L++[⟨⟨t.dA⟩,r,n,0⟩])),dA:=IntKind.u64.wrap (t.dA+1)}
theorem c86 {t:State} {v:SV} {Q R:Option (List Request)} (h:TD t v Q R) (r:cN) (n:Int):aB Tryz.prog 86 [.agg (aT t),.agg (bD r),.v (.int .i64 n)]=some (.agg (aT (aGQ t (ol Q) r n))):=by
 have pG:=h.fl
 have nq:((ol Q).length:Int)<1000000:=by have:=h.nQ;omega
 rw[cL Tryz.func86 rfl aRt rfl];refine iT ?_
 simp only[Z8,seval,h.Hx,qZ _ nq,tP _ _ _ _ nq];exact⟨_,by apply eA;rfl;all_goals simp only[aH,Z8,seval,pG,bP,vW,gG,bO,cS,pJ,eC]<;>rfl,rfl⟩
noncomputable def pK (ns:List Node) (l:List Request):List Request:=l.filter fun r=>decide (0≤aN ns r.block)
theorem c91 {t:State} {v:SV} {Q R:Option (List Request)} (h:TD t v Q R) (o:Option (List Request)) (hn:((ol o).length:Int)<1000000):aB Tryz.prog 91 [.agg (aT t),ov aE o]=some (Qb 63 35 aE (pK v.ns (ol o))):=by
 rw[cL Tryz.func91 rfl aRu (by cases o<;>rfl)]
 refine iT ?_
 simp only[Z8,seval];refine cI (fun m st=>∃k:Nat,(st.env 2=.ptr 2 0 0∧st.heap 2 0=some (.cells (aT t))∧st.env 1=ov aE o∧st.env 6=.v (.int .i64 k))∧(((((ol o).take k).filter (fun r=>decide (0≤aN v.ns r.block)))=[]∧st.env 5=.v (.slice none 0 0))∨((((ol o).take k).filter (fun r=>decide (0≤aN v.ns r.block)))≠[]∧∃g,st.env 5=.own 29 g∧g<st.aU 29∧st.heap 29 g=some (.row 63 35 (((ol o).take k).filter (fun r=>decide (0≤aN v.ns r.block))).length (aE (((ol o).take k).filter (fun r=>decide (0≤aN v.ns r.block)))))))∧k≤(ol o).length∧m=(ol o).length-k)
  (fun e st=>e=.exit 0∧(((((ol o).take (ol o).length).filter (fun r=>decide (0≤aN v.ns r.block)))=[]∧st.env 5=.v (.slice none 0 0))∨((((ol o).take (ol o).length).filter (fun r=>decide (0≤aN v.ns r.block)))≠[]∧∃g,st.env 5=.own 29 g∧g<st.aU 29∧st.heap 29 g=some (.row 63 35 (((ol o).take (ol o).length).filter (fun r=>decide (0≤aN v.ns r.block))).length (aE (((ol o).take (ol o).length).filter (fun r=>decide (0≤aN v.ns r.block)))))))∧st.env 2=.ptr 2 0 0∧st.heap 2 0=some (.cells (aT t))∧st.env 1=ov aE o) ((ol o).length) ?step ?start ?rest
 case step =>
  rintro m st ⟨k,hI,h5,hk,hm⟩
  have Hv:(((((ol o).take k).filter (fun r=>decide (0≤aN v.ns r.block))).length:Nat):Int)<1000000:=by have:=List.length_filter_le (fun r=>decide (0≤aN v.ns r.block)) ((ol o).take k);have h2:=List.length_take_le' k (ol o);omega
  by_cases bA:(k:Int)<(ol o).length
  ·have q0:(0:Int)≤k:=by omega
   have hw:IntKind.i64.wrap ((k:Int)+1)=((k+1:Nat):Int):=by rw[nU _ (by omega) (by omega)];omega
   have hs:=zI cZ (fun r=>decide (0≤aN v.ns r.block)) (ol o) k (by omega)
   by_cases hh:0≤aN v.ns (gx cZ (ol o) (k:Int)).block
   ·rw[if_pos (decide_eq_true hh)] at hs;rcases h5 with ⟨hy,h5⟩|⟨hy,g,h5⟩
    ·rw[hy] at hs;apply oN ((ol o).length-(k+1))
     ·simp only[Z8,seval,hI,h5,bA,hw,q0,h.sd.tree,mU _ _ h.sd.nn,hh];rfl
     ·exact⟨k+1,by simp only[E8,seval,hI],.inr ⟨by rw[hs];simp,_,by simp only[E8,seval]<;>rfl,(by simp only[E8,seval]<;>omega),(by rw[hs];simp only[E8,seval]<;>rfl)⟩,by omega,rfl⟩
    ·apply oN ((ol o).length-(k+1))
     ·simp only[Z8,seval,hI,h5,Hv,bA,hw,q0,h.sd.tree,mU _ _ h.sd.nn,hh];rfl
     ·exact⟨k+1,by simp only[E8,seval,hI],.inr ⟨by rw[hs];simp,_,by simp only[E8,seval]<;>rfl,(by simp only[E8,seval]<;>omega),(by rw[hs];simp only[E8,seval]<;>rfl)⟩,by omega,rfl⟩
   ·rw[if_neg (by simpa using hh),List.append_nil] at hs
    apply oN ((ol o).length-(k+1))
    ·simp only[Z8,seval,hI,bA,hw,q0,h.sd.tree,mU _ _ h.sd.nn,hh];rfl
    ·exact⟨k+1,by simp only[E8,seval,hI],by rw[hs];simpa only[E8,seval] using h5,by omega,rfl⟩
  ·have Bu:k=(ol o).length:=by omega
   rw[Bu] at h5;apply oT (.exit 0)
   ·simp only[Z8,seval,hI,bA];rfl
   ·exact⟨rfl,by simpa only[E8,seval] using h5,by simp only[E8,seval,hI]⟩
 case start=>exact⟨0,by simp only[E8,seval]<;>rfl,.inl ⟨rfl,by simp only[E8,seval]⟩,by omega,by omega⟩
 case rest =>
  rintro e st ⟨rfl,⟨hy,h5⟩|⟨hy,g,h5,hg,Bh⟩,hI⟩
  ·rw[List.take_length] at hy;rw[show Qb 63 35 aE (pK v.ns (ol o))=.v (.slice none 0 0) from if_pos hy];simp only[Z8,seval,h5];exact⟨_,bZ rfl (by simp only[E8,seval,h5]<;>rfl) (by first|exact .v _|simp only[eC,h5]),rfl⟩
  ·rw[List.take_length] at hy Bh;rw[show Qb 63 35 aE (pK v.ns (ol o))=.uniq 63 35 (pK v.ns (ol o)).length (aE (pK v.ns (ol o))) from if_neg hy];simp only[Z8,seval,h5];exact⟨_,tV rfl (by simp only[E8,seval,h5]<;>rfl) (by simp only[E8,seval,Bh]<;>rfl) (uK _),rfl⟩
noncomputable def WX (t:State) (v:SV) (Q R:Option (List Request)):State:={ t with iY:=ov aE (nz (pK v.ns (ol Q))),rK:=ov aE (nz (pK v.ns (ol R)))}
theorem c36 {t:State} {v:SV} {Q R:Option (List Request)} (h:TD t v Q R):aB Tryz.prog 36 [.agg (aT t)]=some (.agg (aT (WX t v Q R))):=by
 have pG:=h.fl
 have hf:=h.flat
 have cQ:=c91 h Q (by have:=h.nQ;omega)
 have cR:=c91 h R (by have:=h.nR;omega)
 rw[cL Tryz.func36 rfl aRv rfl];refine iT ?_
 by_cases e1:pK v.ns (ol Q)=[]
 ·rw[show Qb 63 35 aE (pK v.ns (ol Q))=.v (.slice none 0 0) from if_pos e1] at cQ;have z1:nz (pK v.ns (ol Q))=none:=if_pos e1
  have kQ:=kx cQ (bF hf (iZ Q)) (.v _)
  by_cases e2:pK v.ns (ol R)=[]
  ·rw[show Qb 63 35 aE (pK v.ns (ol R))=.v (.slice none 0 0) from if_pos e2] at cR;have z2:nz (pK v.ns (ol R))=none:=if_pos e2
   have kR:=kx cR (bF hf (iZ R)) (.v _)
   simp only[Z8,seval,h.Hx,h.ret,kQ,kR];exact⟨_,fL rfl (by simp only[E8,seval,pG]<;>rfl) (by simp only[Z8,seval,pG]<;>rfl) (by simp only[eC,and_self,pG]),by unfold WX;rw[z1,z2];rfl⟩
  ·rw[show Qb 63 35 aE (pK v.ns (ol R))=.uniq 63 35 (pK v.ns (ol R)).length (aE (pK v.ns (ol R))) from if_neg e2] at cR;have z2:nz (pK v.ns (ol R))=some (pK v.ns (ol R)):=if_neg e2
   have kR:∀(st:St) (d:Nat),aO (aB Tryz.prog) 91 [.agg (aT t),ov aE R] st (some d)=_:=fun st d=>jG (st:=st) (d:=d) (bF hf (iZ R)) cR
   simp only[Z8,seval,h.Hx,h.ret,kQ,kR];exact⟨_,by apply eA;rfl;all_goals simp only[aH,Z8,seval,pG,bP,vW,gG,bO,cS,pJ,eC]<;>rfl,by unfold WX;rw[z1,z2];rfl⟩
 ·rw[show Qb 63 35 aE (pK v.ns (ol Q))=.uniq 63 35 (pK v.ns (ol Q)).length (aE (pK v.ns (ol Q))) from if_neg e1] at cQ;have z1:nz (pK v.ns (ol Q))=some (pK v.ns (ol Q)):=if_neg e1
  have kQ:∀(st:St) (d:Nat),aO (aB Tryz.prog) 91 [.agg (aT t),ov aE Q] st (some d)=_:=fun st d=>jG (st:=st) (d:=d) (bF hf (iZ Q)) cQ
  by_cases e2:pK v.ns (ol R)=[]
  ·rw[show Qb 63 35 aE (pK v.ns (ol R))=.v (.slice none 0 0) from if_pos e2] at cR;have z2:nz (pK v.ns (ol R))=none:=if_pos e2
   have kR:=kx cR (bF hf (iZ R)) (.v _)
   simp only[Z8,seval,h.Hx,h.ret,kQ,kR];exact⟨_,by apply eA;rfl;all_goals simp only[aH,Z8,seval,pG,bP,vW,gG,bO,cS,pJ,eC]<;>rfl,by unfold WX;rw[z1,z2];rfl⟩
  ·rw[show Qb 63 35 aE (pK v.ns (ol R))=.uniq 63 35 (pK v.ns (ol R)).length (aE (pK v.ns (ol R))) from if_neg e2] at cR;have z2:nz (pK v.ns (ol R))=some (pK v.ns (ol R)):=if_neg e2
   have kR:∀(st:St) (d:Nat),aO (aB Tryz.prog) 91 [.agg (aT t),ov aE R] st (some d)=_:=fun st d=>jG (st:=st) (d:=d) (bF hf (iZ R)) cR
   simp only[Z8,seval,h.Hx,h.ret,kQ,kR];exact⟨_,by apply eA;rfl;all_goals simp only[aH,Z8,seval,pG,bP,vW,gG,bO,cS,pJ,eC]<;>rfl,by unfold WX;rw[z1,z2];rfl⟩
theorem TD.drp {t:State} {v:SV} {Q R:Option (List Request)} (h:TD t v Q R):TD (WX t v Q R) v (nz (pK v.ns (ol Q))) (nz (pK v.ns (ol R))):=by
 have h1:=List.length_filter_le (fun r:Request=>decide (0≤aN v.ns r.block)) (ol Q)
 have h2:=List.length_filter_le (fun r:Request=>decide (0≤aN v.ns r.block)) (ol R)
 refine⟨h.sd,rfl,rfl, ?_, ?_⟩
 ·rw[oW];have:=h.nQ;unfold pK;omega
 ·rw[oW];have:=h.nR;unfold pK;omega
noncomputable def z9 (ns:List Node) (p:Option (List Request) × Int) (r:cN):Option (List Request) × Int:=if Ao ns r then (some (ol p.1++[⟨⟨p.2⟩,r,0,0⟩]),IntKind.u64.wrap (p.2+1)) else p
noncomputable def Pe (ns:List Node) (p:Option (List Request) × Int) (l:List cN):Option (List Request) × Int:=l.foldl (z9 ns) p
theorem Y3 (ns:List Node) (a:Option (List Request) × Int) (l:List cN) (k:Nat) (h:k<l.length):Pe ns a (l.take (k+1))=z9 ns (Pe ns a (l.take k)) (gx dR l k):=by
 unfold Pe;rw[List.take_succ_eq_append_getElem h,List.foldl_append];simp[gx,h]
def WY (t:State) (p:Option (List Request) × Int):State:={ t with iY:=ov aE p.1,dA:=p.2 }
theorem TD.WY {t:State} {v:SV} {Q R:Option (List Request)} (h:TD t v Q R) (p:Option (List Request) × Int) (hn:((ol p.1).length:Int)<900000):TD (WY t p) v p.1 R:=⟨h.sd,rfl,h.ret,hn,h.nR⟩
theorem aGR {t:State} {v:SV} {Q R:Option (List Request)} (h:TD t v Q R):Tryz.WY t (Q,t.dA)=t:=by unfold Tryz.WY;simp only;rw[← h.Hx]
theorem aC2 (ns:List Node) (p:Option (List Request) × Int) (r:cN):(ol (z9 ns p r).1).length≤(ol p.1).length+1:=by
 unfold z9;split
 ·show (ol p.1++[_]).length≤_;rw[List.length_append,List.length_cons,List.length_nil];omega
 ·omega
theorem A0 (ns:List Node) (p:Option (List Request) × Int) (l:List cN):(ol (Pe ns p l).1).length≤(ol p.1).length+l.length:=by
 induction l generalizing p with
 | nil=>exact Nat.le_refl _
 | cons r l ih=>have h1:=ih (z9 ns p r);have h2:=aC2 ns p r;rw[List.length_cons];show (ol (Pe ns (z9 ns p r) l).1).length≤_;omega
theorem c32 {t:State} {v:SV} {Q R:Option (List Request)} (h:TD t v Q R) (L:Option (List cN)) (hn:((ol Q).length:Int)+(ol L).length<800000):aB Tryz.prog 32 [.agg (aT t),ov hU L]=some (.agg (aT (Tryz.WY t (Pe v.ns (Q,t.dA) (ol L))))):=by
 have hT:∀k:Nat,k≤(ol L).length→TD (Tryz.WY t (Pe v.ns (Q,t.dA) ((ol L).take k))) v (Pe v.ns (Q,t.dA) ((ol L).take k)).1 R:=fun k hk=>h.WY _ (by
  have:=A0 v.ns (Q,t.dA) ((ol L).take k);rw[List.length_take] at this;have e:ol (Q,t.dA).1=ol Q:=rfl;rw[e] at this;omega)
 rw[cL Tryz.func32 rfl aRw (by cases L<;>rfl)]
 refine iT ?_
 simp only[Z8,seval];refine cI (fun m st=>∃k:Nat,(st.env 1=ov hU L∧st.env 2=.ptr 2 0 0∧st.heap 2 0=some (.cells (aT (Tryz.WY t (Pe v.ns (Q,t.dA) ((ol L).take k)))))∧st.env 4=.ptr 4 0 0∧st.heap 4 0=some (.cells (aT lX))∧st.env 5=.v (.int .i64 k))∧k≤(ol L).length∧m=(ol L).length-k)
  (fun e st=>e=.exit 0∧(st.env 2=.ptr 2 0 0∧st.heap 2 0=some (.cells (aT (Tryz.WY t (Pe v.ns (Q,t.dA) (ol L)))))∧st.env 4=.ptr 4 0 0∧st.heap 4 0=some (.cells (aT lX)))) (ol L).length ?step ?start ?rest
 case step =>
  rintro m st ⟨k,hI,hk,hm⟩
  by_cases bA:(k:Int)<(ol L).length
  ·have q0:(0:Int)≤k:=by omega
   have hw:IntKind.i64.wrap ((k:Int)+1)=((k+1:Nat):Int):=by rw[nU _ (by omega) (by omega)];omega
   have hs:=Y3 v.ns (Q,t.dA) (ol L) k (by omega)
   have hTk:=hT k hk
   have I5:=k85 hTk (gx dR (ol L) (k:Int))
   by_cases g1:Ao v.ns (gx dR (ol L) (k:Int))
   ·have Q3:=hT (k+1) (by omega)
    have k86':=kx (c86 hTk (gx dR (ol L) (k:Int)) 0) (mE hTk.flat (qQ _) (.v _)) (by
     have:aGQ (Tryz.WY t (Pe v.ns (Q,t.dA) ((ol L).take k))) (ol (Pe v.ns (Q,t.dA) ((ol L).take k)).1) (gx dR (ol L) (k:Int)) 0=Tryz.WY t (Pe v.ns (Q,t.dA) ((ol L).take (k+1))):=by rw[hs,z9,if_pos g1];rfl
     rw[this];exact Q3.flat)
    have he:aGQ (Tryz.WY t (Pe v.ns (Q,t.dA) ((ol L).take k))) (ol (Pe v.ns (Q,t.dA) ((ol L).take k)).1) (gx dR (ol L) (k:Int)) 0=Tryz.WY t (Pe v.ns (Q,t.dA) ((ol L).take (k+1))):=by rw[hs,z9,if_pos g1];rfl
    rw[he] at k86'
    apply oN ((ol L).length-(k+1))
    ·simp only[Z8,seval,hI,bA,q0,I5,g1,k86',hw];rfl
    ·exact⟨k+1,by simp only[E8,seval,hI],by omega,rfl⟩
   ·rw[z9,if_neg g1] at hs;apply oN ((ol L).length-(k+1))
    ·simp only[Z8,seval,hI,bA,q0,I5,g1,hw];rfl
    ·exact⟨k+1,by simp only[E8,seval,hI,hs],by omega,rfl⟩
  ·have Bu:k=(ol L).length:=by omega
   rw[Bu,List.take_length] at hI;apply oT (.exit 0)
   ·simp only[Z8,seval,hI,Int.lt_irrefl];rfl
   ·exact⟨rfl,by simp only[E8,seval,hI]⟩
 case start=>exact⟨0,by rw[List.take_zero,show Pe v.ns (Q,t.dA) []=(Q,t.dA) from rfl,aGR h];simp only[E8,seval]<;>rfl,by omega,by omega⟩
 case rest =>
  rintro e st ⟨rfl,hI⟩
  have Q3:=(hT (ol L).length (Nat.le_refl _)).fl
  rw[List.take_length] at Q3;simp only[Z8,seval,hI];exact⟨_,fL rfl (by simp only[E8,seval,hI,Q3]<;>rfl) (by simp only[Z8,seval,hI,Q3]<;>rfl) (by simp only[eC,and_self,hI,Q3]),rfl⟩
noncomputable def PD (b:Int):Nat→Int→Int
 | 0,d=>d
 | n+1,d=>if IntKind.u64.wrap (b-d)≤d then b else PD b n (IntKind.u64.wrap (2 * d))
noncomputable def WZ (n b:Int):Int:=if b=0 then 0 else PD b (n-1).toNat 1
theorem aRy (n b:Int) (hn:n≤9223372036854775807):aB Tryz.prog 143 [.v (.int .i64 n),.v (.int .u64 b)]=some (.v (.int .u64 (WZ n b))):=by
 rw[cL Tryz.func143 rfl aMp rfl];refine iT ?_
 by_cases g0:b=0
 ·simp only[Z8,seval,bt g0];exact⟨_,bZ rfl (by simp only[E8,seval]<;>rfl) (by first|exact .v _|simp only[eC]),by rw[WZ,if_pos g0]⟩
 simp only[Z8,seval,bf g0];refine cI (fun m st=>∃(k:Nat) (d i:Int),(st.env 0=.v (.int .i64 n)∧st.env 1=.v (.int .u64 b)∧st.env 5=.v (.int .u64 d)∧st.env 6=.v (.int .i64 i))∧i=k+1∧PD b ((n-1).toNat-k) d=PD b (n-1).toNat 1∧k≤(n-1).toNat∧m=(n-1).toNat-k)
  (fun e st=>(e=.ret∧st.env 4=.v (.int .u64 (PD b (n-1).toNat 1)))∨(e=.exit 0∧st.env 5=.v (.int .u64 (PD b (n-1).toNat 1)))) (n-1).toNat ?step ?start ?rest
 case step =>
  rintro m st ⟨k,d,i,hI,hi,hd,hk,hm⟩
  by_cases bA:i<n
  ·have hw:IntKind.i64.wrap (i+1)=i+1:=nU _ (by omega) (by omega)
   have e1:(n-1).toNat-k=((n-1).toNat-(k+1))+1:=by omega
   rw[e1,PD] at hd;by_cases g1:IntKind.u64.wrap (b-d)≤d
   ·rw[if_pos g1] at hd;apply oT (.ret)
    ·simp only[Z8,seval,hI,bA,g1];rfl
    ·exact .inl ⟨rfl,by rw[← hd];simp only[E8,seval]⟩
   ·rw[if_neg g1] at hd;apply oN ((n-1).toNat-(k+1))
    ·simp only[Z8,seval,hI,bA,g1,hw];rfl
    ·exact⟨k+1,_,i+1,by and_intros<;>(simp only[E8,seval,hI]<;>rfl),by omega,hd,by omega,rfl⟩
  ·have e1:(n-1).toNat-k=0:=by omega
   rw[e1,PD] at hd;apply oT (.exit 0)
   ·simp only[Z8,seval,hI,bA];rfl
   ·exact .inr ⟨rfl,by rw[← hd];simp only[E8,seval,hI]⟩
 case start=>exact⟨0,1,1,by and_intros<;>(simp only[E8,seval]<;>rfl),rfl,rfl,by omega,by omega⟩
 case rest =>
  rintro e st (⟨rfl,h⟩|⟨rfl,h⟩)
  ·simp only[Z8,seval,h];exact⟨_,bZ rfl (by simp only[E8,seval,h]<;>rfl) (by first|exact .v _|simp only[eC,h]),by rw[WZ,if_neg g0]⟩
  ·simp only[Z8,seval,h];exact⟨_,bZ rfl (by simp only[E8,seval,h]<;>rfl) (by first|exact .v _|simp only[eC,h]),by rw[WZ,if_neg g0]⟩
theorem aRz (n b:Int) (hn:n≤9223372036854775807) (st:St) (d:Option Nat):aO (aB Tryz.prog) 143 [.v (.int .i64 n),.v (.int .u64 b)] st d=some { dst:=d,val:=.v (.int .u64 (WZ n b))}:=kx (aRy n b hn) (bF (.v _) (.v _)) (.v _) st d
theorem x37 {s:aM} {v:SV} {q:Int} (h:GI s v q) (r:RG s v) (hB:0<(ol v.B).length∧(ol v.B).length≤64) (k:Int) (hk:0≤k):∃x,aB Tryz.prog 37 [.agg (aA s),.v (.int .i64 k)]=some x∧∃(a:sG) (V:List Int),x=.agg (iC a)∧a.fB=ov aK (some V)∧(V.length:Int)≤1000∧Rg a.slot∧Rg a.target.aG:=by
 have hn:=h.sd.nn
 have hp:(0:Int)<(v.ns.length:Int):=by have:=h.pos;omega
 have fQ:¬((v.ns.length:Int)=0):=by omega
 obtain⟨m1,m2⟩:=cP (n:=(v.ns.length:Int)) hk hp
 obtain⟨i,hi⟩:∃i,k.tmod (v.ns.length:Int)=i:=⟨_,rfl⟩
 rw[hi] at m1 m2;obtain⟨m3,m4⟩:=cP (n:=(v.ns.length:Int)) (Bt hk (min 4 IntKind.i64.bits)) hp
 have Pd:=h.sp
 obtain⟨l,kl,hl⟩:=k45 (ol v.B).length ((k).fdiv (2 ^ min 3 IntKind.i64.bits)) (by omega) (by omega)
 have nl:(l.length:Int)<1000000:=by omega
 have rn:Rg s.now:=⟨r.now.1,by have:=r.now.2;omega⟩
 rw[cL Tryz.func37 rfl aRA rfl];by_cases g1:0<((((k).fdiv (2 ^ min 9 IntKind.i64.bits))).tmod 4)
 case neg =>
  obtain⟨y,hy,c,rfl,rc⟩:=x92 h r i (IntKind.u64.wrap ((s.now).tdiv s.cFg.jH)) (iM _)
  have Tm:=kx hy (mE h.sd.flat (.v _) (.v _)) (.agg _ (bR _))
  by_cases d0:((((k).fdiv (2 ^ min 12 IntKind.i64.bits))).tmod 20)=0
  ·simp only[Z8,seval,h.sd.tree,h.sd.iP,fQ,hi,m1,m2,kl,g1,Pd,Tm,bt d0];exact⟨_,by apply eA;rfl;all_goals simp only[aH,Z8,seval,bP,lY,bO,cS,jY,eC]<;>rfl,_,l,rfl,rfl,by omega,rn,iM _⟩
  by_cases d1:((((k).fdiv (2 ^ min 12 IntKind.i64.bits))).tmod 20)=1
  ·simp only[Z8,seval,h.sd.tree,h.sd.iP,fQ,hi,m1,m2,kl,g1,Pd,Tm,bf d0,bt d1,Ss];exact⟨_,by apply eA;rfl;all_goals simp only[aH,Z8,seval,bP,lY,bO,cS,jY,eC]<;>rfl,_,l,rfl,rfl,by omega,rn,rc⟩
  by_cases d2:((((k).fdiv (2 ^ min 12 IntKind.i64.bits))).tmod 20)=2
  ·simp only[Z8,seval,h.sd.tree,h.sd.iP,fQ,hi,m1,m2,kl,g1,Pd,Tm,bf d0,bf d1,bt d2,m3,m4];exact⟨_,by apply eA;rfl;all_goals simp only[aH,Z8,seval,bP,lY,bO,cS,jY,eC]<;>rfl,_,l,rfl,rfl,by omega,rn,rc⟩
  by_cases d3:((((k).fdiv (2 ^ min 12 IntKind.i64.bits))).tmod 20)=3
  ·simp only[Z8,seval,h.sd.tree,h.sd.iP,fQ,hi,m1,m2,kl,g1,Pd,Tm,bf d0,bf d1,bf d2,bt d3];exact⟨_,by apply eA;rfl;all_goals simp only[aH,Z8,seval,bP,lY,bO,cS,jY,eC]<;>rfl,_,l,rfl,rfl,by omega,iM _,rc⟩
  by_cases d4:((((k).fdiv (2 ^ min 12 IntKind.i64.bits))).tmod 20)=4
  ·simp only[Z8,seval,h.sd.tree,h.sd.iP,fQ,hi,m1,m2,kl,g1,Pd,Tm,bf d0,bf d1,bf d2,bf d3,bt d4,Ge _ _ _ _ nl];exact⟨_,by apply eA;rfl;all_goals simp only[aH,Z8,seval,bP,lY,bO,cS,jY,eC]<;>rfl,_,l++[((((k).fdiv (2 ^ min 17 IntKind.i64.bits))).tmod 9)],rfl,rfl,by rw[List.length_append,List.length_cons,List.length_nil];omega,rn,rc⟩
  simp only[Z8,seval,h.sd.tree,h.sd.iP,fQ,hi,m1,m2,kl,g1,Pd,Tm,bf d0,bf d1,bf d2,bf d3,bf d4];exact⟨_,by apply eA;rfl;all_goals simp only[aH,Z8,seval,bP,lY,bO,cS,jY,eC]<;>rfl,_,l,rfl,rfl,by omega,rn,rc⟩
 by_cases g2:0<s.now
 case neg =>
  obtain⟨y,hy,c,rfl,rc⟩:=x92 h r i (IntKind.u64.wrap ((s.now).tdiv s.cFg.jH)) (iM _)
  have Tm:=kx hy (mE h.sd.flat (.v _) (.v _)) (.agg _ (bR _))
  by_cases d0:((((k).fdiv (2 ^ min 12 IntKind.i64.bits))).tmod 20)=0
  ·simp only[Z8,seval,h.sd.tree,h.sd.iP,fQ,hi,m1,m2,kl,g1,g2,Pd,Tm,bt d0];exact⟨_,by apply eA;rfl;all_goals simp only[aH,Z8,seval,bP,lY,bO,cS,jY,eC]<;>rfl,_,l,rfl,rfl,by omega,rn,iM _⟩
  by_cases d1:((((k).fdiv (2 ^ min 12 IntKind.i64.bits))).tmod 20)=1
  ·simp only[Z8,seval,h.sd.tree,h.sd.iP,fQ,hi,m1,m2,kl,g1,g2,Pd,Tm,bf d0,bt d1,Ss];exact⟨_,by apply eA;rfl;all_goals simp only[aH,Z8,seval,bP,lY,bO,cS,jY,eC]<;>rfl,_,l,rfl,rfl,by omega,rn,rc⟩
  by_cases d2:((((k).fdiv (2 ^ min 12 IntKind.i64.bits))).tmod 20)=2
  ·simp only[Z8,seval,h.sd.tree,h.sd.iP,fQ,hi,m1,m2,kl,g1,g2,Pd,Tm,bf d0,bf d1,bt d2,m3,m4];exact⟨_,by apply eA;rfl;all_goals simp only[aH,Z8,seval,bP,lY,bO,cS,jY,eC]<;>rfl,_,l,rfl,rfl,by omega,rn,rc⟩
  by_cases d3:((((k).fdiv (2 ^ min 12 IntKind.i64.bits))).tmod 20)=3
  ·simp only[Z8,seval,h.sd.tree,h.sd.iP,fQ,hi,m1,m2,kl,g1,g2,Pd,Tm,bf d0,bf d1,bf d2,bt d3];exact⟨_,by apply eA;rfl;all_goals simp only[aH,Z8,seval,bP,lY,bO,cS,jY,eC]<;>rfl,_,l,rfl,rfl,by omega,iM _,rc⟩
  by_cases d4:((((k).fdiv (2 ^ min 12 IntKind.i64.bits))).tmod 20)=4
  ·simp only[Z8,seval,h.sd.tree,h.sd.iP,fQ,hi,m1,m2,kl,g1,g2,Pd,Tm,bf d0,bf d1,bf d2,bf d3,bt d4,Ge _ _ _ _ nl];exact⟨_,by apply eA;rfl;all_goals simp only[aH,Z8,seval,bP,lY,bO,cS,jY,eC]<;>rfl,_,l++[((((k).fdiv (2 ^ min 17 IntKind.i64.bits))).tmod 9)],rfl,rfl,by rw[List.length_append,List.length_cons,List.length_nil];omega,rn,rc⟩
  simp only[Z8,seval,h.sd.tree,h.sd.iP,fQ,hi,m1,m2,kl,g1,g2,Pd,Tm,bf d0,bf d1,bf d2,bf d3,bf d4];exact⟨_,by apply eA;rfl;all_goals simp only[aH,Z8,seval,bP,lY,bO,cS,jY,eC]<;>rfl,_,l,rfl,rfl,by omega,rn,rc⟩
 obtain⟨y,hy,c,rfl,rc⟩:=x92 h r i (IntKind.u64.wrap ((IntKind.u64.wrap (s.now-1)).tdiv s.cFg.jH)) (iM _)
 have Tm:=kx hy (mE h.sd.flat (.v _) (.v _)) (.agg _ (bR _))
 by_cases d0:((((k).fdiv (2 ^ min 12 IntKind.i64.bits))).tmod 20)=0
 ·simp only[Z8,seval,h.sd.tree,h.sd.iP,fQ,hi,m1,m2,kl,g1,g2,Pd,Tm,bt d0];exact⟨_,by apply eA;rfl;all_goals simp only[aH,Z8,seval,bP,lY,bO,cS,jY,eC]<;>rfl,_,l,rfl,rfl,by omega,iM _,iM _⟩
 by_cases d1:((((k).fdiv (2 ^ min 12 IntKind.i64.bits))).tmod 20)=1
 ·simp only[Z8,seval,h.sd.tree,h.sd.iP,fQ,hi,m1,m2,kl,g1,g2,Pd,Tm,bf d0,bt d1,Ss];exact⟨_,by apply eA;rfl;all_goals simp only[aH,Z8,seval,bP,lY,bO,cS,jY,eC]<;>rfl,_,l,rfl,rfl,by omega,iM _,rc⟩
 by_cases d2:((((k).fdiv (2 ^ min 12 IntKind.i64.bits))).tmod 20)=2
 ·simp only[Z8,seval,h.sd.tree,h.sd.iP,fQ,hi,m1,m2,kl,g1,g2,Pd,Tm,bf d0,bf d1,bt d2,m3,m4];exact⟨_,by apply eA;rfl;all_goals simp only[aH,Z8,seval,bP,lY,bO,cS,jY,eC]<;>rfl,_,l,rfl,rfl,by omega,iM _,rc⟩
 by_cases d3:((((k).fdiv (2 ^ min 12 IntKind.i64.bits))).tmod 20)=3
 ·simp only[Z8,seval,h.sd.tree,h.sd.iP,fQ,hi,m1,m2,kl,g1,g2,Pd,Tm,bf d0,bf d1,bf d2,bt d3];exact⟨_,by apply eA;rfl;all_goals simp only[aH,Z8,seval,bP,lY,bO,cS,jY,eC]<;>rfl,_,l,rfl,rfl,by omega,iM _,rc⟩
 by_cases d4:((((k).fdiv (2 ^ min 12 IntKind.i64.bits))).tmod 20)=4
 ·simp only[Z8,seval,h.sd.tree,h.sd.iP,fQ,hi,m1,m2,kl,g1,g2,Pd,Tm,bf d0,bf d1,bf d2,bf d3,bt d4,Ge _ _ _ _ nl];exact⟨_,by apply eA;rfl;all_goals simp only[aH,Z8,seval,bP,lY,bO,cS,jY,eC]<;>rfl,_,l++[((((k).fdiv (2 ^ min 17 IntKind.i64.bits))).tmod 9)],rfl,rfl,by rw[List.length_append,List.length_cons,List.length_nil];omega,iM _,rc⟩
 simp only[Z8,seval,h.sd.tree,h.sd.iP,fQ,hi,m1,m2,kl,g1,g2,Pd,Tm,bf d0,bf d1,bf d2,bf d3,bf d4];exact⟨_,by apply eA;rfl;all_goals simp only[aH,Z8,seval,bP,lY,bO,cS,jY,eC]<;>rfl,_,l,rfl,rfl,by omega,iM _,rc⟩
theorem iU {call:Nat→List AV→Option AV} {ops:Array Oper} {st:St} {T:Nat} {pos:String} {eW:Array Edge} (d:Nat):cH Tryz.prog call ops ⟨some d,.buildSlice 22 6 #[(0,.const (.int .i64 1)),(1,.const (.int .i64 1)),(2,.const (.int .i64 2)),(3,.const (.int .i64 2)),(4,.const (.int .i64 3)),(5,.const (.int .i64 4))],T,pos,eW,none⟩ st =
 some ((st.new d (.row 3 1 6 (aK [1,1,2,2,3,4]))).put (some d) (.own d (st.aU d))):=by
 rw[lA];simp[Nd,ze3,cT,St.ev,AV.jE,Value.oneCell',gT,AV.cells,List.range,List.range.loop,aK,qR]
theorem x25 {t:State} {v:SV} {Q R:Option (List Request)} {q:Int} (hT:TD t v Q R) (h:GI t.store v q) (hq:∀r∈ol Q,Rg r.tagged.tag) (k:Int) (hk:0≤k):∃x,aB Tryz.prog 25 [.agg (aT t),.v (.int .i64 k)]=some x∧∃w:gW,x=.agg (dJ w)∧Rg w.tagged.tag:=by
 have hn:=h.sd.nn
 have hp:(0:Int)<(v.ns.length:Int):=by have:=h.pos;omega
 have fQ:¬((v.ns.length:Int)=0):=by omega
 obtain⟨m1,m2⟩:=cP (n:=(v.ns.length:Int)) hk hp
 obtain⟨j0,j1⟩:=cP (n:=6) (Bt hk (min 4 IntKind.i64.bits)) (by omega)
 obtain⟨j,hj⟩:∃j,((((k).fdiv (2 ^ min 4 IntKind.i64.bits))).tmod 6)=j:=⟨_,rfl⟩
 rw[hj] at j0 j1;have g6:=nK (l:=[1,1,2,2,3,4]) j0 (by show j<((6:Nat):Int);omega)
 have fv:∀w:gW,Flat (.agg (dJ w))=True:=fun w=>eq_true (.agg _ (jS w))
 have Q4:=iM (k.tmod 9)
 rw[cG Tryz.func25 rfl aRB (by kernel_rfl) rfl]
 by_cases g1:(0:Int)<((ol Q).length:Int)
 case neg =>
  by_cases p0:0≤aN v.ns ((nd v.ns (k.tmod (v.ns.length:Int))).block.root)
  case neg =>
   have kp:=fun st d=>E4 v.ns (aN v.ns ((nd v.ns (k.tmod (v.ns.length:Int))).block.root)) (fun hh=>p0 hh.1) st d
   by_cases e2:((((k).fdiv (2 ^ min 14 IntKind.i64.bits))).tmod 16)=0
   ·simp only[ZG,seval,Bool.false_and,Prod.mk.injEq,Hm,iU,hj,j0,j1,g6,hT.Hx,h.sd.tree,fQ,m1,m2,mU _ _ hn,g1,kp,bt e2,Ss];exact⟨_,fL rfl (by simp only[E8,seval,fv]<;>rfl) (by simp only[Z8,seval,fv]<;>rfl) (by simp only[eC,and_self,fv]),_,rfl,Q4⟩
   simp only[ZG,seval,Bool.false_and,Prod.mk.injEq,Hm,iU,hj,j0,j1,g6,hT.Hx,h.sd.tree,fQ,m1,m2,mU _ _ hn,g1,kp,bf e2];exact⟨_,fL rfl (by simp only[E8,seval,fv]<;>rfl) (by simp only[Z8,seval,fv]<;>rfl) (by simp only[eC,and_self,fv]),_,rfl,Q4⟩
  have pr:=eQ v.ns ((nd v.ns (k.tmod (v.ns.length:Int))).block.root)
  have kp:=fun st d=>k76 v.ns h.up hn (aN v.ns ((nd v.ns (k.tmod (v.ns.length:Int))).block.root)) p0 pr.2 st d
  have pm:=vK h.up p0 pr.2
  have prg:∀x∈path v.ns (aN v.ns ((nd v.ns (k.tmod (v.ns.length:Int))).block.root)),0≤x∧x<v.ns.length:=fun x hx=>vL h.up hx
  have pl:=Bs h.up (aN v.ns ((nd v.ns (k.tmod (v.ns.length:Int))).block.root))
  obtain⟨p,ep⟩:∃p,path v.ns (aN v.ns ((nd v.ns (k.tmod (v.ns.length:Int))).block.root))=p:=⟨_,rfl⟩
  rw[ep] at kp pm prg pl;have l0:(0:Int)<(p.length:Int):=by have:=List.length_pos_of_mem pm;omega
  have lne:¬((p.length:Int)=0):=by omega
  by_cases e1:0<((((k).fdiv (2 ^ min 14 IntKind.i64.bits))).tmod 4)
  case neg =>
   by_cases e2:((((k).fdiv (2 ^ min 14 IntKind.i64.bits))).tmod 16)=0
   ·simp only[ZG,seval,Bool.false_and,Prod.mk.injEq,Hm,iU,hj,j0,j1,g6,hT.Hx,h.sd.tree,fQ,m1,m2,mU _ _ hn,g1,kp,l0,e1,bt e2,Ss];exact⟨_,fL rfl (by simp only[E8,seval,fv]<;>rfl) (by simp only[Z8,seval,fv]<;>rfl) (by simp only[eC,and_self,fv]),_,rfl,Q4⟩
   simp only[ZG,seval,Bool.false_and,Prod.mk.injEq,Hm,iU,hj,j0,j1,g6,hT.Hx,h.sd.tree,fQ,m1,m2,mU _ _ hn,g1,kp,l0,e1,bf e2];exact⟨_,fL rfl (by simp only[E8,seval,fv]<;>rfl) (by simp only[Z8,seval,fv]<;>rfl) (by simp only[eC,and_self,fv]),_,rfl,Q4⟩
  obtain⟨x1,x2⟩:=cP (n:=(p.length:Int)) (Bt hk (min 16 IntKind.i64.bits)) l0
  obtain⟨y,hy⟩:∃y,((((k).fdiv (2 ^ min 16 IntKind.i64.bits))).tmod (p.length:Int))=y:=⟨_,rfl⟩
  rw[hy] at x1 x2;have gp:=nK x1 x2
  obtain⟨z1,z2⟩:=prg (it p y) (by obtain⟨h1,h2⟩:=yA x1 x2;rw[h2];exact List.getElem_mem h1)
  by_cases e2:((((k).fdiv (2 ^ min 14 IntKind.i64.bits))).tmod 16)=0
  ·simp only[ZG,seval,Bool.false_and,Prod.mk.injEq,Hm,iU,hj,j0,j1,g6,hT.Hx,h.sd.tree,fQ,m1,m2,mU _ _ hn,g1,kp,l0,lne,e1,hy,x1,x2,gp,z1,z2,bt e2,Ss];exact⟨_,fL rfl (by simp only[E8,seval,fv]<;>rfl) (by simp only[Z8,seval,fv]<;>rfl) (by simp only[eC,and_self,fv]),_,rfl,Q4⟩
  simp only[ZG,seval,Bool.false_and,Prod.mk.injEq,Hm,iU,hj,j0,j1,g6,hT.Hx,h.sd.tree,fQ,m1,m2,mU _ _ hn,g1,kp,l0,lne,e1,hy,x1,x2,gp,z1,z2,bf e2];exact⟨_,fL rfl (by simp only[E8,seval,fv]<;>rfl) (by simp only[Z8,seval,fv]<;>rfl) (by simp only[eC,and_self,fv]),_,rfl,Q4⟩
 by_cases g2:0<((((k).fdiv (2 ^ min 8 IntKind.i64.bits))).tmod 8)
 case neg =>
  by_cases p0:0≤aN v.ns ((nd v.ns (k.tmod (v.ns.length:Int))).block.root)
  case neg =>
   have kp:=fun st d=>E4 v.ns (aN v.ns ((nd v.ns (k.tmod (v.ns.length:Int))).block.root)) (fun hh=>p0 hh.1) st d
   by_cases e2:((((k).fdiv (2 ^ min 14 IntKind.i64.bits))).tmod 16)=0
   ·simp only[ZG,seval,Bool.false_and,Prod.mk.injEq,Hm,iU,hj,j0,j1,g6,hT.Hx,h.sd.tree,fQ,m1,m2,mU _ _ hn,g1,g2,kp,bt e2,Ss];exact⟨_,fL rfl (by simp only[E8,seval,fv]<;>rfl) (by simp only[Z8,seval,fv]<;>rfl) (by simp only[eC,and_self,fv]),_,rfl,Q4⟩
   simp only[ZG,seval,Bool.false_and,Prod.mk.injEq,Hm,iU,hj,j0,j1,g6,hT.Hx,h.sd.tree,fQ,m1,m2,mU _ _ hn,g1,g2,kp,bf e2];exact⟨_,fL rfl (by simp only[E8,seval,fv]<;>rfl) (by simp only[Z8,seval,fv]<;>rfl) (by simp only[eC,and_self,fv]),_,rfl,Q4⟩
  have pr:=eQ v.ns ((nd v.ns (k.tmod (v.ns.length:Int))).block.root)
  have kp:=fun st d=>k76 v.ns h.up hn (aN v.ns ((nd v.ns (k.tmod (v.ns.length:Int))).block.root)) p0 pr.2 st d
  have pm:=vK h.up p0 pr.2
  have prg:∀x∈path v.ns (aN v.ns ((nd v.ns (k.tmod (v.ns.length:Int))).block.root)),0≤x∧x<v.ns.length:=fun x hx=>vL h.up hx
  have pl:=Bs h.up (aN v.ns ((nd v.ns (k.tmod (v.ns.length:Int))).block.root))
  obtain⟨p,ep⟩:∃p,path v.ns (aN v.ns ((nd v.ns (k.tmod (v.ns.length:Int))).block.root))=p:=⟨_,rfl⟩
  rw[ep] at kp pm prg pl;have l0:(0:Int)<(p.length:Int):=by have:=List.length_pos_of_mem pm;omega
  have lne:¬((p.length:Int)=0):=by omega
  by_cases e1:0<((((k).fdiv (2 ^ min 14 IntKind.i64.bits))).tmod 4)
  case neg =>
   by_cases e2:((((k).fdiv (2 ^ min 14 IntKind.i64.bits))).tmod 16)=0
   ·simp only[ZG,seval,Bool.false_and,Prod.mk.injEq,Hm,iU,hj,j0,j1,g6,hT.Hx,h.sd.tree,fQ,m1,m2,mU _ _ hn,g1,g2,kp,l0,e1,bt e2,Ss];exact⟨_,fL rfl (by simp only[E8,seval,fv]<;>rfl) (by simp only[Z8,seval,fv]<;>rfl) (by simp only[eC,and_self,fv]),_,rfl,Q4⟩
   simp only[ZG,seval,Bool.false_and,Prod.mk.injEq,Hm,iU,hj,j0,j1,g6,hT.Hx,h.sd.tree,fQ,m1,m2,mU _ _ hn,g1,g2,kp,l0,e1,bf e2];exact⟨_,fL rfl (by simp only[E8,seval,fv]<;>rfl) (by simp only[Z8,seval,fv]<;>rfl) (by simp only[eC,and_self,fv]),_,rfl,Q4⟩
  obtain⟨x1,x2⟩:=cP (n:=(p.length:Int)) (Bt hk (min 16 IntKind.i64.bits)) l0
  obtain⟨y,hy⟩:∃y,((((k).fdiv (2 ^ min 16 IntKind.i64.bits))).tmod (p.length:Int))=y:=⟨_,rfl⟩
  rw[hy] at x1 x2;have gp:=nK x1 x2
  obtain⟨z1,z2⟩:=prg (it p y) (by obtain⟨h1,h2⟩:=yA x1 x2;rw[h2];exact List.getElem_mem h1)
  by_cases e2:((((k).fdiv (2 ^ min 14 IntKind.i64.bits))).tmod 16)=0
  ·simp only[ZG,seval,Bool.false_and,Prod.mk.injEq,Hm,iU,hj,j0,j1,g6,hT.Hx,h.sd.tree,fQ,m1,m2,mU _ _ hn,g1,g2,kp,l0,lne,e1,hy,x1,x2,gp,z1,z2,bt e2,Ss];exact⟨_,fL rfl (by simp only[E8,seval,fv]<;>rfl) (by simp only[Z8,seval,fv]<;>rfl) (by simp only[eC,and_self,fv]),_,rfl,Q4⟩
  simp only[ZG,seval,Bool.false_and,Prod.mk.injEq,Hm,iU,hj,j0,j1,g6,hT.Hx,h.sd.tree,fQ,m1,m2,mU _ _ hn,g1,g2,kp,l0,lne,e1,hy,x1,x2,gp,z1,z2,bf e2];exact⟨_,fL rfl (by simp only[E8,seval,fv]<;>rfl) (by simp only[Z8,seval,fv]<;>rfl) (by simp only[eC,and_self,fv]),_,rfl,Q4⟩
 have qne:¬(((ol Q).length:Int)=0):=by omega
 obtain⟨c1,c2⟩:=cP (n:=((ol Q).length:Int)) (Bt hk (min 11 IntKind.i64.bits)) g1
 obtain⟨c,hc⟩:∃c,((((k).fdiv (2 ^ min 11 IntKind.i64.bits))).tmod ((ol Q).length:Int))=c:=⟨_,rfl⟩
 rw[hc] at c1 c2;have rTB:Rg (gx cZ (ol Q) c).tagged.tag:=hq _ (sH c1 c2)
 by_cases p0:0≤aN v.ns ((gx cZ (ol Q) c).block)
 case neg =>
  have kp:=fun st d=>E4 v.ns (aN v.ns ((gx cZ (ol Q) c).block)) (fun hh=>p0 hh.1) st d
  by_cases e2:((((k).fdiv (2 ^ min 14 IntKind.i64.bits))).tmod 16)=0
  ·simp only[ZG,seval,Bool.false_and,Prod.mk.injEq,Hm,iU,hj,j0,j1,g6,hT.Hx,h.sd.tree,fQ,m1,m2,mU _ _ hn,g1,g2,qne,hc,c1,c2,kp,bt e2,Ss];exact⟨_,fL rfl (by simp only[E8,seval,fv]<;>rfl) (by simp only[Z8,seval,fv]<;>rfl) (by simp only[eC,and_self,fv]),_,rfl,rTB⟩
  simp only[ZG,seval,Bool.false_and,Prod.mk.injEq,Hm,iU,hj,j0,j1,g6,hT.Hx,h.sd.tree,fQ,m1,m2,mU _ _ hn,g1,g2,qne,hc,c1,c2,kp,bf e2];exact⟨_,fL rfl (by simp only[E8,seval,fv]<;>rfl) (by simp only[Z8,seval,fv]<;>rfl) (by simp only[eC,and_self,fv]),_,rfl,rTB⟩
 have pr:=eQ v.ns ((gx cZ (ol Q) c).block)
 have kp:=fun st d=>k76 v.ns h.up hn (aN v.ns ((gx cZ (ol Q) c).block)) p0 pr.2 st d
 have pm:=vK h.up p0 pr.2
 have prg:∀x∈path v.ns (aN v.ns ((gx cZ (ol Q) c).block)),0≤x∧x<v.ns.length:=fun x hx=>vL h.up hx
 have pl:=Bs h.up (aN v.ns ((gx cZ (ol Q) c).block))
 obtain⟨p,ep⟩:∃p,path v.ns (aN v.ns ((gx cZ (ol Q) c).block))=p:=⟨_,rfl⟩
 rw[ep] at kp pm prg pl;have l0:(0:Int)<(p.length:Int):=by have:=List.length_pos_of_mem pm;omega
 have lne:¬((p.length:Int)=0):=by omega
 by_cases e1:0<((((k).fdiv (2 ^ min 14 IntKind.i64.bits))).tmod 4)
 case neg =>
  by_cases e2:((((k).fdiv (2 ^ min 14 IntKind.i64.bits))).tmod 16)=0
  ·simp only[ZG,seval,Bool.false_and,Prod.mk.injEq,Hm,iU,hj,j0,j1,g6,hT.Hx,h.sd.tree,fQ,m1,m2,mU _ _ hn,g1,g2,qne,hc,c1,c2,kp,l0,e1,bt e2,Ss];exact⟨_,fL rfl (by simp only[E8,seval,fv]<;>rfl) (by simp only[Z8,seval,fv]<;>rfl) (by simp only[eC,and_self,fv]),_,rfl,rTB⟩
  simp only[ZG,seval,Bool.false_and,Prod.mk.injEq,Hm,iU,hj,j0,j1,g6,hT.Hx,h.sd.tree,fQ,m1,m2,mU _ _ hn,g1,g2,qne,hc,c1,c2,kp,l0,e1,bf e2];exact⟨_,fL rfl (by simp only[E8,seval,fv]<;>rfl) (by simp only[Z8,seval,fv]<;>rfl) (by simp only[eC,and_self,fv]),_,rfl,rTB⟩
 obtain⟨x1,x2⟩:=cP (n:=(p.length:Int)) (Bt hk (min 16 IntKind.i64.bits)) l0
 obtain⟨y,hy⟩:∃y,((((k).fdiv (2 ^ min 16 IntKind.i64.bits))).tmod (p.length:Int))=y:=⟨_,rfl⟩
 rw[hy] at x1 x2;have gp:=nK x1 x2
 obtain⟨z1,z2⟩:=prg (it p y) (by obtain⟨h1,h2⟩:=yA x1 x2;rw[h2];exact List.getElem_mem h1)
 by_cases e2:((((k).fdiv (2 ^ min 14 IntKind.i64.bits))).tmod 16)=0
 ·simp only[ZG,seval,Bool.false_and,Prod.mk.injEq,Hm,iU,hj,j0,j1,g6,hT.Hx,h.sd.tree,fQ,m1,m2,mU _ _ hn,g1,g2,qne,hc,c1,c2,kp,l0,lne,e1,hy,x1,x2,gp,z1,z2,bt e2,Ss];exact⟨_,fL rfl (by simp only[E8,seval,fv]<;>rfl) (by simp only[Z8,seval,fv]<;>rfl) (by simp only[eC,and_self,fv]),_,rfl,rTB⟩
 simp only[ZG,seval,Bool.false_and,Prod.mk.injEq,Hm,iU,hj,j0,j1,g6,hT.Hx,h.sd.tree,fQ,m1,m2,mU _ _ hn,g1,g2,qne,hc,c1,c2,kp,l0,lne,e1,hy,x1,x2,gp,z1,z2,bf e2];exact⟨_,fL rfl (by simp only[E8,seval,fv]<;>rfl) (by simp only[Z8,seval,fv]<;>rfl) (by simp only[eC,and_self,fv]),_,rfl,rTB⟩
end Go.Ab.Tryz
section
namespace Go.Ab
open Classical
theorem pQ [Ext] {P:Program} {bi:Bool} {a b:Code} {st:St} {β:Type} {K:Ex × St→Option β} {R:β→Prop} (Q:St→Prop) (h:∃st',xE P bi a st=some (.normal,st')∧Q st')
 (rest:∀st',Q st'→∃r,cT (xE P bi b st') K=some r∧R r):∃r,cT (xE P bi (.seq a b) st) K=some r∧R r:=by
 obtain⟨s1,h1,h2⟩:=h
 rw[JO,h1];exact rest s1 h2
end Go.Ab
namespace Go.Ab.Tryz
open Classical Go.Proofs Go.Ab
structure BQ (n:Int) (v:SV) (b:Block):Prop extends RB b where
 rt:b.root=mkRoot n∨∃m∈v.ns,b.root=m.block.root
theorem x50 {s:aM} {v:SV} {q:Int} (h:GI s v q) (r:RG s v) (n k:Int) (hk:0≤k):∃x,aB Tryz.prog 50 [.agg (aA s),.v (.int .i64 n),.v (.int .i64 k)]=some x∧∃b:Block,x=.agg (aV b)∧BQ n v b:=by
 have hn:=h.sd.nn
 have hp:(0:Int)<(v.ns.length:Int):=by have:=h.pos;omega
 have fQ:¬((v.ns.length:Int)=0):=by omega
 have Pd:=h.sp
 have rn:Rg s.now:=⟨r.now.1,by have:=r.now.2;omega⟩
 have rnd:∀p:Int,0≤p→p<v.ns.length→RB (nd v.ns p).block:=fun p h0 h1=>(r.nd _ (Ti h0 h1)).1
 obtain⟨m1,m2⟩:=cP (n:=(v.ns.length:Int)) hk hp
 obtain⟨m3,m4⟩:=cP (n:=(v.ns.length:Int)) (Bt hk (min 3 IntKind.i64.bits)) hp
 rw[cG Tryz.func50 rfl aRC (by kernel_rfl) rfl]
 refine pQ (fun st=>st.aU 8=0∧st.aU 9=0∧st.aU 11=0∧st.env 1=.v (.int .i64 n)∧st.env 2=.v (.int .i64 k)∧st.env 3=.ptr 3 0 0∧st.heap 3 0=some (.cells (aA s))∧st.env 6=.ptr 6 0 0∧st.heap 6 0=some (.cells (aV dX))) ?h0 ?r0
 case h0 =>
  refine⟨?s1, ?h1, ?q1⟩
  case h1 =>
   simp only[ZG,seval,Bool.false_and,Prod.mk.injEq,sM];rfl
  case q1=>exact⟨by simp only[E8,seval]<;>rfl,by simp only[E8,seval]<;>rfl,by simp only[E8,seval]<;>rfl,by simp only[E8,seval]<;>rfl,by simp only[E8,seval]<;>rfl,by simp only[E8,seval]<;>rfl,by simp only[E8,seval]<;>rfl,by simp only[E8,seval]<;>rfl,by simp only[E8,seval]<;>rfl⟩
 case r0 =>
 intro st hI;refine pQ (fun st=>∃p:Int,(st.aU 8=0∧st.aU 9=0∧st.aU 11=0∧st.env 1=.v (.int .i64 n)∧st.env 2=.v (.int .i64 k)∧st.env 3=.ptr 3 0 0∧st.heap 3 0=some (.cells (aA s))∧st.env 6=.ptr 6 0 0∧st.heap 6 0=some (.cells (aV dX))∧st.env 7=.v (.int .i64 p))∧0≤p∧p<v.ns.length) ?h1 ?r1
 case h1 =>
  refine⟨?s2, ?h2, ?q2⟩
  case h2 =>
   simp only[ZG,seval,Bool.false_and,Prod.mk.injEq,sM,hI,h.sd.tree,fQ];rfl
  case q2=>exact⟨_,by and_intros<;>(simp only[E8,seval,hI]<;>rfl),m1,m2⟩
 case r1 =>
 rintro st ⟨p,hI,p0,p1⟩
 refine pQ (fun st=>∃p:Int,(st.aU 8=0∧st.aU 9=0∧st.aU 11=0∧st.env 1=.v (.int .i64 n)∧st.env 2=.v (.int .i64 k)∧st.env 3=.ptr 3 0 0∧st.heap 3 0=some (.cells (aA s))∧st.env 6=.ptr 6 0 0∧st.heap 6 0=some (.cells (aV dX))∧st.env 7=.v (.int .i64 p))∧0≤p∧p<v.ns.length) ?h2 ?r2
 case h2 =>
  by_cases g:0<((((k).fdiv (2 ^ min 6 IntKind.i64.bits))).tmod 3)
  ·obtain⟨M,hM⟩:∃M,(if (v.ns.length:Int)<3 then (v.ns.length:Int) else 3)=M:=⟨_,rfl⟩
   have hM1:1≤M∧M≤v.ns.length:=by rw[← hM];split<;>omega
   have hM0:¬M=0:=by omega
   obtain⟨x0,x1⟩:=cP (n:=M) p0 (by omega)
   have w1:IntKind.i64.wrap ((v.ns.length:Int)-1)=(v.ns.length:Int)-1:=nU _ (by omega) (by omega)
   have w2:IntKind.i64.wrap ((v.ns.length:Int)-1-p.tmod M)=(v.ns.length:Int)-1-p.tmod M:=nU _ (by omega) (by omega)
   refine⟨?s3, ?h3, ?q3⟩
   case h3 =>
    simp only[ZG,seval,Bool.false_and,Prod.mk.injEq,sM,hI,h.sd.tree,g,hM,hM0,w1,w2];rfl
   case q3=>exact⟨(v.ns.length:Int)-1-p.tmod M,by and_intros<;>(simp only[E8,seval,hI]<;>rfl),by omega,by omega⟩
  ·skip
   refine⟨?s4, ?h4, ?q4⟩
   case h4 =>
    simp only[ZG,seval,Bool.false_and,Prod.mk.injEq,sM,hI,g];rfl
   case q4=>exact⟨p,by and_intros<;>(simp only[E8,seval,hI]<;>rfl),p0,p1⟩
 case r2 =>
 clear hI p0 p1
 clear p
 rintro st ⟨p,hI,p0,p1⟩
 have rN:=rnd p p0 p1
 refine pQ (fun st=>st.aU 9=0∧st.aU 11=0∧st.env 1=.v (.int .i64 n)∧st.env 2=.v (.int .i64 k)∧st.env 3=.ptr 3 0 0∧st.heap 3 0=some (.cells (aA s))∧st.env 6=.ptr 6 0 0∧st.heap 6 0=some (.cells (aV dX))∧st.env 7=.v (.int .i64 p)∧st.env 8=.ptr 8 0 0∧st.heap 8 0=some (.cells (fJ (nd v.ns p)))) ?h4 ?r4
 case h4 =>
  refine⟨?s5, ?h5, ?q5⟩
  case h5 =>
   simp only[ZG,seval,Bool.false_and,Prod.mk.injEq,sM,hI,h.sd.tree,p0,p1];rfl
  case q5=>exact⟨by simp only[E8,seval,hI]<;>rfl,by simp only[E8,seval,hI]<;>rfl,by simp only[E8,seval,hI]<;>rfl,by simp only[E8,seval,hI]<;>rfl,by simp only[E8,seval,hI]<;>rfl,by simp only[E8,seval,hI]<;>rfl,by simp only[E8,seval,hI]<;>rfl,by simp only[E8,seval,hI]<;>rfl,by simp only[E8,seval,hI]<;>rfl,by simp only[E8,seval,hI]<;>rfl,by simp only[E8,seval,hI]<;>rfl⟩
 case r4 =>
 clear hI
 intro st hI;refine pQ (fun st=>∃b:Block,(st.aU 11=0∧st.env 1=.v (.int .i64 n)∧st.env 2=.v (.int .i64 k)∧st.env 3=.ptr 3 0 0∧st.heap 3 0=some (.cells (aA s))∧st.env 6=.ptr 6 0 0∧st.heap 6 0=some (.cells (aV dX))∧st.env 7=.v (.int .i64 p)∧st.env 8=.ptr 8 0 0∧st.heap 8 0=some (.cells (fJ (nd v.ns p)))∧st.env 9=.ptr 9 0 0∧st.heap 9 0=some (.cells (aV b)))∧BQ n v b) ?h5 ?r5
 case h5 =>
  refine⟨?s6, ?h6, ?q6⟩
  case h6 =>
   simp only[ZG,seval,Bool.false_and,Prod.mk.injEq,sM,hI,Ss];rfl
  case q6=>exact⟨_,by and_intros<;>(simp only[E8,seval,hI]<;>rfl),by exact⟨⟨rn,rN.j,rN.f,rN.pj,rN.pf⟩,.inl rfl⟩⟩
 case r5 =>
 clear hI
 rintro st ⟨b,hI,rb⟩
 refine pQ (fun st=>∃b:Block,(st.aU 11=0∧st.env 1=.v (.int .i64 n)∧st.env 2=.v (.int .i64 k)∧st.env 3=.ptr 3 0 0∧st.heap 3 0=some (.cells (aA s))∧st.env 6=.ptr 6 0 0∧st.heap 6 0=some (.cells (aV dX))∧st.env 7=.v (.int .i64 p)∧st.env 8=.ptr 8 0 0∧st.heap 8 0=some (.cells (fJ (nd v.ns p)))∧st.env 9=.ptr 9 0 0∧st.heap 9 0=some (.cells (aV b)))∧BQ n v b) ?h6 ?r6
 case h6 =>
  by_cases g:((((k).fdiv (2 ^ min 10 IntKind.i64.bits))).tmod 5)=0
  case neg =>
   refine⟨?s7, ?h7, ?q7⟩
   case h7 =>
    simp only[ZG,seval,Bool.false_and,Prod.mk.injEq,sM,hI,bf g];rfl
   case q7=>exact⟨b,by and_intros<;>(simp only[E8,seval,hI]<;>rfl),rb⟩
  by_cases g2:0<s.now
  case neg =>
   refine⟨?s8, ?h8, ?q8⟩
   case h8 =>
    simp only[ZG,seval,Bool.false_and,Prod.mk.injEq,sM,hI,bt g,g2];rfl
   case q8=>exact⟨b,by and_intros<;>(simp only[E8,seval,hI]<;>rfl),rb⟩
  refine⟨?s9, ?h9, ?q9⟩
  case h9 =>
   simp only[ZG,seval,Bool.false_and,Prod.mk.injEq,sM,hI,bt g,g2];rfl
  case q9=>exact⟨_,by and_intros<;>(simp only[E8,seval,hI]<;>rfl),by exact⟨⟨iM _,rb.j,rb.f,rb.pj,rb.pf⟩,rb.rt⟩⟩
 case r6 =>
 clear hI rb
 clear b
 rintro st ⟨b,hI,rb⟩
 refine pQ (fun st=>∃b:Block,(st.aU 11=0∧st.env 1=.v (.int .i64 n)∧st.env 2=.v (.int .i64 k)∧st.env 3=.ptr 3 0 0∧st.heap 3 0=some (.cells (aA s))∧st.env 6=.ptr 6 0 0∧st.heap 6 0=some (.cells (aV dX))∧st.env 7=.v (.int .i64 p)∧st.env 8=.ptr 8 0 0∧st.heap 8 0=some (.cells (fJ (nd v.ns p)))∧st.env 9=.ptr 9 0 0∧st.heap 9 0=some (.cells (aV b)))∧BQ n v b) ?h8 ?r8
 case h8 =>
  by_cases g:((((k).fdiv (2 ^ min 12 IntKind.i64.bits))).tmod 16)=0
  case neg =>
   refine⟨?s10, ?h10, ?q10⟩
   case h10 =>
    simp only[ZG,seval,Bool.false_and,Prod.mk.injEq,sM,hI,bf g];rfl
   case q10=>exact⟨b,by and_intros<;>(simp only[E8,seval,hI]<;>rfl),rb⟩
  refine⟨?s11, ?h11, ?q11⟩
  case h11 =>
   simp only[ZG,seval,Bool.false_and,Prod.mk.injEq,sM,hI,bt g,Ss];rfl
  case q11=>exact⟨_,by and_intros<;>(simp only[E8,seval,hI]<;>rfl),by exact⟨⟨rb.sl,rb.j,rb.f,rb.pj,rb.pf⟩,rb.rt⟩⟩
 case r8 =>
 clear hI rb
 clear b
 rintro st ⟨b,hI,rb⟩
 refine pQ (fun st=>∃e:Int,(st.aU 11=0∧st.env 1=.v (.int .i64 n)∧st.env 2=.v (.int .i64 k)∧st.env 3=.ptr 3 0 0∧st.heap 3 0=some (.cells (aA s))∧st.env 6=.ptr 6 0 0∧st.heap 6 0=some (.cells (aV dX))∧st.env 7=.v (.int .i64 p)∧st.env 8=.ptr 8 0 0∧st.heap 8 0=some (.cells (fJ (nd v.ns p)))∧st.env 9=.ptr 9 0 0∧st.heap 9 0=some (.cells (aV b))∧st.env 10=.v (.int .u64 e))∧Rg e) ?h10 ?r10
 case h10 =>
  refine⟨?s12, ?h12, ?q12⟩
  case h12 =>
   simp only[ZG,seval,Bool.false_and,Prod.mk.injEq,sM,hI,Pd];rfl
  case q12=>exact⟨_,by and_intros<;>(simp only[E8,seval,hI]<;>rfl),iM _⟩
 case r10 =>
 clear hI
 rintro st ⟨e,hI,re⟩
 obtain⟨y,hy,c,rfl,rc⟩:=x92 h r p e re
 have Tm:=kx hy (mE h.sd.flat (.v _) (.v _)) (.agg _ (bR _))
 refine pQ (fun st=>∃b:Block,(st.env 1=.v (.int .i64 n)∧st.env 2=.v (.int .i64 k)∧st.env 3=.ptr 3 0 0∧st.heap 3 0=some (.cells (aA s))∧st.env 6=.ptr 6 0 0∧st.heap 6 0=some (.cells (aV dX))∧st.env 7=.v (.int .i64 p)∧st.env 8=.ptr 8 0 0∧st.heap 8 0=some (.cells (fJ (nd v.ns p)))∧st.env 9=.ptr 9 0 0∧st.heap 9 0=some (.cells (aV b))∧st.env 10=.v (.int .u64 e))∧BQ n v b) ?h11 ?r11
 case h11 =>
  by_cases g:b.dW.pj.aG<c.aG
  case neg =>
   refine⟨?s13, ?h13, ?q13⟩
   case h13 =>
    simp only[ZG,seval,Bool.false_and,Prod.mk.injEq,sM,hI,Tm,g];rfl
   case q13=>exact⟨b,by and_intros<;>(simp only[E8,seval,hI]<;>rfl),rb⟩
  by_cases g2:((((k).fdiv (2 ^ min 13 IntKind.i64.bits))).tmod 2)=0
  case neg =>
   refine⟨?s14, ?h14, ?q14⟩
   case h14 =>
    simp only[ZG,seval,Bool.false_and,Prod.mk.injEq,sM,hI,Tm,g,bf g2];rfl
   case q14=>exact⟨b,by and_intros<;>(simp only[E8,seval,hI]<;>rfl),rb⟩
  by_cases g3:((((k).fdiv (2 ^ min 14 IntKind.i64.bits))).tmod 2)=0
  case neg =>
   refine⟨?s15, ?h15, ?q15⟩
   case h15 =>
    simp only[ZG,seval,Bool.false_and,Prod.mk.injEq,sM,hI,Tm,g,bt g2,bf g3];rfl
   case q15=>exact⟨_,by and_intros<;>(simp only[E8,seval,hI]<;>rfl),by exact⟨⟨rb.sl,rb.j,rb.f,rc,rb.pf⟩,rb.rt⟩⟩
  refine⟨?s16, ?h16, ?q16⟩
  case h16 =>
   simp only[ZG,seval,Bool.false_and,Prod.mk.injEq,sM,hI,Tm,g,bt g2,bt g3];rfl
  case q16=>exact⟨_,by and_intros<;>(simp only[E8,seval,hI]<;>rfl),by exact⟨⟨rb.sl,rb.j,rb.f,rc,rb.pj⟩,rb.rt⟩⟩
 case r11 =>
 clear hI rb
 clear b
 rintro st ⟨b,hI,rb⟩
 refine pQ (fun st=>∃b:Block,(st.env 1=.v (.int .i64 n)∧st.env 2=.v (.int .i64 k)∧st.env 3=.ptr 3 0 0∧st.heap 3 0=some (.cells (aA s))∧st.env 6=.ptr 6 0 0∧st.heap 6 0=some (.cells (aV dX))∧st.env 7=.v (.int .i64 p)∧st.env 8=.ptr 8 0 0∧st.heap 8 0=some (.cells (fJ (nd v.ns p)))∧st.env 9=.ptr 9 0 0∧st.heap 9 0=some (.cells (aV b))∧st.env 10=.v (.int .u64 e))∧BQ n v b) ?h16 ?r16
 case h16 =>
  by_cases g:((((k).fdiv (2 ^ min 15 IntKind.i64.bits))).tmod 3)=0
  case neg =>
   refine⟨?s17, ?h17, ?q17⟩
   case h17 =>
    simp only[ZG,seval,Bool.false_and,Prod.mk.injEq,sM,hI,bf g];rfl
   case q17=>exact⟨b,by and_intros<;>(simp only[E8,seval,hI]<;>rfl),rb⟩
  by_cases g2:IntKind.u64.wrap ((nd v.ns p).block.slot.tdiv s.cFg.jH)<e
  case neg =>
   refine⟨?s18, ?h18, ?q18⟩
   case h18 =>
    simp only[ZG,seval,Bool.false_and,Prod.mk.injEq,sM,hI,bt g,Pd,g2];rfl
   case q18=>exact⟨b,by and_intros<;>(simp only[E8,seval,hI]<;>rfl),rb⟩
  refine⟨?s19, ?h19, ?q19⟩
  case h19 =>
   simp only[ZG,seval,Bool.false_and,Prod.mk.injEq,sM,hI,bt g,Pd,g2];rfl
  case q19=>exact⟨_,by and_intros<;>(simp only[E8,seval,hI]<;>rfl),by exact⟨⟨rb.sl,rN.pj,rN.pf,rb.pj,rb.pf⟩,rb.rt⟩⟩
 case r16 =>
 clear hI rb
 clear b
 rintro st ⟨b,hI,rb⟩
 refine pQ (fun st=>∃b:Block,(st.env 1=.v (.int .i64 n)∧st.env 2=.v (.int .i64 k)∧st.env 3=.ptr 3 0 0∧st.heap 3 0=some (.cells (aA s))∧st.env 6=.ptr 6 0 0∧st.heap 6 0=some (.cells (aV dX))∧st.env 7=.v (.int .i64 p)∧st.env 8=.ptr 8 0 0∧st.heap 8 0=some (.cells (fJ (nd v.ns p)))∧st.env 9=.ptr 9 0 0∧st.heap 9 0=some (.cells (aV b))∧st.env 10=.v (.int .u64 e))∧BQ n v b) ?h18 ?r18
 case h18 =>
  by_cases g:(nd v.ns p).block.jL=dR
  case neg =>
   refine⟨?s20, ?h20, ?q20⟩
   case h20 =>
    simp only[ZG,seval,Bool.false_and,Prod.mk.injEq,sM,hI,g,Ss,pI,Nat.reduceLT];rfl
   case q20=>exact⟨_,by and_intros<;>(simp only[E8,seval,hI]<;>rfl),by exact⟨⟨rb.sl,rb.j,rb.f,rb.pj,rb.pf⟩,rb.rt⟩⟩
  by_cases g2:((((k).fdiv (2 ^ min 16 IntKind.i64.bits))).tmod 3)=0
  case neg =>
   refine⟨?s21, ?Bg, ?q21⟩
   case Bg =>
    simp only[ZG,seval,Bool.false_and,Prod.mk.injEq,sM,hI,g,bf g2];rfl
   case q21=>exact⟨b,by and_intros<;>(simp only[E8,seval,hI]<;>rfl),rb⟩
  refine⟨?s22, ?Cv, ?q22⟩
  case Cv =>
   simp only[ZG,seval,Bool.false_and,Prod.mk.injEq,sM,hI,g,bt g2,Ss,pI,Nat.reduceLT];rfl
  case q22=>exact⟨_,by and_intros<;>(simp only[E8,seval,hI]<;>rfl),by exact⟨⟨rb.sl,rb.j,rb.f,rb.pj,rb.pf⟩,rb.rt⟩⟩
 case r18 =>
 clear hI rb
 clear b
 rintro st ⟨b,hI,rb⟩
 obtain⟨w0,hw0,W,rfl⟩:=aRm ((k).fdiv (2 ^ min 3 IntKind.i64.bits))
 have k111:=kx hw0 (cV (.v _)) (.agg _ (iF W))
 refine pQ (fun st=>∃b:Block,(st.env 1=.v (.int .i64 n)∧st.env 2=.v (.int .i64 k)∧st.env 3=.ptr 3 0 0∧st.heap 3 0=some (.cells (aA s))∧st.env 6=.ptr 6 0 0∧st.heap 6 0=some (.cells (aV dX))∧st.env 7=.v (.int .i64 p)∧st.env 8=.ptr 8 0 0∧st.heap 8 0=some (.cells (fJ (nd v.ns p)))∧st.env 9=.ptr 9 0 0∧st.heap 9 0=some (.cells (aV b))∧st.env 10=.v (.int .u64 e))∧BQ n v b) ?Bg ?r21
 case Bg =>
  by_cases c0:((((k).fdiv (2 ^ min 18 IntKind.i64.bits))).tmod 24)=0
  ·skip
   refine⟨?s23, ?Zb, ?q23⟩
   case Zb =>
    simp only[ZG,seval,Bool.false_and,Prod.mk.injEq,sM,hI,bt c0,Ss];rfl
   case q23=>exact⟨_,by and_intros<;>(simp only[E8,seval,hI]<;>rfl),by exact⟨⟨rb.sl,rb.j,rb.f,rb.pj,rb.pf⟩,rb.rt⟩⟩
  by_cases c1:((((k).fdiv (2 ^ min 18 IntKind.i64.bits))).tmod 24)=1
  ·skip
   refine⟨?s24, ?h24, ?q24⟩
   case h24 =>
    simp only[ZG,seval,Bool.false_and,Prod.mk.injEq,sM,hI,bf c0,bt c1,k111];rfl
   case q24=>exact⟨_,by and_intros<;>(simp only[E8,seval,hI]<;>rfl),by exact⟨⟨rb.sl,rb.j,rb.f,rb.pj,rb.pf⟩,rb.rt⟩⟩
  by_cases c2:((((k).fdiv (2 ^ min 18 IntKind.i64.bits))).tmod 24)=2
  ·skip
   refine⟨?s25, ?h25, ?q25⟩
   case h25 =>
    simp only[ZG,seval,Bool.false_and,Prod.mk.injEq,sM,hI,bf c0,bf c1,bt c2,k111];rfl
   case q25=>exact⟨_,by and_intros<;>(simp only[E8,seval,hI]<;>rfl),by exact⟨⟨rb.sl,rb.j,rb.f,rb.pj,rb.pf⟩,rb.rt⟩⟩
  by_cases c3:((((k).fdiv (2 ^ min 18 IntKind.i64.bits))).tmod 24)=3
  ·skip
   refine⟨?s26, ?h26, ?q26⟩
   case h26 =>
    simp only[ZG,seval,Bool.false_and,Prod.mk.injEq,sM,hI,bf c0,bf c1,bf c2,bt c3];rfl
   case q26=>exact⟨_,by and_intros<;>(simp only[E8,seval,hI]<;>rfl),by exact⟨⟨rb.sl,rb.j,rb.f,iM _,rb.pf⟩,rb.rt⟩⟩
  by_cases c4:((((k).fdiv (2 ^ min 18 IntKind.i64.bits))).tmod 24)=4
  ·skip
   refine⟨?s27, ?h27, ?q27⟩
   case h27 =>
    simp only[ZG,seval,Bool.false_and,Prod.mk.injEq,sM,hI,bf c0,bf c1,bf c2,bf c3,bt c4];rfl
   case q27=>exact⟨_,by and_intros<;>(simp only[E8,seval,hI]<;>rfl),by exact⟨⟨iM _,rb.j,rb.f,rb.pj,rb.pf⟩,rb.rt⟩⟩
  by_cases c5:((((k).fdiv (2 ^ min 18 IntKind.i64.bits))).tmod 24)=5
  ·skip
   refine⟨?s28, ?h28, ?q28⟩
   case h28 =>
    simp only[ZG,seval,Bool.false_and,Prod.mk.injEq,sM,hI,bf c0,bf c1,bf c2,bf c3,bf c4,bt c5,h.sd.tree,fQ,m3,m4];rfl
   case q28=>exact⟨_,by and_intros<;>(simp only[E8,seval,hI]<;>rfl),by exact⟨⟨rb.sl,rb.j,rb.f,rb.pj,rb.pf⟩,.inr ⟨_,Ti m3 m4,rfl⟩⟩⟩
  by_cases c6:((((k).fdiv (2 ^ min 18 IntKind.i64.bits))).tmod 24)=6
  ·skip
   refine⟨?s29, ?h29, ?q29⟩
   case h29 =>
    simp only[ZG,seval,Bool.false_and,Prod.mk.injEq,sM,hI,bf c0,bf c1,bf c2,bf c3,bf c4,bf c5,bt c6,Ss];rfl
   case q29=>exact⟨_,by and_intros<;>(simp only[E8,seval,hI]<;>rfl),by exact⟨⟨rb.sl,rb.j,rb.f,rb.pj,rb.pf⟩,rb.rt⟩⟩
  by_cases c7:((((k).fdiv (2 ^ min 18 IntKind.i64.bits))).tmod 24)=7
  ·skip
   refine⟨?s30, ?h30, ?q30⟩
   case h30 =>
    simp only[ZG,seval,Bool.false_and,Prod.mk.injEq,sM,hI,bf c0,bf c1,bf c2,bf c3,bf c4,bf c5,bf c6,bt c7];rfl
   case q30=>exact⟨_,by and_intros<;>(simp only[E8,seval,hI]<;>rfl),by exact⟨⟨rb.sl,rb.j,rb.f,rb.pj,rb.pf⟩,rb.rt⟩⟩
  refine⟨?s31, ?h31, ?q31⟩
  case h31 =>
   simp only[ZG,seval,Bool.false_and,Prod.mk.injEq,sM,hI,bf c0,bf c1,bf c2,bf c3,bf c4,bf c5,bf c6,bf c7];rfl
  case q31=>exact⟨b,by and_intros<;>(simp only[E8,seval,hI]<;>rfl),rb⟩
 case r21 =>
 clear hI rb
 clear b
 rintro st ⟨b,hI,rb⟩
 simp only[ZG,seval,Bool.false_and,Prod.mk.injEq,sM,hI];exact⟨_,fL rfl (by simp only[E8,seval,hI]<;>rfl) (by simp only[Z8,seval,hI]<;>rfl) (by simp only[eC,and_self,hI]),b,rfl,rb⟩
end Go.Ab.Tryz
end
namespace Go.Ab.Tryz
open Classical Go.Proofs Go.Ab
def Gw (st st':St):Prop:=(∀s g,g<st.aU s→st'.heap s g=st.heap s g)∧∀s,st.aU s≤st'.aU s
theorem aRF:aC 0 3 (some 2)=[]∧aC 1 17 (some 6)=[]∧aC 2 2 (some 21)=[]:=⟨rfl,rfl,rfl⟩
theorem aFx {s:aM} {v:SV} (hs:SD s v) (X:AV) (a:sG) (V:Option (List Int)) (ha:a.fB=ov aK V) (hV:((ol V).length:Int)<1000000) (hr:∀x∈ol V,0≤x∧x<(ol v.L).length) :
 ∃G:St→St,∀st,pR Tryz.prog 44 [.agg (aA (xD s X)),.agg (iC a)] st=some (.agg (aA (xD (Tf s v a (ol V)) X)),G st)∧Gw st (G st):=by
 have one:∀st,∃st',pR Tryz.prog 44 [.agg (aA (xD s X)),.agg (iC a)] st=some (.agg (aA (xD (Tf s v a (ol V)) X)),st')∧Gw st st':=by
  intro st;have hl:(xD s X).gH.dU=ov cW v.L:=hs.dU
  rw[Ce Tryz.prog Tryz.func44 rfl (by kernel_rfl)]
  simp only[ZG,seval,Bool.false_and,Prod.mk.injEq,aRF,hl,ha,aK9 v.L hs.nL _ _ V hV hr,dN];refine⟨_,xG (P:=Tryz.prog) (fn:=Tryz.f44) (r:=.cell 4 53) (x:=.agg (aA (xD (Tf s v a (ol V)) X))) (.inl rfl) rfl ?h1, ?h2⟩
  case h1 =>
   rw[rI];simp only[bY,Z8,seval];unfold xD Tf;simp only[ov,Te]
  case h2 =>
   refine⟨fun x g hg=>?_,fun x=>?_⟩
   ·have n2:(x=2∧g=st.aU 2)=False:=eq_false (by rintro⟨rfl,rfl⟩;omega)
    have n3:(x=3∧g=st.aU 3)=False:=eq_false (by rintro⟨rfl,rfl⟩;omega)
    have n4:(x=4∧g=st.aU 4)=False:=eq_false (by rintro⟨rfl,rfl⟩;omega)
    simp only[E8,seval,aQ,aW,n2,n3,n4,if_false]
   ·simp only[E8,seval,aQ,aW];split<;>(try split)<;>(try split)<;>subst_vars<;>omega
 exact⟨fun st=>Classical.choose (one st),fun st=>Classical.choose_spec (one st)⟩
theorem HK {cs:List AV} (h:∀c∈cs,Flat c):cs.flatMap gQ=[]:=List.flatMap_eq_nil_iff.2 fun c hc=>by have:=h c hc;cases this<;>rfl
theorem aFy {c:AV} (h:Flat c):gQ c=[]:=by cases h<;>rfl
theorem Y4 {s:aM} {v:SV} (h:SD s v) (a g:Nat):jF (.agg (aA (mV s (.own a g))))=[(a,g)]:=by
 obtain⟨h1,h2,h3,h4,h5,h6,h7⟩:=h.fl
 show (aA (mV s (.own a g))).flatMap gQ=[(a,g)]
 unfold mV aA jM;simp only[List.flatMap_append,List.flatMap_cons,List.flatMap_nil,List.append_nil];rw[HK (uG _ h1),HK (qS _ h2 h3),HK (jZ _),HK (xA _ h6),HK (dY _),HK (dO _)];have e4:gQ s.cC.early=[]:=aFy h4
 have e7:gQ s.tables=[]:=aFy h7
 simp only[e4,e7,List.nil_append,List.append_nil];rfl
theorem aC3 {s:aM} {v:SV} (h:SD s v) (a g:Nat):l7 (.agg (aA (mV s (.own a g)))):=by
 obtain⟨h1,h2,h3,h4,h5,h6,h7⟩:=h.fl
 refine .inr (.inr ⟨_,rfl,fun c hc=>?_⟩)
 unfold mV aA jM at hc;simp only[List.mem_append,List.mem_singleton] at hc;rcases hc with hc|hc|hc|(hc|hc)|hc|hc|hc|hc
 ·exact .inl (uG _ h1 _ hc)
 ·exact .inl (qS _ h2 h3 _ hc)
 ·exact .inl (jZ _ _ hc)
 ·exact .inl (hc ▸ h4)
 ·exact .inr ⟨a,g,hc⟩
 ·exact .inl (xA _ h6 _ hc)
 ·exact .inl (dY _ _ hc)
 ·exact .inl (dO _ _ hc)
 ·exact .inl (hc ▸ h7)
theorem aMq {s:aM} {v:SV} {q:Int} (h:GI s v q) {b:Block} (hb:Mh s v b=0) (st:St) (d:Option Nat):fG (aB Tryz.prog) 217 [.agg (aA s),.agg (aV b)] st d=some { dst:=d,val:=.agg (aA (tA s v b))}:=Iw (bF h.sd.flat (tJ b)) (aLa h hb) (h.ins hb).sd.flat
theorem aFz {s:aM} {v:SV} {q:Int} (h0:SD s v) {O:List Block} (h:GI (mV s (ov aF (some O))) { v with O:=some O } q) {b:Block} (hb:Mh (mV s (ov aF (some O))) { v with O:=some O } b=0) (a g:Nat) (st:St) (d:Option Nat) (hh:st.heap a g=some (.row 74 238 O.length (aF O))) :
 fG (aB Tryz.prog) 217 [.agg (aA (mV s (.own a g))),.agg (aV b)] st d=some { dst:=d,val:=.agg (aA (tA (mV s (ov aF (some O))) { v with O:=some O } b)),dS:=some (a,g,none)}:=by
 rw[Qj (s:=a) (k:=g) (by rw[List.flatMap_cons,List.flatMap_cons,List.flatMap_nil,Y4 h0,vT (tJ b)];rfl) (by intro x hx;simp only[List.mem_cons,List.not_mem_nil,or_false] at hx;rcases hx with rfl|rfl;exact aC3 h0 a g;exact .inl (tJ b)),
  List.map_cons,List.map_cons,List.map_nil,Aj h0 st hh,Nq,bM,bM,fY]
 exact OW (aLa h hb) (h.ins hb).sd.flat
theorem aRG {s:aM} {v:SV} {q:Int} (h0:SD s v) {O:List Block} (h:GI (mV s (ov aF (some O))) { v with O:=some O } q) (b:Block) (a g:Nat) (st:St) (d:Option Nat) (hh:st.heap a g=some (.row 74 238 O.length (aF O))) :
 aO (aB Tryz.prog) 52 [.agg (aA (mV s (.own a g))),.agg (aV b)] st d=some { dst:=d,val:=.v (.int .i64 (Mh (mV s (ov aF (some O))) { v with O:=some O } b))}:=by
 rw[jV,List.map_cons,List.map_cons,List.map_nil,Aj h0 st hh,Nq,bM,bM,fY];exact Vp (c52 h.sd h.up h.sp b)
theorem aMr {s:aM} {v:SV} {q:Int} (h0:SD s v) {O:List Block} (h:GI (mV s (ov aF (some O))) { v with O:=some O } q) (a g:Nat) (st:St) (d:Option Nat) (hh:st.heap a g=some (.row 74 238 O.length (aF O))) :
 aO (aB Tryz.prog) 218 [.agg (aA (mV s (.own a g)))] st d=some { dst:=d,val:=.v (.int .i64 (DX { v with O:=some O }))}:=by
 rw[jV,List.map_cons,List.map_nil,Aj h0 st hh,bM,fY];exact Vp (aK6 h.sd)
theorem tC {s:aM} {v:SV} (h:SD s v):mV s (ov aF v.O)=s:=by unfold mV;rw[← h.bL]
end Go.Ab.Tryz
