/-
  Part 14 of the proof: an evaluator of programs, its soundness, and what functions of this program compute.
-/
import Derived.Test.YtmcjkemalibacaaGreatK13
import Derived.Test.YtmcjkemalibacaaGreatK12
import Derived.Test.YtmcjkemalibacaaGreatK10
set_option linter.all false
set_option maxRecDepth 20000
set_option maxHeartbeats 40000000
namespace Go.Ab.Tryz
open Classical Go.Proofs Go.Ab
theorem Rg0:Rg 0:=⟨by omega,by omega⟩
theorem zOk:OpOk zOpS:=⟨⟨none,rfl,by simp[ol]⟩,⟨none,rfl,by simp[ol]⟩,⟨none,rfl,by simp[ol]⟩,⟨none,rfl,by simp[ol],by simp[ol]⟩,⟨Rg0,Rg0,Rg0,Rg0,Rg0⟩,⟨Rg0,Rg0⟩,⟨Rg0,Rg0,Rg0,Rg0⟩,Rg0,Rg0⟩
theorem x184 (x:OpS) (h:OpOk x):∃ r,callL Tryz.prog 184 [.agg (cOpS x)]=some r∧∃ e:Int,r=.v (.int .i64 e):=by
 have z:=zOk
 have hf:=h.flat
 obtain⟨r1,e1,o1,e,rfl⟩:=x200 x h
 have k200:=kx e1 (flat1 hf) (.tup _ (flat2 (flat_ovU8 _) (.v _)))
 rw[cG Tryz.func184 rfl ok184 (by kernel_rfl) rfl]
 by_cases g1:x.kind < 1
 ·simp only[ZG,seval,Bool.false_and,Prod.mk.injEq,DY184,g1]
  exact⟨_,xtmp rfl (by simp only[E8,seval]<;>rfl) (by first | exact .v _ | simp only[FLb]),_,rfl⟩
 by_cases g9:8 < x.kind
 ·simp only[ZG,seval,Bool.false_and,Prod.mk.injEq,DY184,g1,g9]
  exact⟨_,xtmp rfl (by simp only[E8,seval]<;>rfl) (by first | exact .v _ | simp only[FLb]),_,rfl⟩
 by_cases g0:e=0
 case neg =>
  simp only[ZG,seval,Bool.false_and,Prod.mk.injEq,DY184,g1,g9,k200,extA,bf g0]
  exact⟨_,xtmp rfl (by simp only[E8,seval]<;>rfl) (by first | exact .v _ | simp only[FLb]),_,rfl⟩
 by_cases k2:x.kind=2
 ·have hy:OpOk { zOpS with kind:=x.kind,block:=x.block }:=⟨z.att,z.c1,z.c2,z.tab,h.rb,z.ra,z.rs,z.rt,z.rv⟩
  obtain⟨r2,e2,B,rfl⟩:=x201 x { zOpS with kind:=x.kind,block:=x.block } h hy
  have k201:=kx e2 (flat2 hf hy.flat) (.v _)
  have hfx:=h.fl
  cases B
  all_goals
   simp only[ZG,seval,Bool.false_and,Prod.mk.injEq,DY184,g1,g9,k200,extA,bt g0,bt k2,k201,fa_oO,fa_Oo,fa_pO,fa_Op]
   exact⟨_,xtmp rfl (by simp only[E8,seval]<;>rfl) (by first | exact .v _ | simp only[FLb]),_,rfl⟩
 by_cases k3:x.kind=3
 ·have hy:OpOk { zOpS with kind:=x.kind,att:=x.att }:=⟨h.att,z.c1,z.c2,z.tab,z.rb,h.ra,z.rs,z.rt,z.rv⟩
  obtain⟨r2,e2,B,rfl⟩:=x201 x { zOpS with kind:=x.kind,att:=x.att } h hy
  have k201:=kx e2 (flat2 hf hy.flat) (.v _)
  have hfx:=h.fl
  cases B
  all_goals
   simp only[ZG,seval,Bool.false_and,Prod.mk.injEq,DY184,g1,g9,k200,extA,bt g0,bf k2,bt k3,k201,fa_oO,fa_Oo,fa_pO,fa_Op]
   exact⟨_,xtmp rfl (by simp only[E8,seval]<;>rfl) (by first | exact .v _ | simp only[FLb]),_,rfl⟩
 by_cases k4:x.kind=4
 ·have hy:OpOk { zOpS with kind:=x.kind,slash:=x.slash }:=⟨z.att,h.c1,h.c2,z.tab,z.rb,z.ra,h.rs,z.rt,z.rv⟩
  obtain⟨r2,e2,B,rfl⟩:=x201 x { zOpS with kind:=x.kind,slash:=x.slash } h hy
  have k201:=kx e2 (flat2 hf hy.flat) (.v _)
  have hfx:=h.fl
  cases B
  all_goals
   simp only[ZG,seval,Bool.false_and,Prod.mk.injEq,DY184,g1,g9,k200,extA,bt g0,bf k2,bf k3,bt k4,k201,fa_oO,fa_Oo,fa_pO,fa_Op]
   exact⟨_,xtmp rfl (by simp only[E8,seval]<;>rfl) (by first | exact .v _ | simp only[FLb]),_,rfl⟩
 by_cases k5:x.kind=5
 ·have hy:OpOk { zOpS with kind:=x.kind,table:=x.table }:=⟨z.att,z.c1,z.c2,h.tab,z.rb,z.ra,z.rs,h.rt,z.rv⟩
  obtain⟨r2,e2,B,rfl⟩:=x201 x { zOpS with kind:=x.kind,table:=x.table } h hy
  have k201:=kx e2 (flat2 hf hy.flat) (.v _)
  have hfx:=h.fl
  cases B
  all_goals
   simp only[ZG,seval,Bool.false_and,Prod.mk.injEq,DY184,g1,g9,k200,extA,bt g0,bf k2,bf k3,bf k4,bt k5,k201,fa_oO,fa_Oo,fa_pO,fa_Op]
   exact⟨_,xtmp rfl (by simp only[E8,seval]<;>rfl) (by first | exact .v _ | simp only[FLb]),_,rfl⟩
 by_cases k6:x.kind=6
 ·have hy:OpOk { zOpS with kind:=x.kind,verdict:=x.verdict }:=⟨z.att,z.c1,z.c2,z.tab,z.rb,z.ra,z.rs,z.rt,h.rv⟩
  obtain⟨r2,e2,B,rfl⟩:=x201 x { zOpS with kind:=x.kind,verdict:=x.verdict } h hy
  have k201:=kx e2 (flat2 hf hy.flat) (.v _)
  have hfx:=h.fl
  cases B
  all_goals
   simp only[ZG,seval,Bool.false_and,Prod.mk.injEq,DY184,g1,g9,k200,extA,bt g0,bf k2,bf k3,bf k4,bf k5,bt k6,k201,fa_oO,fa_Oo,fa_pO,fa_Op]
   exact⟨_,xtmp rfl (by simp only[E8,seval]<;>rfl) (by first | exact .v _ | simp only[FLb]),_,rfl⟩
 by_cases k8:x.kind=8
 ·have hy:OpOk { zOpS with kind:=x.kind,write:=x.write,keep:=x.keep }:=⟨z.att,z.c1,z.c2,z.tab,z.rb,z.ra,z.rs,z.rt,z.rv⟩
  obtain⟨r2,e2,B,rfl⟩:=x201 x { zOpS with kind:=x.kind,write:=x.write,keep:=x.keep } h hy
  have k201:=kx e2 (flat2 hf hy.flat) (.v _)
  have hfx:=h.fl
  cases B
  all_goals
   simp only[ZG,seval,Bool.false_and,Prod.mk.injEq,DY184,g1,g9,k200,extA,bt g0,bf k2,bf k3,bf k4,bf k5,bf k6,bt k8,k201,fa_oO,fa_Oo,fa_pO,fa_Op]
   exact⟨_,xtmp rfl (by simp only[E8,seval]<;>rfl) (by first | exact .v _ | simp only[FLb]),_,rfl⟩
 have hy:OpOk { zOpS with kind:=x.kind }:=⟨z.att,z.c1,z.c2,z.tab,z.rb,z.ra,z.rs,z.rt,z.rv⟩
 obtain⟨r2,e2,B,rfl⟩:=x201 x { zOpS with kind:=x.kind } h hy
 have k201:=kx e2 (flat2 hf hy.flat) (.v _)
 have hfx:=h.fl
 cases B
 all_goals
  simp only[ZG,seval,Bool.false_and,Prod.mk.injEq,DY184,g1,g9,k200,extA,bt g0,bf k2,bf k3,bf k4,bf k5,bf k6,bf k8,k201,fa_oO,fa_Oo,fa_pO,fa_Op]
  exact⟨_,xtmp rfl (by simp only[E8,seval]<;>rfl) (by first | exact .v _ | simp only[FLb]),_,rfl⟩
theorem x45 (n bits:Int) (h0:0 < n) (h1:n≤1000):∃ r,callL Tryz.prog 45 [.v (.int .i64 n),.v (.int .i64 bits)]=some r∧∃ l:List Int,r=.uniq 3 1 l.length (csInt l)∧(l.length:Int)≤n:=by
 rw[cL Tryz.func45 rfl ok45 rfl]
 simp only[Z8,seval]
 refine use_loopX (fun m st=>∃ k:Nat,(st.env 0=.v (.int .i64 n)∧st.env 1=.v (.int .i64 bits)∧st.env 6=.v (.int .i64 k))∧(st.env 5=.v (.slice none 0 0)∨∃ (l:List Int) (g:Nat),(st.env 5=.own 21 g∧st.heap 21 g=some (.row 3 1 l.length (csInt l)))∧g < st.cnt 21∧0 < l.length∧l.length≤k)∧(k:Int)≤n∧m=(n - k).toNat)
  (fun e st=>e=.exit 0∧st.env 0=.v (.int .i64 n)∧(st.env 5=.v (.slice none 0 0)∨∃ (l:List Int) (g:Nat),(st.env 5=.own 21 g∧st.heap 21 g=some (.row 3 1 l.length (csInt l)))∧0 < l.length∧(l.length:Int)≤n)) n.toNat ?step ?start ?rest
 case step =>
  rintro m st ⟨k,hI,h5,hk,hm⟩
  by_cases hlt:(k:Int) < n
  ·have q0:(0:Int)≤k:=by omega
   have hw:IntKind.i64.wrap ((k:Int)+1)=((k+1:Nat):Int):=by rw[w64 _ (by omega) (by omega)];omega
   by_cases hh:IntKind.i64.wrap ((BitVec.ofInt IntKind.i64.bits (bits.fdiv (2 ^ min (IntKind.u64.wrap (k:Int)).toNat IntKind.i64.bits)) &&& BitVec.ofInt IntKind.i64.bits 1).toNat:Int)=1
   ·rcases h5 with h5 | ⟨l,g,h5,hg,hl0,hl⟩
    ·apply oN ((n - ((k+1:Nat):Int)).toNat)
     ·simp only[Z8,seval,hI,h5,hlt,q0,u64_nn,bt hh,hw]
      rfl
     ·exact⟨k+1,by simp only[E8,seval,hI],.inr ⟨[(k:Int)],_,⟨by simp only[E8,seval]<;>rfl,by simp only[E8,seval]<;>rfl⟩,by simp only[E8,seval]<;>omega,by simp,by simp⟩,by omega,rfl⟩
    ·have hgn:(g=st.cnt 21)=False:=eq_false (by omega)
     have nl:(l.length:Int) < 1000000:=by omega
     apply oN ((n - ((k+1:Nat):Int)).toNat)
     ·simp only[Z8,seval,hI,h5,hgn,hlt,q0,u64_nn,bt hh,hw,aooInt1 _ _ _ _ nl]
      rfl
     ·exact⟨k+1,by simp only[E8,seval,hI],.inr ⟨l ++ [(k:Int)],_,⟨by simp only[E8,seval]<;>rfl,by simp only[E8,seval]<;>rfl⟩,by simp only[E8,seval]<;>omega,by simp,by rw[List.length_append,List.length_cons,List.length_nil];omega⟩,by omega,rfl⟩
   ·have h5':st.env 5=.v (.slice none 0 0)∨∃ (l:List Int) (g:Nat),(st.env 5=.own 21 g∧st.heap 21 g=some (.row 3 1 l.length (csInt l)))∧g < st.cnt 21∧0 < l.length∧l.length≤k+1:=h5.imp id fun ⟨l,g,a,b,c,d⟩=>⟨l,g,a,b,c,by omega⟩
    apply oN ((n - ((k+1:Nat):Int)).toNat)
    ·simp only[Z8,seval,hI,hlt,q0,u64_nn,bf hh,hw]
     rfl
    ·exact⟨k+1,by simp only[E8,seval,hI],by simpa only[E8,seval] using h5',by omega,rfl⟩
  ·have h5':st.env 5=.v (.slice none 0 0)∨∃ (l:List Int) (g:Nat),(st.env 5=.own 21 g∧st.heap 21 g=some (.row 3 1 l.length (csInt l)))∧0 < l.length∧(l.length:Int)≤n:=h5.imp id fun ⟨l,g,a,b,c,d⟩=>⟨l,g,a,c,by omega⟩
   apply oT (.exit 0)
   ·simp only[Z8,seval,hI,hlt]
    rfl
   ·exact⟨rfl,by simp only[E8,seval,hI],by simpa only[E8,seval] using h5'⟩
 case start=>exact⟨0,by simp only[E8,seval]<;>rfl,.inl (by simp only[E8,seval]),by omega,by simp⟩
 case rest =>
  rintro e st ⟨rfl,h0',h5 | ⟨l,g,h5,hl0,hl⟩⟩
  ·simp only[Z8,seval,h0',h5,h0]
   exact⟨_,endL_row (n:=([0]:List Int).length) (cs:=csInt [0]) (keep_none (by decide)) (.inl rfl) rfl (by simp only[E8,seval]<;>rfl) (by simp only[E8,seval]<;>rfl) (flat_csInt _),_,rfl,by simp;omega⟩
  ·have hn0:¬ ((l.length:Int)=0):=by omega
   simp only[Z8,seval,h0',h5,bf hn0]
   exact⟨_,xrow rfl (by simp only[E8,seval,h5]<;>rfl) (by simp only[E8,seval,h5]<;>rfl) (flat_csInt _),l,rfl,hl⟩
theorem k45 (n bits:Int) (h0:0 < n) (h1:n≤1000):∃ l:List Int,(∀ (st:St) (d:Nat),callFn (callL Tryz.prog) 45 [.v (.int .i64 n),.v (.int .i64 bits)] st (some d)=some { dst:=some d,val:=.own d (st.cnt d),new:=some (d,[.row 3 1 l.length (csInt l)])})∧(l.length:Int)≤n:=by
 obtain⟨r,hr,l,rfl,hl⟩:=x45 n bits h0 h1
 exact⟨l,fun st d=>call_uniq (flat2 (.v _) (.v _)) hr,hl⟩
theorem x92 {s:Store} {v:SV} {q:Int} (h:GI s v q) (r:RG s v) (i e:Int) (he:Rg e):∃ x,callL Tryz.prog 92 [.agg (cStore s),.v (.int .i64 i),.v (.int .u64 e)]=some x∧∃ c:Ckpt,x=.agg (cCkpt c)∧Rg c.epoch:=by
 have k100':=k100 v.ns h.up h.sd.nn i (IntKind.u64.wrap (e * s.cFg.spe))
 have hr:=atV_range h.up (i:=i) (s:=IntKind.u64.wrap (e * s.cFg.spe))
 obtain⟨k,hk⟩:∃ k,atV v.ns i (IntKind.u64.wrap (e * s.cFg.spe))=k:=⟨_,rfl⟩
 rw[hk] at k100' hr
 rw[cL Tryz.func92 rfl ok92 rfl]
 by_cases g1:k < 0
 ·simp only[Z8,seval,h.sd.tree,k100',g1]
  exact⟨_,xcell rfl (by simp only[E8,seval,fl_ckpt]<;>rfl) (by simp only[Z8,seval,fl_ckpt]<;>rfl) (by simp only[FLb,and_self,fl_ckpt]),_,rfl,r.f⟩
 ·have k0:0≤k:=by omega
  have k1:k < v.ns.length:=by omega
  simp only[Z8,seval,h.sd.tree,k100',g1,k0,k1]
  exact⟨_,xcell rfl (by simp only[E8,seval,fl_ckpt]<;>rfl) (by simp only[Z8,seval,fl_ckpt]<;>rfl) (by simp only[FLb,and_self,fl_ckpt]),_,rfl,he⟩
theorem x111 (n:Int):∃ x,callL Tryz.prog 111 [.v (.int .i64 n)]=some x∧∃ w:Wide,x=.agg (cWide w):=by
 obtain⟨j,hj⟩:∃ j,(IntKind.i64.wrap ((BitVec.ofInt IntKind.i64.bits (((n).fdiv (2 ^ min 9 IntKind.i64.bits))) &&& BitVec.ofInt IntKind.i64.bits 3).toNat:Int))=j:=⟨_,rfl⟩
 have hb:=and_bound ((n).fdiv (2 ^ min 9 IntKind.i64.bits)) 3 (by decide)
 rw[hj] at hb
 have j0:=hb.1
 have j1:j < 4:=by omega
 have j3:j.toNat < 4:=by omega
 have j4:j.toNat≤3:=by omega
 have hup:∀ (w:Wide) (x:Int),upd (cWide w) j.toNat [.v (.int .u64 x)] (j.toNat+1)=cWide (w.set j.toNat x):=fun w x=>up_Wide_at w j.toNat _ x j3 rfl
 have fw:∀ w:Wide,Flat (.agg (cWide w))=True:=fun w=>eq_true (.agg _ (flat_cWide w))
 rw[cL Tryz.func111 rfl ok111 rfl]
 by_cases c1:(IntKind.i64.wrap ((BitVec.ofInt IntKind.i64.bits (((n).fdiv (2 ^ min 7 IntKind.i64.bits))) &&& BitVec.ofInt IntKind.i64.bits 3).toNat:Int))=1
 ·simp only[Z8,seval,bt c1,up_Wide_at,Nat.reduceLT,idx33a,hj,j0,j1,j4,hup,Nat.mul_one,u64_nn]
  exact⟨_,xcell rfl (by simp only[E8,seval,fw]<;>rfl) (by simp only[Z8,seval,fw]<;>rfl) (by simp only[FLb,and_self,fw]),_,rfl⟩
 by_cases c2:(IntKind.i64.wrap ((BitVec.ofInt IntKind.i64.bits (((n).fdiv (2 ^ min 7 IntKind.i64.bits))) &&& BitVec.ofInt IntKind.i64.bits 3).toNat:Int))=2
 ·simp only[Z8,seval,bf c1,bt c2,up_Wide_at,Nat.reduceLT,idx33a,hj,j0,j1,j4,hup,Nat.mul_one,u64_nn]
  exact⟨_,xcell rfl (by simp only[E8,seval,fw]<;>rfl) (by simp only[Z8,seval,fw]<;>rfl) (by simp only[FLb,and_self,fw]),_,rfl⟩
 by_cases c3:(IntKind.i64.wrap ((BitVec.ofInt IntKind.i64.bits (((n).fdiv (2 ^ min 7 IntKind.i64.bits))) &&& BitVec.ofInt IntKind.i64.bits 3).toNat:Int))=3
 ·simp only[Z8,seval,bf c1,bf c2,bt c3,up_Wide_at,Nat.reduceLT,idx33a,hj,j0,j1,j4,hup,Nat.mul_one,u64_nn]
  exact⟨_,xcell rfl (by simp only[E8,seval,fw]<;>rfl) (by simp only[Z8,seval,fw]<;>rfl) (by simp only[FLb,and_self,fw]),_,rfl⟩
 simp only[Z8,seval,bf c1,bf c2,bf c3,up_Wide_at,Nat.reduceLT,idx33a,hj,j0,j1,j4,hup,Nat.mul_one,u64_nn]
 exact⟨_,xcell rfl (by simp only[E8,seval,fw]<;>rfl) (by simp only[Z8,seval,fw]<;>rfl) (by simp only[FLb,and_self,fw]),_,rfl⟩
theorem x182 (n k:Int) (h0:0 < n) (h1:n≤1000):∃ r,callL Tryz.prog 182 [.v (.int .i64 n),.v (.int .i64 k)]=some r∧∃ x:Slashing,r=.agg (cSlashing x)∧ClmOk x.first∧ClmOk x.second∧Rg x.first.source∧Rg x.first.target∧Rg x.second.source∧Rg x.second.target:=by
 obtain⟨l,kl,hl⟩:=k45 n k h0 h1
 obtain⟨m,km,hm⟩:=k45 n ((k).fdiv (2 ^ min 6 IntKind.i64.bits)) h0 h1
 have cl:ClmOk ⟨1,5,mkRoot 2,ov csInt (some l)⟩:=⟨some l,rfl,by show (l.length:Int)≤1000;omega⟩
 have rg:∀ x:Int,0≤x∧x≤6→Rg x:=fun x h=>⟨by omega,by omega⟩
 have okl:∀ a b r,ClmOk ⟨a,b,r,ov csInt (some l)⟩:=fun a b r=>⟨some l,rfl,by show (l.length:Int)≤1000;omega⟩
 have okm:∀ a b r,ClmOk ⟨a,b,r,ov csInt (some m)⟩:=fun a b r=>⟨some m,rfl,by show (m.length:Int)≤1000;omega⟩
 rw[cL Tryz.func182 rfl ok182 rfl]
 by_cases c0:((((k).fdiv (2 ^ min 12 IntKind.i64.bits))).tmod 8)=0
 ·simp only[Z8,seval,kl,km,k30,bt c0]
  exact⟨_,by apply xcellx;rfl;all_goals simp only[keep_none,Z8,seval,expo_aggq,exq_Slashing,exq_Claim,expo1_ownF,expo1_id,exFInt,FLb]<;>rfl,_,rfl,okm _ _ _,okl _ _ _,rg _ (by dsimp only;omega),rg _ (by dsimp only;omega),rg _ (by dsimp only;omega),rg _ (by dsimp only;omega)⟩
 by_cases c1:((((k).fdiv (2 ^ min 12 IntKind.i64.bits))).tmod 8)=1
 ·simp only[Z8,seval,kl,km,k30,bf c0,bt c1]
  exact⟨_,by apply xcellx;rfl;all_goals simp only[keep_none,Z8,seval,expo_aggq,exq_Slashing,exq_Claim,expo1_ownF,expo1_id,exFInt,FLb]<;>rfl,_,rfl,okl _ _ _,okm _ _ _,rg _ (by dsimp only;omega),rg _ (by dsimp only;omega),rg _ (by dsimp only;omega),rg _ (by dsimp only;omega)⟩
 by_cases c2:((((k).fdiv (2 ^ min 12 IntKind.i64.bits))).tmod 8)=2
 ·simp only[Z8,seval,kl,km,k30,bf c0,bf c1,bt c2]
  exact⟨_,by apply xcellx;rfl;all_goals simp only[keep_none,Z8,seval,expo_aggq,exq_Slashing,exq_Claim,expo1_ownF,expo1_id,exFInt,FLb]<;>rfl,_,rfl,okl _ _ _,okl _ _ _,rg _ (by dsimp only;omega),rg _ (by dsimp only;omega),rg _ (by dsimp only;omega),rg _ (by dsimp only;omega)⟩
 by_cases c3:((((k).fdiv (2 ^ min 12 IntKind.i64.bits))).tmod 8)=3
 ·simp only[Z8,seval,kl,km,k30,bf c0,bf c1,bf c2,bt c3]
  exact⟨_,by apply xcellx;rfl;all_goals simp only[keep_none,Z8,seval,expo_aggq,exq_Slashing,exq_Claim,expo1_ownF,expo1_id,exFInt,FLb]<;>rfl,_,rfl,okl _ _ _,okm _ _ _,rg _ (by dsimp only;omega),rg _ (by dsimp only;omega),rg _ (by dsimp only;omega),rg _ (by dsimp only;omega)⟩
 by_cases c4:((((k).fdiv (2 ^ min 12 IntKind.i64.bits))).tmod 8)=4
 ·simp only[Z8,seval,kl,km,k30,bf c0,bf c1,bf c2,bf c3,bt c4]
  exact⟨_,by apply xcellx;rfl;all_goals simp only[keep_none,Z8,seval,expo_aggq,exq_Slashing,exq_Claim,expo1_ownF,expo1_id,exFInt,FLb]<;>rfl,_,rfl,okl _ _ _,okm _ _ _,rg _ (by dsimp only;omega),rg _ (by dsimp only;omega),rg _ (by dsimp only;omega),rg _ (by dsimp only;omega)⟩
 simp only[Z8,seval,kl,km,k30,bf c0,bf c1,bf c2,bf c3,bf c4]
 exact⟨_,by apply xcellx;rfl;all_goals simp only[keep_none,Z8,seval,expo_aggq,exq_Slashing,exq_Claim,expo1_ownF,expo1_id,exFInt,FLb]<;>rfl,_,rfl,okl _ _ _,okm _ _ _,rg _ (by dsimp only;omega),rg _ (by dsimp only;omega),rg _ (by dsimp only;omega),rg _ (by dsimp only;omega)⟩
theorem x183 {s:Store} {v:SV} {q:Int} (h:GI s v q) (r:RG s v) (hB:0 < (ol v.B).length∧(ol v.B).length≤64) (k:Int) (hk:0≤k):∃ x,callL Tryz.prog 183 [.agg (cStore s),.v (.int .i64 k)]=some x∧∃ (t:Table) (b:List Int),x=.agg (cTable t)∧t.bal=ov csU64 (some b)∧(b.length:Int)≤1000∧(∀ y∈b,Rg y)∧Rg t.ck.epoch:=by
 have hn:=h.sd.nn
 have hp:(0:Int) < (v.ns.length:Int):=by have:=h.pos;omega
 have hne:¬ ((v.ns.length:Int)=0):=by omega
 obtain⟨m1,m2⟩:=tmod_bound (n:=(v.ns.length:Int)) hk hp
 obtain⟨i,hi⟩:∃ i,k.tmod (v.ns.length:Int)=i:=⟨_,rfl⟩
 rw[hi] at m1 m2
 have hsp:=h.sp
 obtain⟨y,hy,c2,rfl,rc2⟩:=x92 h r i (epV s s.now) (u64_Rg _)
 unfold epV at hy
 have k92:=kx hy (flat3 h.sd.flat (.v _) (.v _)) (.agg _ (flat_cCkpt _))
 have rc1:Rg (nd v.ns i).block.pulled.pj.epoch:=(r.nd _ (nd_mem m1 m2)).1.pj
 rw[cL Tryz.func183 rfl ok183 rfl]
 by_cases c0:((((k).fdiv (2 ^ min 5 IntKind.i64.bits))).tmod 4)=0
 case neg =>
  simp only[Z8,seval,h.sd.tree,hne,hi,m1,m2,bf c0]
  refine use_loopX (fun m st=>∃ (j:Nat) (X:AV) (L:List Int),(st.env 1=.v (.int .i64 k)∧st.env 2=.ptr 2 0 0∧st.heap 2 0=some (.cells (cStore s))∧st.env 4=.ptr 4 0 0∧st.heap 4 0=some (.cells (cTable zTable))∧st.env 6=.ptr 6 0 0∧st.heap 6 0=some (.cells (cTable ⟨(nd v.ns i).block.pulled.pj,X⟩))∧st.env 7=.v (.int .i64 j))∧((X=.v (.slice none 0 0)∧L=[])∨∃ g,X=.own 55 g∧g < st.cnt 55∧st.heap 55 g=some (.row 23 1 L.length (csU64 L)))∧(∀ y∈L,Rg y)∧L.length=j∧j≤(ol v.B).length∧m=(ol v.B).length - j)
   (fun e st=>e=.exit 0∧∃ (g:Nat) (L:List Int),(st.env 1=.v (.int .i64 k)∧st.env 2=.ptr 2 0 0∧st.heap 2 0=some (.cells (cStore s))∧st.env 4=.ptr 4 0 0∧st.heap 4 0=some (.cells (cTable zTable))∧st.env 6=.ptr 6 0 0∧st.heap 6 0=some (.cells (cTable ⟨(nd v.ns i).block.pulled.pj,.own 55 g⟩))∧st.heap 55 g=some (.row 23 1 L.length (csU64 L)))∧(∀ y∈L,Rg y)∧L.length=(ol v.B).length) (ol v.B).length ?step ?start ?rest
  case step =>
   rintro m st ⟨j,X,L,hI,hX,hL,hj,hjB,hm⟩
   by_cases hlt:(j:Int) < (ol v.B).length
   ·have q0:(0:Int)≤j:=by omega
    have hw:IntKind.i64.wrap ((j:Int)+1)=((j+1:Nat):Int):=by rw[w64 _ (by omega) (by omega)];omega
    have nL:(L.length:Int) < 1000000:=by omega
    obtain⟨y,hy9⟩:∃ y,IntKind.u64.wrap ((k.fdiv (2 ^ min (IntKind.u64.wrap (j:Int)).toNat IntKind.i64.bits)).tmod 50)=y:=⟨_,rfl⟩
    have ry:Rg y:=by rw[← hy9];exact u64_Rg _
    have hL1:∀ z∈L ++ [y],Rg z:=fun z hz=>(List.mem_append.1 hz).elim (hL z) fun e=>by rw[List.mem_singleton] at e;rw[e];exact ry
    have hl1:(L ++ [y]).length=j+1:=by rw[List.length_append,List.length_cons,List.length_nil];omega
    rcases hX with ⟨rfl,rfl⟩ | ⟨g,rfl,hg,hh⟩
    ·apply oN ((ol v.B).length - (j+1))
     ·simp only[Z8,seval,hI,hlt,q0,h.sd.bal,u64_nn,hy9,hw]
      rfl
     ·exact⟨j+1,_,[] ++ [y],⟨by simp only[E8,seval,hI],by simp only[E8,seval,hI],by simp only[E8,seval,hI],by simp only[E8,seval,hI],by simp only[E8,seval,hI],by simp only[E8,seval,hI],by simp only[E8,seval,hI]<;>rfl,by simp only[E8,seval]⟩,.inr ⟨_,rfl,by simp only[E8,seval]<;>omega,by simp only[E8,seval]<;>rfl⟩,hL1,hl1,by omega,rfl⟩
    ·have hgn:(g=st.cnt 55)=False:=eq_false (by omega)
     apply oN ((ol v.B).length - (j+1))
     ·simp only[Z8,seval,hI,hh,hgn,hlt,q0,h.sd.bal,u64_nn,hy9,hw,aooU641 _ _ _ _ nL]
      rfl
     ·exact⟨j+1,_,L ++ [y],⟨by simp only[E8,seval,hI],by simp only[E8,seval,hI],by simp only[E8,seval,hI],by simp only[E8,seval,hI],by simp only[E8,seval,hI],by simp only[E8,seval,hI],by simp only[E8,seval,hI]<;>rfl,by simp only[E8,seval]⟩,.inr ⟨_,rfl,by simp only[E8,seval]<;>omega,by simp only[E8,seval]<;>rfl⟩,hL1,hl1,by omega,rfl⟩
   ·rcases hX with ⟨rfl,rfl⟩ | ⟨g,rfl,hg,hh⟩
    ·simp at hj;omega
    ·apply oT (.exit 0)
     ·simp only[Z8,seval,hI,hlt,h.sd.bal]
      rfl
     ·exact⟨rfl,g,L,by simp only[E8,seval,hI,hh],hL,by omega⟩
  case start=>exact⟨0,_,[],by and_intros<;>(simp only[E8,seval]<;>rfl),.inl ⟨rfl,rfl⟩,by simp,rfl,by omega,by omega⟩
  case rest =>
   rintro e st ⟨rfl,g,L,hI,hL,hlL⟩
   have nL:(L.length:Int) < 1000000:=by omega
   by_cases d0:((((k).fdiv (2 ^ min 12 IntKind.i64.bits))).tmod 16)=0
   ·have hL1:∀ z∈L ++ [(1:Int)],Rg z:=fun z hz=>(List.mem_append.1 hz).elim (hL z) fun e=>by rw[List.mem_singleton] at e;rw[e];exact⟨by omega,by omega⟩
    simp only[Z8,seval,hI,bt d0,aooU641 _ _ _ _ nL]
    exact⟨_,by apply xcellx;rfl;all_goals simp only[keep_none,Z8,seval,hI,expo_aggq,exq_Table,expo1_ownF,exFU64,FLb]<;>rfl,⟨(nd v.ns i).block.pulled.pj,_⟩,L ++ [1],rfl,rfl,by rw[List.length_append,List.length_cons,List.length_nil];omega,hL1,rc1⟩
   by_cases d1:((((k).fdiv (2 ^ min 12 IntKind.i64.bits))).tmod 16)=1
   ·have z0:(0:Int)≤0:=by omega
    have z1:(0:Int) < (L.length:Int):=by omega
    have z2:0 < L.length:=by omega
    have z3:1≤L.length:=z2
    have hL1:∀ z∈L.set 0 4611686018427387904,Rg z:=fun z hz=>(List.mem_or_eq_of_mem_set hz).elim (hL z) fun e=>by rw[e];exact⟨by omega,by omega⟩
    have hst:upd (csU64 L) 0 [.v (.int .u64 4611686018427387904)] 1=csU64 (L.set 0 4611686018427387904):=by
     cases L with
     | nil=>simp at z2
     | cons a L=>simp[upd,csU64,cU64]
    simp only[Z8,seval,hI,bf d0,bt d1,z0,z1,z3,hst,Int.toNat_zero,Nat.zero_mul]
    exact⟨_,by apply xcellx;rfl;all_goals simp only[keep_none,Z8,seval,hI,expo_aggq,exq_Table,expo1_ownF,exFU64,FLb]<;>rfl,⟨(nd v.ns i).block.pulled.pj,_⟩,L.set 0 4611686018427387904,rfl,by simp only[ov,List.length_set],by rw[List.length_set];omega,hL1,rc1⟩
   simp only[Z8,seval,hI,bf d0,bf d1]
   exact⟨_,by apply xcellx;rfl;all_goals simp only[keep_none,Z8,seval,hI,expo_aggq,exq_Table,expo1_ownF,exFU64,FLb]<;>rfl,⟨(nd v.ns i).block.pulled.pj,_⟩,L,rfl,rfl,by omega,hL,rc1⟩
 simp only[Z8,seval,h.sd.tree,hne,hi,m1,m2,bt c0,hsp,k92]
 refine use_loopX (fun m st=>∃ (j:Nat) (X:AV) (L:List Int),(st.env 1=.v (.int .i64 k)∧st.env 2=.ptr 2 0 0∧st.heap 2 0=some (.cells (cStore s))∧st.env 4=.ptr 4 0 0∧st.heap 4 0=some (.cells (cTable zTable))∧st.env 6=.ptr 6 0 0∧st.heap 6 0=some (.cells (cTable ⟨c2,X⟩))∧st.env 7=.v (.int .i64 j))∧((X=.v (.slice none 0 0)∧L=[])∨∃ g,X=.own 55 g∧g < st.cnt 55∧st.heap 55 g=some (.row 23 1 L.length (csU64 L)))∧(∀ y∈L,Rg y)∧L.length=j∧j≤(ol v.B).length∧m=(ol v.B).length - j)
  (fun e st=>e=.exit 0∧∃ (g:Nat) (L:List Int),(st.env 1=.v (.int .i64 k)∧st.env 2=.ptr 2 0 0∧st.heap 2 0=some (.cells (cStore s))∧st.env 4=.ptr 4 0 0∧st.heap 4 0=some (.cells (cTable zTable))∧st.env 6=.ptr 6 0 0∧st.heap 6 0=some (.cells (cTable ⟨c2,.own 55 g⟩))∧st.heap 55 g=some (.row 23 1 L.length (csU64 L)))∧(∀ y∈L,Rg y)∧L.length=(ol v.B).length) (ol v.B).length ?step ?start ?rest
 case step =>
  rintro m st ⟨j,X,L,hI,hX,hL,hj,hjB,hm⟩
  by_cases hlt:(j:Int) < (ol v.B).length
  ·have q0:(0:Int)≤j:=by omega
   have hw:IntKind.i64.wrap ((j:Int)+1)=((j+1:Nat):Int):=by rw[w64 _ (by omega) (by omega)];omega
   have nL:(L.length:Int) < 1000000:=by omega
   obtain⟨y,hy9⟩:∃ y,IntKind.u64.wrap ((k.fdiv (2 ^ min (IntKind.u64.wrap (j:Int)).toNat IntKind.i64.bits)).tmod 50)=y:=⟨_,rfl⟩
   have ry:Rg y:=by rw[← hy9];exact u64_Rg _
   have hL1:∀ z∈L ++ [y],Rg z:=fun z hz=>(List.mem_append.1 hz).elim (hL z) fun e=>by rw[List.mem_singleton] at e;rw[e];exact ry
   have hl1:(L ++ [y]).length=j+1:=by rw[List.length_append,List.length_cons,List.length_nil];omega
   rcases hX with ⟨rfl,rfl⟩ | ⟨g,rfl,hg,hh⟩
   ·apply oN ((ol v.B).length - (j+1))
    ·simp only[Z8,seval,hI,hlt,q0,h.sd.bal,u64_nn,hy9,hw]
     rfl
    ·exact⟨j+1,_,[] ++ [y],⟨by simp only[E8,seval,hI],by simp only[E8,seval,hI],by simp only[E8,seval,hI],by simp only[E8,seval,hI],by simp only[E8,seval,hI],by simp only[E8,seval,hI],by simp only[E8,seval,hI]<;>rfl,by simp only[E8,seval]⟩,.inr ⟨_,rfl,by simp only[E8,seval]<;>omega,by simp only[E8,seval]<;>rfl⟩,hL1,hl1,by omega,rfl⟩
   ·have hgn:(g=st.cnt 55)=False:=eq_false (by omega)
    apply oN ((ol v.B).length - (j+1))
    ·simp only[Z8,seval,hI,hh,hgn,hlt,q0,h.sd.bal,u64_nn,hy9,hw,aooU641 _ _ _ _ nL]
     rfl
    ·exact⟨j+1,_,L ++ [y],⟨by simp only[E8,seval,hI],by simp only[E8,seval,hI],by simp only[E8,seval,hI],by simp only[E8,seval,hI],by simp only[E8,seval,hI],by simp only[E8,seval,hI],by simp only[E8,seval,hI]<;>rfl,by simp only[E8,seval]⟩,.inr ⟨_,rfl,by simp only[E8,seval]<;>omega,by simp only[E8,seval]<;>rfl⟩,hL1,hl1,by omega,rfl⟩
  ·rcases hX with ⟨rfl,rfl⟩ | ⟨g,rfl,hg,hh⟩
   ·simp at hj;omega
   ·apply oT (.exit 0)
    ·simp only[Z8,seval,hI,hlt,h.sd.bal]
     rfl
    ·exact⟨rfl,g,L,by simp only[E8,seval,hI,hh],hL,by omega⟩
 case start=>exact⟨0,_,[],by and_intros<;>(simp only[E8,seval]<;>rfl),.inl ⟨rfl,rfl⟩,by simp,rfl,by omega,by omega⟩
 case rest =>
  rintro e st ⟨rfl,g,L,hI,hL,hlL⟩
  have nL:(L.length:Int) < 1000000:=by omega
  by_cases d0:((((k).fdiv (2 ^ min 12 IntKind.i64.bits))).tmod 16)=0
  ·have hL1:∀ z∈L ++ [(1:Int)],Rg z:=fun z hz=>(List.mem_append.1 hz).elim (hL z) fun e=>by rw[List.mem_singleton] at e;rw[e];exact⟨by omega,by omega⟩
   simp only[Z8,seval,hI,bt d0,aooU641 _ _ _ _ nL]
   exact⟨_,by apply xcellx;rfl;all_goals simp only[keep_none,Z8,seval,hI,expo_aggq,exq_Table,expo1_ownF,exFU64,FLb]<;>rfl,⟨c2,_⟩,L ++ [1],rfl,rfl,by rw[List.length_append,List.length_cons,List.length_nil];omega,hL1,rc2⟩
  by_cases d1:((((k).fdiv (2 ^ min 12 IntKind.i64.bits))).tmod 16)=1
  ·have z0:(0:Int)≤0:=by omega
   have z1:(0:Int) < (L.length:Int):=by omega
   have z2:0 < L.length:=by omega
   have z3:1≤L.length:=z2
   have hL1:∀ z∈L.set 0 4611686018427387904,Rg z:=fun z hz=>(List.mem_or_eq_of_mem_set hz).elim (hL z) fun e=>by rw[e];exact⟨by omega,by omega⟩
   have hst:upd (csU64 L) 0 [.v (.int .u64 4611686018427387904)] 1=csU64 (L.set 0 4611686018427387904):=by
    cases L with
    | nil=>simp at z2
    | cons a L=>simp[upd,csU64,cU64]
   simp only[Z8,seval,hI,bf d0,bt d1,z0,z1,z3,hst,Int.toNat_zero,Nat.zero_mul]
   exact⟨_,by apply xcellx;rfl;all_goals simp only[keep_none,Z8,seval,hI,expo_aggq,exq_Table,expo1_ownF,exFU64,FLb]<;>rfl,⟨c2,_⟩,L.set 0 4611686018427387904,rfl,by simp only[ov,List.length_set],by rw[List.length_set];omega,hL1,rc2⟩
  simp only[Z8,seval,hI,bf d0,bf d1]
  exact⟨_,by apply xcellx;rfl;all_goals simp only[keep_none,Z8,seval,hI,expo_aggq,exq_Table,expo1_ownF,exFU64,FLb]<;>rfl,⟨c2,_⟩,L,rfl,rfl,by omega,hL,rc2⟩
structure TD (t:State) (v:SV) (Q R:Option (List Request)):Prop where
 sd:SD t.store v
 req:t.requests=ov csRequest Q
 ret:t.retries=ov csRequest R
 nQ:((ol Q).length:Int) < 900000
 nR:((ol R).length:Int) < 900000
theorem TD.fl {t:State} {v:SV} {Q R:Option (List Request)} (h:TD t v Q R):Flat t.store.cFg.bal∧Flat t.store.votes.latest∧Flat t.store.votes.equiv∧Flat t.store.queues.early∧Flat t.store.queues.orphans∧Flat t.store.tree.nodes∧Flat t.store.tables∧Flat t.requests∧Flat t.retries:=by
 obtain⟨h1,h2,h3,h4,h5,h6,h7⟩:=h.sd.fl
 exact⟨h1,h2,h3,h4,h5,h6,h7,by rw[h.req];exact flat_ovRequest Q,by rw[h.ret];exact flat_ovRequest R⟩
theorem TD.flat {t:State} {v:SV} {Q R:Option (List Request)} (h:TD t v Q R):Flat (.agg (cState t)):=(fl_State t).2 h.fl
def OptN (ns:List Node) (r:Root):Prop:=0≤findR ns r∧(nd ns (findR ns r)).status=0
theorem c85 {t:State} {v:SV} {Q R:Option (List Request)} (h:TD t v Q R) (r:Root):callL Tryz.prog 85 [.agg (cState t),.agg (cRoot r)]=some (.v (.bool (decide (OptN v.ns r)))):=by
 have hr:=findR_range v.ns r
 rw[cL Tryz.func85 rfl ok85 rfl]
 refine ex_eq ?_
 by_cases g1:0≤findR v.ns r
 ·by_cases g2:(nd v.ns (findR v.ns r)).status=0
  ·simp only[Z8,seval,h.sd.tree,k46 _ _ h.sd.nn,g1,hr.2,bt g2]
   exact⟨_,xtmp rfl (by simp only[E8,seval]<;>rfl) (by first | exact .v _ | simp only[FLb]),by simp[OptN,g1,g2]⟩
  ·simp only[Z8,seval,h.sd.tree,k46 _ _ h.sd.nn,g1,hr.2,bf g2]
   exact⟨_,xtmp rfl (by simp only[E8,seval]<;>rfl) (by first | exact .v _ | simp only[FLb]),by simp[OptN,g1,g2]⟩
 ·simp only[Z8,seval,h.sd.tree,k46 _ _ h.sd.nn,g1]
  exact⟨_,xtmp rfl (by simp only[E8,seval]<;>rfl) (by first | exact .v _ | simp only[FLb]),by simp[OptN,g1]⟩
theorem k85 {t:State} {v:SV} {Q R:Option (List Request)} (h:TD t v Q R) (r:Root) (st:St) (d:Option Nat):callFn (callL Tryz.prog) 85 [.agg (cState t),.agg (cRoot r)] st d=some { dst:=d,val:=.v (.bool (decide (OptN v.ns r)))}:=kx (c85 h r) (flat2 h.flat (flatR r)) (.v _) st d
def opnS (t:State) (L:List Request) (r:Root) (n:Int):State:={ t with requests:=ov csRequest (some (L ++ [⟨⟨t.nextTag⟩,r,n,0⟩])),nextTag:=IntKind.u64.wrap (t.nextTag+1)}
theorem c86 {t:State} {v:SV} {Q R:Option (List Request)} (h:TD t v Q R) (r:Root) (n:Int):callL Tryz.prog 86 [.agg (cState t),.agg (cRoot r),.v (.int .i64 n)]=some (.agg (cState (opnS t (ol Q) r n))):=by
 have hfl:=h.fl
 have nq:((ol Q).length:Int) < 1000000:=by have:=h.nQ;omega
 rw[cL Tryz.func86 rfl ok86 rfl]
 refine ex_eq ?_
 simp only[Z8,seval,h.req,anoRequests _ nq,aooRequest1 _ _ _ _ nq]
 exact⟨_,by apply xcellx;rfl;all_goals simp only[keep_none,Z8,seval,hfl,expo_aggq,exq_State,exq_Store,expo1_ownF,expo1_id,exFRequest,FLb]<;>rfl,rfl⟩
noncomputable def knwL (ns:List Node) (l:List Request):List Request:=l.filter fun r=>decide (0≤findR ns r.block)
theorem c91 {t:State} {v:SV} {Q R:Option (List Request)} (h:TD t v Q R) (o:Option (List Request)) (hn:((ol o).length:Int) < 1000000):callL Tryz.prog 91 [.agg (cState t),ov csRequest o]=some (rowT 63 35 csRequest (knwL v.ns (ol o))):=by
 rw[cL Tryz.func91 rfl ok91 (by cases o<;>rfl)]
 refine ex_eq ?_
 simp only[Z8,seval]
 refine use_loopX (fun m st=>∃ k:Nat,(st.env 2=.ptr 2 0 0∧st.heap 2 0=some (.cells (cState t))∧st.env 1=ov csRequest o∧st.env 6=.v (.int .i64 k))∧(((((ol o).take k).filter (fun r=>decide (0≤findR v.ns r.block)))=[]∧st.env 5=.v (.slice none 0 0))∨((((ol o).take k).filter (fun r=>decide (0≤findR v.ns r.block)))≠[]∧∃ g,st.env 5=.own 29 g∧g < st.cnt 29∧st.heap 29 g=some (.row 63 35 (((ol o).take k).filter (fun r=>decide (0≤findR v.ns r.block))).length (csRequest (((ol o).take k).filter (fun r=>decide (0≤findR v.ns r.block)))))))∧k≤(ol o).length∧m=(ol o).length - k)
  (fun e st=>e=.exit 0∧(((((ol o).take (ol o).length).filter (fun r=>decide (0≤findR v.ns r.block)))=[]∧st.env 5=.v (.slice none 0 0))∨((((ol o).take (ol o).length).filter (fun r=>decide (0≤findR v.ns r.block)))≠[]∧∃ g,st.env 5=.own 29 g∧g < st.cnt 29∧st.heap 29 g=some (.row 63 35 (((ol o).take (ol o).length).filter (fun r=>decide (0≤findR v.ns r.block))).length (csRequest (((ol o).take (ol o).length).filter (fun r=>decide (0≤findR v.ns r.block)))))))∧st.env 2=.ptr 2 0 0∧st.heap 2 0=some (.cells (cState t))∧st.env 1=ov csRequest o) ((ol o).length) ?step ?start ?rest
 case step =>
  rintro m st ⟨k,hI,h5,hk,hm⟩
  have hl':(((((ol o).take k).filter (fun r=>decide (0≤findR v.ns r.block))).length:Nat):Int) < 1000000:=by have:=List.length_filter_le (fun r=>decide (0≤findR v.ns r.block)) ((ol o).take k);have h2:=List.length_take_le' k (ol o);omega
  by_cases hlt:(k:Int) < (ol o).length
  ·have q0:(0:Int)≤k:=by omega
   have hw:IntKind.i64.wrap ((k:Int)+1)=((k+1:Nat):Int):=by rw[w64 _ (by omega) (by omega)];omega
   have hs:=filt_succ zRequest (fun r=>decide (0≤findR v.ns r.block)) (ol o) k (by omega)
   by_cases hh:0≤findR v.ns (gx zRequest (ol o) (k:Int)).block
   ·rw[if_pos (decide_eq_true hh)] at hs
    rcases h5 with ⟨hy,h5⟩ | ⟨hy,g,h5⟩
    ·rw[hy] at hs
     apply oN ((ol o).length - (k+1))
     ·simp only[Z8,seval,hI,h5,hlt,hw,q0,h.sd.tree,k46 _ _ h.sd.nn,hh]
      rfl
     ·exact⟨k+1,by simp only[E8,seval,hI],.inr ⟨by rw[hs];simp,_,by simp only[E8,seval]<;>rfl,(by simp only[E8,seval]<;>omega),(by rw[hs];simp only[E8,seval]<;>rfl)⟩,by omega,rfl⟩
    ·apply oN ((ol o).length - (k+1))
     ·simp only[Z8,seval,hI,h5,hl',hlt,hw,q0,h.sd.tree,k46 _ _ h.sd.nn,hh]
      rfl
     ·exact⟨k+1,by simp only[E8,seval,hI],.inr ⟨by rw[hs];simp,_,by simp only[E8,seval]<;>rfl,(by simp only[E8,seval]<;>omega),(by rw[hs];simp only[E8,seval]<;>rfl)⟩,by omega,rfl⟩
   ·rw[if_neg (by simpa using hh),List.append_nil] at hs
    apply oN ((ol o).length - (k+1))
    ·simp only[Z8,seval,hI,hlt,hw,q0,h.sd.tree,k46 _ _ h.sd.nn,hh]
     rfl
    ·exact⟨k+1,by simp only[E8,seval,hI],by rw[hs];simpa only[E8,seval] using h5,by omega,rfl⟩
  ·have hkn:k=(ol o).length:=by omega
   rw[hkn] at h5
   apply oT (.exit 0)
   ·simp only[Z8,seval,hI,hlt]
    rfl
   ·exact⟨rfl,by simpa only[E8,seval] using h5,by simp only[E8,seval,hI]⟩
 case start=>exact⟨0,by simp only[E8,seval]<;>rfl,.inl ⟨rfl,by simp only[E8,seval]⟩,by omega,by omega⟩
 case rest =>
  rintro e st ⟨rfl,⟨hy,h5⟩ | ⟨hy,g,h5,hg,hh5⟩,hI⟩
  ·rw[List.take_length] at hy
   rw[show rowT 63 35 csRequest (knwL v.ns (ol o))=.v (.slice none 0 0) from if_pos hy]
   simp only[Z8,seval,h5]
   exact⟨_,xtmp rfl (by simp only[E8,seval,h5]<;>rfl) (by first | exact .v _ | simp only[FLb,h5]),rfl⟩
  ·rw[List.take_length] at hy hh5
   rw[show rowT 63 35 csRequest (knwL v.ns (ol o))=.uniq 63 35 (knwL v.ns (ol o)).length (csRequest (knwL v.ns (ol o))) from if_neg hy]
   simp only[Z8,seval,h5]
   exact⟨_,xrow rfl (by simp only[E8,seval,h5]<;>rfl) (by simp only[E8,seval,hh5]<;>rfl) (flat_csRequest _),rfl⟩
noncomputable def drpS (t:State) (v:SV) (Q R:Option (List Request)):State:={ t with requests:=ov csRequest (nz (knwL v.ns (ol Q))),retries:=ov csRequest (nz (knwL v.ns (ol R)))}
theorem c36 {t:State} {v:SV} {Q R:Option (List Request)} (h:TD t v Q R):callL Tryz.prog 36 [.agg (cState t)]=some (.agg (cState (drpS t v Q R))):=by
 have hfl:=h.fl
 have hf:=h.flat
 have cQ:=c91 h Q (by have:=h.nQ;omega)
 have cR:=c91 h R (by have:=h.nR;omega)
 rw[cL Tryz.func36 rfl ok36 rfl]
 refine ex_eq ?_
 by_cases e1:knwL v.ns (ol Q)=[]
 ·rw[show rowT 63 35 csRequest (knwL v.ns (ol Q))=.v (.slice none 0 0) from if_pos e1] at cQ
  have z1:nz (knwL v.ns (ol Q))=none:=if_pos e1
  have kQ:=kx cQ (flat2 hf (flat_ovRequest Q)) (.v _)
  by_cases e2:knwL v.ns (ol R)=[]
  ·rw[show rowT 63 35 csRequest (knwL v.ns (ol R))=.v (.slice none 0 0) from if_pos e2] at cR
   have z2:nz (knwL v.ns (ol R))=none:=if_pos e2
   have kR:=kx cR (flat2 hf (flat_ovRequest R)) (.v _)
   simp only[Z8,seval,h.req,h.ret,kQ,kR]
   exact⟨_,xcell rfl (by simp only[E8,seval,hfl]<;>rfl) (by simp only[Z8,seval,hfl]<;>rfl) (by simp only[FLb,and_self,hfl]),by unfold drpS;rw[z1,z2];rfl⟩
  ·rw[show rowT 63 35 csRequest (knwL v.ns (ol R))=.uniq 63 35 (knwL v.ns (ol R)).length (csRequest (knwL v.ns (ol R))) from if_neg e2] at cR
   have z2:nz (knwL v.ns (ol R))=some (knwL v.ns (ol R)):=if_neg e2
   have kR:∀ (st:St) (d:Nat),callFn (callL Tryz.prog) 91 [.agg (cState t),ov csRequest R] st (some d)=_:=fun st d=>call_uniq (st:=st) (d:=d) (flat2 hf (flat_ovRequest R)) cR
   simp only[Z8,seval,h.req,h.ret,kQ,kR]
   exact⟨_,by apply xcellx;rfl;all_goals simp only[keep_none,Z8,seval,hfl,expo_aggq,exq_State,exq_Store,expo1_ownF,expo1_id,exFRequest,FLb]<;>rfl,by unfold drpS;rw[z1,z2];rfl⟩
 ·rw[show rowT 63 35 csRequest (knwL v.ns (ol Q))=.uniq 63 35 (knwL v.ns (ol Q)).length (csRequest (knwL v.ns (ol Q))) from if_neg e1] at cQ
  have z1:nz (knwL v.ns (ol Q))=some (knwL v.ns (ol Q)):=if_neg e1
  have kQ:∀ (st:St) (d:Nat),callFn (callL Tryz.prog) 91 [.agg (cState t),ov csRequest Q] st (some d)=_:=fun st d=>call_uniq (st:=st) (d:=d) (flat2 hf (flat_ovRequest Q)) cQ
  by_cases e2:knwL v.ns (ol R)=[]
  ·rw[show rowT 63 35 csRequest (knwL v.ns (ol R))=.v (.slice none 0 0) from if_pos e2] at cR
   have z2:nz (knwL v.ns (ol R))=none:=if_pos e2
   have kR:=kx cR (flat2 hf (flat_ovRequest R)) (.v _)
   simp only[Z8,seval,h.req,h.ret,kQ,kR]
   exact⟨_,by apply xcellx;rfl;all_goals simp only[keep_none,Z8,seval,hfl,expo_aggq,exq_State,exq_Store,expo1_ownF,expo1_id,exFRequest,FLb]<;>rfl,by unfold drpS;rw[z1,z2];rfl⟩
  ·rw[show rowT 63 35 csRequest (knwL v.ns (ol R))=.uniq 63 35 (knwL v.ns (ol R)).length (csRequest (knwL v.ns (ol R))) from if_neg e2] at cR
   have z2:nz (knwL v.ns (ol R))=some (knwL v.ns (ol R)):=if_neg e2
   have kR:∀ (st:St) (d:Nat),callFn (callL Tryz.prog) 91 [.agg (cState t),ov csRequest R] st (some d)=_:=fun st d=>call_uniq (st:=st) (d:=d) (flat2 hf (flat_ovRequest R)) cR
   simp only[Z8,seval,h.req,h.ret,kQ,kR]
   exact⟨_,by apply xcellx;rfl;all_goals simp only[keep_none,Z8,seval,hfl,expo_aggq,exq_State,exq_Store,expo1_ownF,expo1_id,exFRequest,FLb]<;>rfl,by unfold drpS;rw[z1,z2];rfl⟩
theorem TD.drp {t:State} {v:SV} {Q R:Option (List Request)} (h:TD t v Q R):TD (drpS t v Q R) v (nz (knwL v.ns (ol Q))) (nz (knwL v.ns (ol R))):=by
 have h1:=List.length_filter_le (fun r:Request=>decide (0≤findR v.ns r.block)) (ol Q)
 have h2:=List.length_filter_le (fun r:Request=>decide (0≤findR v.ns r.block)) (ol R)
 refine⟨h.sd,rfl,rfl, ?_, ?_⟩
 ·rw[ol_nz];have:=h.nQ;unfold knwL;omega
 ·rw[ol_nz];have:=h.nR;unfold knwL;omega
noncomputable def opR (ns:List Node) (p:Option (List Request) × Int) (r:Root):Option (List Request) × Int:=if OptN ns r then (some (ol p.1 ++ [⟨⟨p.2⟩,r,0,0⟩]),IntKind.u64.wrap (p.2+1)) else p
noncomputable def opF (ns:List Node) (p:Option (List Request) × Int) (l:List Root):Option (List Request) × Int:=l.foldl (opR ns) p
theorem opF_step (ns:List Node) (a:Option (List Request) × Int) (l:List Root) (k:Nat) (h:k < l.length):opF ns a (l.take (k+1))=opR ns (opF ns a (l.take k)) (gx zRoot l k):=by
 unfold opF
 rw[List.take_succ_eq_append_getElem h,List.foldl_append]
 simp[gx,h]
def opS (t:State) (p:Option (List Request) × Int):State:={ t with requests:=ov csRequest p.1,nextTag:=p.2 }
theorem TD.opS {t:State} {v:SV} {Q R:Option (List Request)} (h:TD t v Q R) (p:Option (List Request) × Int) (hn:((ol p.1).length:Int) < 900000):TD (opS t p) v p.1 R:=⟨h.sd,rfl,h.ret,hn,h.nR⟩
theorem opS_id {t:State} {v:SV} {Q R:Option (List Request)} (h:TD t v Q R):Tryz.opS t (Q,t.nextTag)=t:=by unfold Tryz.opS;simp only;rw[← h.req]
theorem opR_len (ns:List Node) (p:Option (List Request) × Int) (r:Root):(ol (opR ns p r).1).length≤(ol p.1).length+1:=by
 unfold opR
 split
 ·show (ol p.1 ++ [_]).length≤_;rw[List.length_append,List.length_cons,List.length_nil];omega
 ·omega
theorem opF_len (ns:List Node) (p:Option (List Request) × Int) (l:List Root):(ol (opF ns p l).1).length≤(ol p.1).length+l.length:=by
 induction l generalizing p with
 | nil=>exact Nat.le_refl _
 | cons r l ih=>have h1:=ih (opR ns p r);have h2:=opR_len ns p r;rw[List.length_cons];show (ol (opF ns (opR ns p r) l).1).length≤_;omega
theorem c32 {t:State} {v:SV} {Q R:Option (List Request)} (h:TD t v Q R) (L:Option (List Root)) (hn:((ol Q).length:Int)+(ol L).length < 800000):callL Tryz.prog 32 [.agg (cState t),ov csRoot L]=some (.agg (cState (Tryz.opS t (opF v.ns (Q,t.nextTag) (ol L))))):=by
 have hT:∀ k:Nat,k≤(ol L).length→TD (Tryz.opS t (opF v.ns (Q,t.nextTag) ((ol L).take k))) v (opF v.ns (Q,t.nextTag) ((ol L).take k)).1 R:=fun k hk=>h.opS _ (by
  have:=opF_len v.ns (Q,t.nextTag) ((ol L).take k);rw[List.length_take] at this;have e:ol (Q,t.nextTag).1=ol Q:=rfl;rw[e] at this;omega)
 rw[cL Tryz.func32 rfl ok32 (by cases L<;>rfl)]
 refine ex_eq ?_
 simp only[Z8,seval]
 refine use_loopX (fun m st=>∃ k:Nat,(st.env 1=ov csRoot L∧st.env 2=.ptr 2 0 0∧st.heap 2 0=some (.cells (cState (Tryz.opS t (opF v.ns (Q,t.nextTag) ((ol L).take k)))))∧st.env 4=.ptr 4 0 0∧st.heap 4 0=some (.cells (cState zState))∧st.env 5=.v (.int .i64 k))∧k≤(ol L).length∧m=(ol L).length - k)
  (fun e st=>e=.exit 0∧(st.env 2=.ptr 2 0 0∧st.heap 2 0=some (.cells (cState (Tryz.opS t (opF v.ns (Q,t.nextTag) (ol L)))))∧st.env 4=.ptr 4 0 0∧st.heap 4 0=some (.cells (cState zState)))) (ol L).length ?step ?start ?rest
 case step =>
  rintro m st ⟨k,hI,hk,hm⟩
  by_cases hlt:(k:Int) < (ol L).length
  ·have q0:(0:Int)≤k:=by omega
   have hw:IntKind.i64.wrap ((k:Int)+1)=((k+1:Nat):Int):=by rw[w64 _ (by omega) (by omega)];omega
   have hs:=opF_step v.ns (Q,t.nextTag) (ol L) k (by omega)
   have hTk:=hT k hk
   have k85':=k85 hTk (gx zRoot (ol L) (k:Int))
   by_cases g1:OptN v.ns (gx zRoot (ol L) (k:Int))
   ·have hT1:=hT (k+1) (by omega)
    have k86':=kx (c86 hTk (gx zRoot (ol L) (k:Int)) 0) (flat3 hTk.flat (flatR _) (.v _)) (by
     have:opnS (Tryz.opS t (opF v.ns (Q,t.nextTag) ((ol L).take k))) (ol (opF v.ns (Q,t.nextTag) ((ol L).take k)).1) (gx zRoot (ol L) (k:Int)) 0=Tryz.opS t (opF v.ns (Q,t.nextTag) ((ol L).take (k+1))):=by rw[hs,opR,if_pos g1];rfl
     rw[this];exact hT1.flat)
    have he:opnS (Tryz.opS t (opF v.ns (Q,t.nextTag) ((ol L).take k))) (ol (opF v.ns (Q,t.nextTag) ((ol L).take k)).1) (gx zRoot (ol L) (k:Int)) 0=Tryz.opS t (opF v.ns (Q,t.nextTag) ((ol L).take (k+1))):=by rw[hs,opR,if_pos g1];rfl
    rw[he] at k86'
    apply oN ((ol L).length - (k+1))
    ·simp only[Z8,seval,hI,hlt,q0,k85',g1,k86',hw]
     rfl
    ·exact⟨k+1,by simp only[E8,seval,hI],by omega,rfl⟩
   ·rw[opR,if_neg g1] at hs
    apply oN ((ol L).length - (k+1))
    ·simp only[Z8,seval,hI,hlt,q0,k85',g1,hw]
     rfl
    ·exact⟨k+1,by simp only[E8,seval,hI,hs],by omega,rfl⟩
  ·have hkn:k=(ol L).length:=by omega
   rw[hkn,List.take_length] at hI
   apply oT (.exit 0)
   ·simp only[Z8,seval,hI,Int.lt_irrefl]
    rfl
   ·exact⟨rfl,by simp only[E8,seval,hI]⟩
 case start=>exact⟨0,by rw[List.take_zero,show opF v.ns (Q,t.nextTag) []=(Q,t.nextTag) from rfl,opS_id h];simp only[E8,seval]<;>rfl,by omega,by omega⟩
 case rest =>
  rintro e st ⟨rfl,hI⟩
  have hT1:=(hT (ol L).length (Nat.le_refl _)).fl
  rw[List.take_length] at hT1
  simp only[Z8,seval,hI]
  exact⟨_,xcell rfl (by simp only[E8,seval,hI,hT1]<;>rfl) (by simp only[Z8,seval,hI,hT1]<;>rfl) (by simp only[FLb,and_self,hI,hT1]),rfl⟩
noncomputable def dlyN (b:Int):Nat→Int→Int
 | 0,d=>d
 | n+1,d=>if IntKind.u64.wrap (b - d)≤d then b else dlyN b n (IntKind.u64.wrap (2 * d))
noncomputable def dlyV (n b:Int):Int:=if b=0 then 0 else dlyN b (n - 1).toNat 1
theorem c143 (n b:Int) (hn:n≤9223372036854775807):callL Tryz.prog 143 [.v (.int .i64 n),.v (.int .u64 b)]=some (.v (.int .u64 (dlyV n b))):=by
 rw[cL Tryz.func143 rfl ok143 rfl]
 refine ex_eq ?_
 by_cases g0:b=0
 ·simp only[Z8,seval,bt g0]
  exact⟨_,xtmp rfl (by simp only[E8,seval]<;>rfl) (by first | exact .v _ | simp only[FLb]),by rw[dlyV,if_pos g0]⟩
 simp only[Z8,seval,bf g0]
 refine use_loopX (fun m st=>∃ (k:Nat) (d i:Int),(st.env 0=.v (.int .i64 n)∧st.env 1=.v (.int .u64 b)∧st.env 5=.v (.int .u64 d)∧st.env 6=.v (.int .i64 i))∧i=k+1∧dlyN b ((n - 1).toNat - k) d=dlyN b (n - 1).toNat 1∧k≤(n - 1).toNat∧m=(n - 1).toNat - k)
  (fun e st=>(e=.ret∧st.env 4=.v (.int .u64 (dlyN b (n - 1).toNat 1)))∨(e=.exit 0∧st.env 5=.v (.int .u64 (dlyN b (n - 1).toNat 1)))) (n - 1).toNat ?step ?start ?rest
 case step =>
  rintro m st ⟨k,d,i,hI,hi,hd,hk,hm⟩
  by_cases hlt:i < n
  ·have hw:IntKind.i64.wrap (i+1)=i+1:=w64 _ (by omega) (by omega)
   have e1:(n - 1).toNat - k=((n - 1).toNat - (k+1))+1:=by omega
   rw[e1,dlyN] at hd
   by_cases g1:IntKind.u64.wrap (b - d)≤d
   ·rw[if_pos g1] at hd
    apply oT (.ret)
    ·simp only[Z8,seval,hI,hlt,g1]
     rfl
    ·exact .inl ⟨rfl,by rw[← hd];simp only[E8,seval]⟩
   ·rw[if_neg g1] at hd
    apply oN ((n - 1).toNat - (k+1))
    ·simp only[Z8,seval,hI,hlt,g1,hw]
     rfl
    ·exact⟨k+1,_,i+1,by and_intros<;>(simp only[E8,seval,hI]<;>rfl),by omega,hd,by omega,rfl⟩
  ·have e1:(n - 1).toNat - k=0:=by omega
   rw[e1,dlyN] at hd
   apply oT (.exit 0)
   ·simp only[Z8,seval,hI,hlt]
    rfl
   ·exact .inr ⟨rfl,by rw[← hd];simp only[E8,seval,hI]⟩
 case start=>exact⟨0,1,1,by and_intros<;>(simp only[E8,seval]<;>rfl),rfl,rfl,by omega,by omega⟩
 case rest =>
  rintro e st (⟨rfl,h⟩ | ⟨rfl,h⟩)
  ·simp only[Z8,seval,h]
   exact⟨_,xtmp rfl (by simp only[E8,seval,h]<;>rfl) (by first | exact .v _ | simp only[FLb,h]),by rw[dlyV,if_neg g0]⟩
  ·simp only[Z8,seval,h]
   exact⟨_,xtmp rfl (by simp only[E8,seval,h]<;>rfl) (by first | exact .v _ | simp only[FLb,h]),by rw[dlyV,if_neg g0]⟩
theorem k143 (n b:Int) (hn:n≤9223372036854775807) (st:St) (d:Option Nat):callFn (callL Tryz.prog) 143 [.v (.int .i64 n),.v (.int .u64 b)] st d=some { dst:=d,val:=.v (.int .u64 (dlyV n b))}:=kx (c143 n b hn) (flat2 (.v _) (.v _)) (.v _) st d
theorem x37 {s:Store} {v:SV} {q:Int} (h:GI s v q) (r:RG s v) (hB:0 < (ol v.B).length∧(ol v.B).length≤64) (k:Int) (hk:0≤k):∃ x,callL Tryz.prog 37 [.agg (cStore s),.v (.int .i64 k)]=some x∧∃ (a:Att) (V:List Int),x=.agg (cAtt a)∧a.vals=ov csInt (some V)∧(V.length:Int)≤1000∧Rg a.slot∧Rg a.target.epoch:=by
 have hn:=h.sd.nn
 have hp:(0:Int) < (v.ns.length:Int):=by have:=h.pos;omega
 have hne:¬ ((v.ns.length:Int)=0):=by omega
 obtain⟨m1,m2⟩:=tmod_bound (n:=(v.ns.length:Int)) hk hp
 obtain⟨i,hi⟩:∃ i,k.tmod (v.ns.length:Int)=i:=⟨_,rfl⟩
 rw[hi] at m1 m2
 obtain⟨m3,m4⟩:=tmod_bound (n:=(v.ns.length:Int)) (fdiv_nn hk (min 4 IntKind.i64.bits)) hp
 have hsp:=h.sp
 obtain⟨l,kl,hl⟩:=k45 (ol v.B).length ((k).fdiv (2 ^ min 3 IntKind.i64.bits)) (by omega) (by omega)
 have nl:(l.length:Int) < 1000000:=by omega
 have rn:Rg s.now:=⟨r.now.1,by have:=r.now.2;omega⟩
 rw[cL Tryz.func37 rfl ok37 rfl]
 by_cases g1:0 < ((((k).fdiv (2 ^ min 9 IntKind.i64.bits))).tmod 4)
 case neg =>
  obtain⟨y,hy,c,rfl,rc⟩:=x92 h r i (IntKind.u64.wrap ((s.now).tdiv s.cFg.spe)) (u64_Rg _)
  have k92:=kx hy (flat3 h.sd.flat (.v _) (.v _)) (.agg _ (flat_cCkpt _))
  by_cases d0:((((k).fdiv (2 ^ min 12 IntKind.i64.bits))).tmod 20)=0
  ·simp only[Z8,seval,h.sd.tree,h.sd.bal,hne,hi,m1,m2,kl,g1,hsp,k92,bt d0]
   exact⟨_,by apply xcellx;rfl;all_goals simp only[keep_none,Z8,seval,expo_aggq,exq_Att,expo1_ownF,expo1_id,exFInt,FLb]<;>rfl,_,l,rfl,rfl,by omega,rn,u64_Rg _⟩
  by_cases d1:((((k).fdiv (2 ^ min 12 IntKind.i64.bits))).tmod 20)=1
  ·simp only[Z8,seval,h.sd.tree,h.sd.bal,hne,hi,m1,m2,kl,g1,hsp,k92,bf d0,bt d1,k30]
   exact⟨_,by apply xcellx;rfl;all_goals simp only[keep_none,Z8,seval,expo_aggq,exq_Att,expo1_ownF,expo1_id,exFInt,FLb]<;>rfl,_,l,rfl,rfl,by omega,rn,rc⟩
  by_cases d2:((((k).fdiv (2 ^ min 12 IntKind.i64.bits))).tmod 20)=2
  ·simp only[Z8,seval,h.sd.tree,h.sd.bal,hne,hi,m1,m2,kl,g1,hsp,k92,bf d0,bf d1,bt d2,m3,m4]
   exact⟨_,by apply xcellx;rfl;all_goals simp only[keep_none,Z8,seval,expo_aggq,exq_Att,expo1_ownF,expo1_id,exFInt,FLb]<;>rfl,_,l,rfl,rfl,by omega,rn,rc⟩
  by_cases d3:((((k).fdiv (2 ^ min 12 IntKind.i64.bits))).tmod 20)=3
  ·simp only[Z8,seval,h.sd.tree,h.sd.bal,hne,hi,m1,m2,kl,g1,hsp,k92,bf d0,bf d1,bf d2,bt d3]
   exact⟨_,by apply xcellx;rfl;all_goals simp only[keep_none,Z8,seval,expo_aggq,exq_Att,expo1_ownF,expo1_id,exFInt,FLb]<;>rfl,_,l,rfl,rfl,by omega,u64_Rg _,rc⟩
  by_cases d4:((((k).fdiv (2 ^ min 12 IntKind.i64.bits))).tmod 20)=4
  ·simp only[Z8,seval,h.sd.tree,h.sd.bal,hne,hi,m1,m2,kl,g1,hsp,k92,bf d0,bf d1,bf d2,bf d3,bt d4,aooInt1 _ _ _ _ nl]
   exact⟨_,by apply xcellx;rfl;all_goals simp only[keep_none,Z8,seval,expo_aggq,exq_Att,expo1_ownF,expo1_id,exFInt,FLb]<;>rfl,_,l ++ [((((k).fdiv (2 ^ min 17 IntKind.i64.bits))).tmod 9)],rfl,rfl,by rw[List.length_append,List.length_cons,List.length_nil];omega,rn,rc⟩
  simp only[Z8,seval,h.sd.tree,h.sd.bal,hne,hi,m1,m2,kl,g1,hsp,k92,bf d0,bf d1,bf d2,bf d3,bf d4]
  exact⟨_,by apply xcellx;rfl;all_goals simp only[keep_none,Z8,seval,expo_aggq,exq_Att,expo1_ownF,expo1_id,exFInt,FLb]<;>rfl,_,l,rfl,rfl,by omega,rn,rc⟩
 by_cases g2:0 < s.now
 case neg =>
  obtain⟨y,hy,c,rfl,rc⟩:=x92 h r i (IntKind.u64.wrap ((s.now).tdiv s.cFg.spe)) (u64_Rg _)
  have k92:=kx hy (flat3 h.sd.flat (.v _) (.v _)) (.agg _ (flat_cCkpt _))
  by_cases d0:((((k).fdiv (2 ^ min 12 IntKind.i64.bits))).tmod 20)=0
  ·simp only[Z8,seval,h.sd.tree,h.sd.bal,hne,hi,m1,m2,kl,g1,g2,hsp,k92,bt d0]
   exact⟨_,by apply xcellx;rfl;all_goals simp only[keep_none,Z8,seval,expo_aggq,exq_Att,expo1_ownF,expo1_id,exFInt,FLb]<;>rfl,_,l,rfl,rfl,by omega,rn,u64_Rg _⟩
  by_cases d1:((((k).fdiv (2 ^ min 12 IntKind.i64.bits))).tmod 20)=1
  ·simp only[Z8,seval,h.sd.tree,h.sd.bal,hne,hi,m1,m2,kl,g1,g2,hsp,k92,bf d0,bt d1,k30]
   exact⟨_,by apply xcellx;rfl;all_goals simp only[keep_none,Z8,seval,expo_aggq,exq_Att,expo1_ownF,expo1_id,exFInt,FLb]<;>rfl,_,l,rfl,rfl,by omega,rn,rc⟩
  by_cases d2:((((k).fdiv (2 ^ min 12 IntKind.i64.bits))).tmod 20)=2
  ·simp only[Z8,seval,h.sd.tree,h.sd.bal,hne,hi,m1,m2,kl,g1,g2,hsp,k92,bf d0,bf d1,bt d2,m3,m4]
   exact⟨_,by apply xcellx;rfl;all_goals simp only[keep_none,Z8,seval,expo_aggq,exq_Att,expo1_ownF,expo1_id,exFInt,FLb]<;>rfl,_,l,rfl,rfl,by omega,rn,rc⟩
  by_cases d3:((((k).fdiv (2 ^ min 12 IntKind.i64.bits))).tmod 20)=3
  ·simp only[Z8,seval,h.sd.tree,h.sd.bal,hne,hi,m1,m2,kl,g1,g2,hsp,k92,bf d0,bf d1,bf d2,bt d3]
   exact⟨_,by apply xcellx;rfl;all_goals simp only[keep_none,Z8,seval,expo_aggq,exq_Att,expo1_ownF,expo1_id,exFInt,FLb]<;>rfl,_,l,rfl,rfl,by omega,u64_Rg _,rc⟩
  by_cases d4:((((k).fdiv (2 ^ min 12 IntKind.i64.bits))).tmod 20)=4
  ·simp only[Z8,seval,h.sd.tree,h.sd.bal,hne,hi,m1,m2,kl,g1,g2,hsp,k92,bf d0,bf d1,bf d2,bf d3,bt d4,aooInt1 _ _ _ _ nl]
   exact⟨_,by apply xcellx;rfl;all_goals simp only[keep_none,Z8,seval,expo_aggq,exq_Att,expo1_ownF,expo1_id,exFInt,FLb]<;>rfl,_,l ++ [((((k).fdiv (2 ^ min 17 IntKind.i64.bits))).tmod 9)],rfl,rfl,by rw[List.length_append,List.length_cons,List.length_nil];omega,rn,rc⟩
  simp only[Z8,seval,h.sd.tree,h.sd.bal,hne,hi,m1,m2,kl,g1,g2,hsp,k92,bf d0,bf d1,bf d2,bf d3,bf d4]
  exact⟨_,by apply xcellx;rfl;all_goals simp only[keep_none,Z8,seval,expo_aggq,exq_Att,expo1_ownF,expo1_id,exFInt,FLb]<;>rfl,_,l,rfl,rfl,by omega,rn,rc⟩
 obtain⟨y,hy,c,rfl,rc⟩:=x92 h r i (IntKind.u64.wrap ((IntKind.u64.wrap (s.now - 1)).tdiv s.cFg.spe)) (u64_Rg _)
 have k92:=kx hy (flat3 h.sd.flat (.v _) (.v _)) (.agg _ (flat_cCkpt _))
 by_cases d0:((((k).fdiv (2 ^ min 12 IntKind.i64.bits))).tmod 20)=0
 ·simp only[Z8,seval,h.sd.tree,h.sd.bal,hne,hi,m1,m2,kl,g1,g2,hsp,k92,bt d0]
  exact⟨_,by apply xcellx;rfl;all_goals simp only[keep_none,Z8,seval,expo_aggq,exq_Att,expo1_ownF,expo1_id,exFInt,FLb]<;>rfl,_,l,rfl,rfl,by omega,u64_Rg _,u64_Rg _⟩
 by_cases d1:((((k).fdiv (2 ^ min 12 IntKind.i64.bits))).tmod 20)=1
 ·simp only[Z8,seval,h.sd.tree,h.sd.bal,hne,hi,m1,m2,kl,g1,g2,hsp,k92,bf d0,bt d1,k30]
  exact⟨_,by apply xcellx;rfl;all_goals simp only[keep_none,Z8,seval,expo_aggq,exq_Att,expo1_ownF,expo1_id,exFInt,FLb]<;>rfl,_,l,rfl,rfl,by omega,u64_Rg _,rc⟩
 by_cases d2:((((k).fdiv (2 ^ min 12 IntKind.i64.bits))).tmod 20)=2
 ·simp only[Z8,seval,h.sd.tree,h.sd.bal,hne,hi,m1,m2,kl,g1,g2,hsp,k92,bf d0,bf d1,bt d2,m3,m4]
  exact⟨_,by apply xcellx;rfl;all_goals simp only[keep_none,Z8,seval,expo_aggq,exq_Att,expo1_ownF,expo1_id,exFInt,FLb]<;>rfl,_,l,rfl,rfl,by omega,u64_Rg _,rc⟩
 by_cases d3:((((k).fdiv (2 ^ min 12 IntKind.i64.bits))).tmod 20)=3
 ·simp only[Z8,seval,h.sd.tree,h.sd.bal,hne,hi,m1,m2,kl,g1,g2,hsp,k92,bf d0,bf d1,bf d2,bt d3]
  exact⟨_,by apply xcellx;rfl;all_goals simp only[keep_none,Z8,seval,expo_aggq,exq_Att,expo1_ownF,expo1_id,exFInt,FLb]<;>rfl,_,l,rfl,rfl,by omega,u64_Rg _,rc⟩
 by_cases d4:((((k).fdiv (2 ^ min 12 IntKind.i64.bits))).tmod 20)=4
 ·simp only[Z8,seval,h.sd.tree,h.sd.bal,hne,hi,m1,m2,kl,g1,g2,hsp,k92,bf d0,bf d1,bf d2,bf d3,bt d4,aooInt1 _ _ _ _ nl]
  exact⟨_,by apply xcellx;rfl;all_goals simp only[keep_none,Z8,seval,expo_aggq,exq_Att,expo1_ownF,expo1_id,exFInt,FLb]<;>rfl,_,l ++ [((((k).fdiv (2 ^ min 17 IntKind.i64.bits))).tmod 9)],rfl,rfl,by rw[List.length_append,List.length_cons,List.length_nil];omega,u64_Rg _,rc⟩
 simp only[Z8,seval,h.sd.tree,h.sd.bal,hne,hi,m1,m2,kl,g1,g2,hsp,k92,bf d0,bf d1,bf d2,bf d3,bf d4]
 exact⟨_,by apply xcellx;rfl;all_goals simp only[keep_none,Z8,seval,expo_aggq,exq_Att,expo1_ownF,expo1_id,exFInt,FLb]<;>rfl,_,l,rfl,rfl,by omega,u64_Rg _,rc⟩
theorem ev_bs22_6 {call:Nat→List AV→Option AV} {ops:Array Oper} {st:St} {T:Nat} {pos:String} {aft:Array Edge} (d:Nat):evOp Tryz.prog call ops ⟨some d,.buildSlice 22 6 #[(0,.const (.int .i64 1)),(1,.const (.int .i64 1)),(2,.const (.int .i64 2)),(3,.const (.int .i64 2)),(4,.const (.int .i64 3)),(5,.const (.int .i64 4))],T,pos,aft,none⟩ st =
 some ((st.new d (.row 3 1 6 (csInt [1,1,2,2,3,4]))).put (some d) (.own d (st.cnt d))):=by
 rw[ev_buildSlice]
 simp[sl22,ze3,bnd,St.ev,AV.stor,Value.oneCell',fillA,AV.cells,List.range,List.range.loop,csInt,cInt]
theorem x25 {t:State} {v:SV} {Q R:Option (List Request)} {q:Int} (hT:TD t v Q R) (h:GI t.store v q) (hq:∀ r∈ol Q,Rg r.tagged.tag) (k:Int) (hk:0≤k):∃ x,callL Tryz.prog 25 [.agg (cState t),.v (.int .i64 k)]=some x∧∃ w:Verdict,x=.agg (cVerdict w)∧Rg w.tagged.tag:=by
 have hn:=h.sd.nn
 have hp:(0:Int) < (v.ns.length:Int):=by have:=h.pos;omega
 have hne:¬ ((v.ns.length:Int)=0):=by omega
 obtain⟨m1,m2⟩:=tmod_bound (n:=(v.ns.length:Int)) hk hp
 obtain⟨j0,j1⟩:=tmod_bound (n:=6) (fdiv_nn hk (min 4 IntKind.i64.bits)) (by omega)
 obtain⟨j,hj⟩:∃ j,((((k).fdiv (2 ^ min 4 IntKind.i64.bits))).tmod 6)=j:=⟨_,rfl⟩
 rw[hj] at j0 j1
 have g6:=get_csInt0 (l:=[1,1,2,2,3,4]) j0 (by show j < ((6:Nat):Int);omega)
 have fv:∀ w:Verdict,Flat (.agg (cVerdict w))=True:=fun w=>eq_true (.agg _ (flat_cVerdict w))
 have rTA:=u64_Rg (k.tmod 9)
 rw[cG Tryz.func25 rfl ok25 (by kernel_rfl) rfl]
 by_cases g1:(0:Int) < ((ol Q).length:Int)
 case neg =>
  by_cases p0:0≤findR v.ns ((nd v.ns (k.tmod (v.ns.length:Int))).block.root)
  case neg =>
   have kp:=fun st d=>k76n v.ns (findR v.ns ((nd v.ns (k.tmod (v.ns.length:Int))).block.root)) (fun hh=>p0 hh.1) st d
   by_cases e2:((((k).fdiv (2 ^ min 14 IntKind.i64.bits))).tmod 16)=0
   ·simp only[ZG,seval,Bool.false_and,Prod.mk.injEq,DY25,ev_bs22_6,hj,j0,j1,g6,hT.req,h.sd.tree,hne,m1,m2,k46 _ _ hn,g1,kp,bt e2,k30]
    exact⟨_,xcell rfl (by simp only[E8,seval,fv]<;>rfl) (by simp only[Z8,seval,fv]<;>rfl) (by simp only[FLb,and_self,fv]),_,rfl,rTA⟩
   simp only[ZG,seval,Bool.false_and,Prod.mk.injEq,DY25,ev_bs22_6,hj,j0,j1,g6,hT.req,h.sd.tree,hne,m1,m2,k46 _ _ hn,g1,kp,bf e2]
   exact⟨_,xcell rfl (by simp only[E8,seval,fv]<;>rfl) (by simp only[Z8,seval,fv]<;>rfl) (by simp only[FLb,and_self,fv]),_,rfl,rTA⟩
  have pr:=findR_range v.ns ((nd v.ns (k.tmod (v.ns.length:Int))).block.root)
  have kp:=fun st d=>k76 v.ns h.up hn (findR v.ns ((nd v.ns (k.tmod (v.ns.length:Int))).block.root)) p0 pr.2 st d
  have pm:=path_self h.up p0 pr.2
  have prg:∀ x∈path v.ns (findR v.ns ((nd v.ns (k.tmod (v.ns.length:Int))).block.root)),0≤x∧x < v.ns.length:=fun x hx=>path_range h.up hx
  have pl:=path_lt h.up (findR v.ns ((nd v.ns (k.tmod (v.ns.length:Int))).block.root))
  obtain⟨p,ep⟩:∃ p,path v.ns (findR v.ns ((nd v.ns (k.tmod (v.ns.length:Int))).block.root))=p:=⟨_,rfl⟩
  rw[ep] at kp pm prg pl
  have l0:(0:Int) < (p.length:Int):=by have:=List.length_pos_of_mem pm;omega
  have lne:¬ ((p.length:Int)=0):=by omega
  by_cases e1:0 < ((((k).fdiv (2 ^ min 14 IntKind.i64.bits))).tmod 4)
  case neg =>
   by_cases e2:((((k).fdiv (2 ^ min 14 IntKind.i64.bits))).tmod 16)=0
   ·simp only[ZG,seval,Bool.false_and,Prod.mk.injEq,DY25,ev_bs22_6,hj,j0,j1,g6,hT.req,h.sd.tree,hne,m1,m2,k46 _ _ hn,g1,kp,l0,e1,bt e2,k30]
    exact⟨_,xcell rfl (by simp only[E8,seval,fv]<;>rfl) (by simp only[Z8,seval,fv]<;>rfl) (by simp only[FLb,and_self,fv]),_,rfl,rTA⟩
   simp only[ZG,seval,Bool.false_and,Prod.mk.injEq,DY25,ev_bs22_6,hj,j0,j1,g6,hT.req,h.sd.tree,hne,m1,m2,k46 _ _ hn,g1,kp,l0,e1,bf e2]
   exact⟨_,xcell rfl (by simp only[E8,seval,fv]<;>rfl) (by simp only[Z8,seval,fv]<;>rfl) (by simp only[FLb,and_self,fv]),_,rfl,rTA⟩
  obtain⟨x1,x2⟩:=tmod_bound (n:=(p.length:Int)) (fdiv_nn hk (min 16 IntKind.i64.bits)) l0
  obtain⟨y,hy⟩:∃ y,((((k).fdiv (2 ^ min 16 IntKind.i64.bits))).tmod (p.length:Int))=y:=⟨_,rfl⟩
  rw[hy] at x1 x2
  have gp:=get_csInt0 x1 x2
  obtain⟨z1,z2⟩:=prg (it p y) (by obtain⟨h1,h2⟩:=it_get x1 x2;rw[h2];exact List.getElem_mem h1)
  by_cases e2:((((k).fdiv (2 ^ min 14 IntKind.i64.bits))).tmod 16)=0
  ·simp only[ZG,seval,Bool.false_and,Prod.mk.injEq,DY25,ev_bs22_6,hj,j0,j1,g6,hT.req,h.sd.tree,hne,m1,m2,k46 _ _ hn,g1,kp,l0,lne,e1,hy,x1,x2,gp,z1,z2,bt e2,k30]
   exact⟨_,xcell rfl (by simp only[E8,seval,fv]<;>rfl) (by simp only[Z8,seval,fv]<;>rfl) (by simp only[FLb,and_self,fv]),_,rfl,rTA⟩
  simp only[ZG,seval,Bool.false_and,Prod.mk.injEq,DY25,ev_bs22_6,hj,j0,j1,g6,hT.req,h.sd.tree,hne,m1,m2,k46 _ _ hn,g1,kp,l0,lne,e1,hy,x1,x2,gp,z1,z2,bf e2]
  exact⟨_,xcell rfl (by simp only[E8,seval,fv]<;>rfl) (by simp only[Z8,seval,fv]<;>rfl) (by simp only[FLb,and_self,fv]),_,rfl,rTA⟩
 by_cases g2:0 < ((((k).fdiv (2 ^ min 8 IntKind.i64.bits))).tmod 8)
 case neg =>
  by_cases p0:0≤findR v.ns ((nd v.ns (k.tmod (v.ns.length:Int))).block.root)
  case neg =>
   have kp:=fun st d=>k76n v.ns (findR v.ns ((nd v.ns (k.tmod (v.ns.length:Int))).block.root)) (fun hh=>p0 hh.1) st d
   by_cases e2:((((k).fdiv (2 ^ min 14 IntKind.i64.bits))).tmod 16)=0
   ·simp only[ZG,seval,Bool.false_and,Prod.mk.injEq,DY25,ev_bs22_6,hj,j0,j1,g6,hT.req,h.sd.tree,hne,m1,m2,k46 _ _ hn,g1,g2,kp,bt e2,k30]
    exact⟨_,xcell rfl (by simp only[E8,seval,fv]<;>rfl) (by simp only[Z8,seval,fv]<;>rfl) (by simp only[FLb,and_self,fv]),_,rfl,rTA⟩
   simp only[ZG,seval,Bool.false_and,Prod.mk.injEq,DY25,ev_bs22_6,hj,j0,j1,g6,hT.req,h.sd.tree,hne,m1,m2,k46 _ _ hn,g1,g2,kp,bf e2]
   exact⟨_,xcell rfl (by simp only[E8,seval,fv]<;>rfl) (by simp only[Z8,seval,fv]<;>rfl) (by simp only[FLb,and_self,fv]),_,rfl,rTA⟩
  have pr:=findR_range v.ns ((nd v.ns (k.tmod (v.ns.length:Int))).block.root)
  have kp:=fun st d=>k76 v.ns h.up hn (findR v.ns ((nd v.ns (k.tmod (v.ns.length:Int))).block.root)) p0 pr.2 st d
  have pm:=path_self h.up p0 pr.2
  have prg:∀ x∈path v.ns (findR v.ns ((nd v.ns (k.tmod (v.ns.length:Int))).block.root)),0≤x∧x < v.ns.length:=fun x hx=>path_range h.up hx
  have pl:=path_lt h.up (findR v.ns ((nd v.ns (k.tmod (v.ns.length:Int))).block.root))
  obtain⟨p,ep⟩:∃ p,path v.ns (findR v.ns ((nd v.ns (k.tmod (v.ns.length:Int))).block.root))=p:=⟨_,rfl⟩
  rw[ep] at kp pm prg pl
  have l0:(0:Int) < (p.length:Int):=by have:=List.length_pos_of_mem pm;omega
  have lne:¬ ((p.length:Int)=0):=by omega
  by_cases e1:0 < ((((k).fdiv (2 ^ min 14 IntKind.i64.bits))).tmod 4)
  case neg =>
   by_cases e2:((((k).fdiv (2 ^ min 14 IntKind.i64.bits))).tmod 16)=0
   ·simp only[ZG,seval,Bool.false_and,Prod.mk.injEq,DY25,ev_bs22_6,hj,j0,j1,g6,hT.req,h.sd.tree,hne,m1,m2,k46 _ _ hn,g1,g2,kp,l0,e1,bt e2,k30]
    exact⟨_,xcell rfl (by simp only[E8,seval,fv]<;>rfl) (by simp only[Z8,seval,fv]<;>rfl) (by simp only[FLb,and_self,fv]),_,rfl,rTA⟩
   simp only[ZG,seval,Bool.false_and,Prod.mk.injEq,DY25,ev_bs22_6,hj,j0,j1,g6,hT.req,h.sd.tree,hne,m1,m2,k46 _ _ hn,g1,g2,kp,l0,e1,bf e2]
   exact⟨_,xcell rfl (by simp only[E8,seval,fv]<;>rfl) (by simp only[Z8,seval,fv]<;>rfl) (by simp only[FLb,and_self,fv]),_,rfl,rTA⟩
  obtain⟨x1,x2⟩:=tmod_bound (n:=(p.length:Int)) (fdiv_nn hk (min 16 IntKind.i64.bits)) l0
  obtain⟨y,hy⟩:∃ y,((((k).fdiv (2 ^ min 16 IntKind.i64.bits))).tmod (p.length:Int))=y:=⟨_,rfl⟩
  rw[hy] at x1 x2
  have gp:=get_csInt0 x1 x2
  obtain⟨z1,z2⟩:=prg (it p y) (by obtain⟨h1,h2⟩:=it_get x1 x2;rw[h2];exact List.getElem_mem h1)
  by_cases e2:((((k).fdiv (2 ^ min 14 IntKind.i64.bits))).tmod 16)=0
  ·simp only[ZG,seval,Bool.false_and,Prod.mk.injEq,DY25,ev_bs22_6,hj,j0,j1,g6,hT.req,h.sd.tree,hne,m1,m2,k46 _ _ hn,g1,g2,kp,l0,lne,e1,hy,x1,x2,gp,z1,z2,bt e2,k30]
   exact⟨_,xcell rfl (by simp only[E8,seval,fv]<;>rfl) (by simp only[Z8,seval,fv]<;>rfl) (by simp only[FLb,and_self,fv]),_,rfl,rTA⟩
  simp only[ZG,seval,Bool.false_and,Prod.mk.injEq,DY25,ev_bs22_6,hj,j0,j1,g6,hT.req,h.sd.tree,hne,m1,m2,k46 _ _ hn,g1,g2,kp,l0,lne,e1,hy,x1,x2,gp,z1,z2,bf e2]
  exact⟨_,xcell rfl (by simp only[E8,seval,fv]<;>rfl) (by simp only[Z8,seval,fv]<;>rfl) (by simp only[FLb,and_self,fv]),_,rfl,rTA⟩
 have qne:¬ (((ol Q).length:Int)=0):=by omega
 obtain⟨c1,c2⟩:=tmod_bound (n:=((ol Q).length:Int)) (fdiv_nn hk (min 11 IntKind.i64.bits)) g1
 obtain⟨c,hc⟩:∃ c,((((k).fdiv (2 ^ min 11 IntKind.i64.bits))).tmod ((ol Q).length:Int))=c:=⟨_,rfl⟩
 rw[hc] at c1 c2
 have rTB:Rg (gx zRequest (ol Q) c).tagged.tag:=hq _ (gx_mem c1 c2)
 by_cases p0:0≤findR v.ns ((gx zRequest (ol Q) c).block)
 case neg =>
  have kp:=fun st d=>k76n v.ns (findR v.ns ((gx zRequest (ol Q) c).block)) (fun hh=>p0 hh.1) st d
  by_cases e2:((((k).fdiv (2 ^ min 14 IntKind.i64.bits))).tmod 16)=0
  ·simp only[ZG,seval,Bool.false_and,Prod.mk.injEq,DY25,ev_bs22_6,hj,j0,j1,g6,hT.req,h.sd.tree,hne,m1,m2,k46 _ _ hn,g1,g2,qne,hc,c1,c2,kp,bt e2,k30]
   exact⟨_,xcell rfl (by simp only[E8,seval,fv]<;>rfl) (by simp only[Z8,seval,fv]<;>rfl) (by simp only[FLb,and_self,fv]),_,rfl,rTB⟩
  simp only[ZG,seval,Bool.false_and,Prod.mk.injEq,DY25,ev_bs22_6,hj,j0,j1,g6,hT.req,h.sd.tree,hne,m1,m2,k46 _ _ hn,g1,g2,qne,hc,c1,c2,kp,bf e2]
  exact⟨_,xcell rfl (by simp only[E8,seval,fv]<;>rfl) (by simp only[Z8,seval,fv]<;>rfl) (by simp only[FLb,and_self,fv]),_,rfl,rTB⟩
 have pr:=findR_range v.ns ((gx zRequest (ol Q) c).block)
 have kp:=fun st d=>k76 v.ns h.up hn (findR v.ns ((gx zRequest (ol Q) c).block)) p0 pr.2 st d
 have pm:=path_self h.up p0 pr.2
 have prg:∀ x∈path v.ns (findR v.ns ((gx zRequest (ol Q) c).block)),0≤x∧x < v.ns.length:=fun x hx=>path_range h.up hx
 have pl:=path_lt h.up (findR v.ns ((gx zRequest (ol Q) c).block))
 obtain⟨p,ep⟩:∃ p,path v.ns (findR v.ns ((gx zRequest (ol Q) c).block))=p:=⟨_,rfl⟩
 rw[ep] at kp pm prg pl
 have l0:(0:Int) < (p.length:Int):=by have:=List.length_pos_of_mem pm;omega
 have lne:¬ ((p.length:Int)=0):=by omega
 by_cases e1:0 < ((((k).fdiv (2 ^ min 14 IntKind.i64.bits))).tmod 4)
 case neg =>
  by_cases e2:((((k).fdiv (2 ^ min 14 IntKind.i64.bits))).tmod 16)=0
  ·simp only[ZG,seval,Bool.false_and,Prod.mk.injEq,DY25,ev_bs22_6,hj,j0,j1,g6,hT.req,h.sd.tree,hne,m1,m2,k46 _ _ hn,g1,g2,qne,hc,c1,c2,kp,l0,e1,bt e2,k30]
   exact⟨_,xcell rfl (by simp only[E8,seval,fv]<;>rfl) (by simp only[Z8,seval,fv]<;>rfl) (by simp only[FLb,and_self,fv]),_,rfl,rTB⟩
  simp only[ZG,seval,Bool.false_and,Prod.mk.injEq,DY25,ev_bs22_6,hj,j0,j1,g6,hT.req,h.sd.tree,hne,m1,m2,k46 _ _ hn,g1,g2,qne,hc,c1,c2,kp,l0,e1,bf e2]
  exact⟨_,xcell rfl (by simp only[E8,seval,fv]<;>rfl) (by simp only[Z8,seval,fv]<;>rfl) (by simp only[FLb,and_self,fv]),_,rfl,rTB⟩
 obtain⟨x1,x2⟩:=tmod_bound (n:=(p.length:Int)) (fdiv_nn hk (min 16 IntKind.i64.bits)) l0
 obtain⟨y,hy⟩:∃ y,((((k).fdiv (2 ^ min 16 IntKind.i64.bits))).tmod (p.length:Int))=y:=⟨_,rfl⟩
 rw[hy] at x1 x2
 have gp:=get_csInt0 x1 x2
 obtain⟨z1,z2⟩:=prg (it p y) (by obtain⟨h1,h2⟩:=it_get x1 x2;rw[h2];exact List.getElem_mem h1)
 by_cases e2:((((k).fdiv (2 ^ min 14 IntKind.i64.bits))).tmod 16)=0
 ·simp only[ZG,seval,Bool.false_and,Prod.mk.injEq,DY25,ev_bs22_6,hj,j0,j1,g6,hT.req,h.sd.tree,hne,m1,m2,k46 _ _ hn,g1,g2,qne,hc,c1,c2,kp,l0,lne,e1,hy,x1,x2,gp,z1,z2,bt e2,k30]
  exact⟨_,xcell rfl (by simp only[E8,seval,fv]<;>rfl) (by simp only[Z8,seval,fv]<;>rfl) (by simp only[FLb,and_self,fv]),_,rfl,rTB⟩
 simp only[ZG,seval,Bool.false_and,Prod.mk.injEq,DY25,ev_bs22_6,hj,j0,j1,g6,hT.req,h.sd.tree,hne,m1,m2,k46 _ _ hn,g1,g2,qne,hc,c1,c2,kp,l0,lne,e1,hy,x1,x2,gp,z1,z2,bf e2]
 exact⟨_,xcell rfl (by simp only[E8,seval,fv]<;>rfl) (by simp only[Z8,seval,fv]<;>rfl) (by simp only[FLb,and_self,fv]),_,rfl,rTB⟩
end Go.Ab.Tryz
section
namespace Go.Ab
open Classical
theorem join_seq [Ext] {P:Program} {bi:Bool} {a b:Code} {st:St} {β:Type} {K:Ex × St→Option β} {R:β→Prop} (Q:St→Prop) (h:∃ st',evG P bi a st=some (.normal,st')∧Q st')
 (rest:∀ st',Q st'→∃ r,bnd (evG P bi b st') K=some r∧R r):∃ r,bnd (evG P bi (.seq a b) st) K=some r∧R r:=by
 obtain⟨s1,h1,h2⟩:=h
 rw[evG_seq,h1]
 exact rest s1 h2
end Go.Ab
namespace Go.Ab.Tryz
open Classical Go.Proofs Go.Ab
structure BQ (n:Int) (v:SV) (b:Block):Prop extends RB b where
 rt:b.root=mkRoot n∨∃ m∈v.ns,b.root=m.block.root
theorem x50 {s:Store} {v:SV} {q:Int} (h:GI s v q) (r:RG s v) (n k:Int) (hk:0≤k):∃ x,callL Tryz.prog 50 [.agg (cStore s),.v (.int .i64 n),.v (.int .i64 k)]=some x∧∃ b:Block,x=.agg (cBlock b)∧BQ n v b:=by
 have hn:=h.sd.nn
 have hp:(0:Int) < (v.ns.length:Int):=by have:=h.pos;omega
 have hne:¬ ((v.ns.length:Int)=0):=by omega
 have hsp:=h.sp
 have rn:Rg s.now:=⟨r.now.1,by have:=r.now.2;omega⟩
 have rnd:∀ p:Int,0≤p→p < v.ns.length→RB (nd v.ns p).block:=fun p h0 h1=>(r.nd _ (nd_mem h0 h1)).1
 obtain⟨m1,m2⟩:=tmod_bound (n:=(v.ns.length:Int)) hk hp
 obtain⟨m3,m4⟩:=tmod_bound (n:=(v.ns.length:Int)) (fdiv_nn hk (min 3 IntKind.i64.bits)) hp
 rw[cG Tryz.func50 rfl ok50 (by kernel_rfl) rfl]
 refine join_seq (fun st=>st.cnt 8=0∧st.cnt 9=0∧st.cnt 11=0∧st.env 1=.v (.int .i64 n)∧st.env 2=.v (.int .i64 k)∧st.env 3=.ptr 3 0 0∧st.heap 3 0=some (.cells (cStore s))∧st.env 6=.ptr 6 0 0∧st.heap 6 0=some (.cells (cBlock zBlock))) ?h0 ?r0
 case h0 =>
  refine⟨?s1, ?h1, ?q1⟩
  case h1 =>
   simp only[ZG,seval,Bool.false_and,Prod.mk.injEq,DY50]
   rfl
  case q1=>exact⟨by simp only[E8,seval]<;>rfl,by simp only[E8,seval]<;>rfl,by simp only[E8,seval]<;>rfl,by simp only[E8,seval]<;>rfl,by simp only[E8,seval]<;>rfl,by simp only[E8,seval]<;>rfl,by simp only[E8,seval]<;>rfl,by simp only[E8,seval]<;>rfl,by simp only[E8,seval]<;>rfl⟩
 case r0 =>
 intro st hI
 refine join_seq (fun st=>∃ p:Int,(st.cnt 8=0∧st.cnt 9=0∧st.cnt 11=0∧st.env 1=.v (.int .i64 n)∧st.env 2=.v (.int .i64 k)∧st.env 3=.ptr 3 0 0∧st.heap 3 0=some (.cells (cStore s))∧st.env 6=.ptr 6 0 0∧st.heap 6 0=some (.cells (cBlock zBlock))∧st.env 7=.v (.int .i64 p))∧0≤p∧p < v.ns.length) ?h1 ?r1
 case h1 =>
  refine⟨?s2, ?h2, ?q2⟩
  case h2 =>
   simp only[ZG,seval,Bool.false_and,Prod.mk.injEq,DY50,hI,h.sd.tree,hne]
   rfl
  case q2=>exact⟨_,by and_intros<;>(simp only[E8,seval,hI]<;>rfl),m1,m2⟩
 case r1 =>
 rintro st ⟨p,hI,p0,p1⟩
 refine join_seq (fun st=>∃ p:Int,(st.cnt 8=0∧st.cnt 9=0∧st.cnt 11=0∧st.env 1=.v (.int .i64 n)∧st.env 2=.v (.int .i64 k)∧st.env 3=.ptr 3 0 0∧st.heap 3 0=some (.cells (cStore s))∧st.env 6=.ptr 6 0 0∧st.heap 6 0=some (.cells (cBlock zBlock))∧st.env 7=.v (.int .i64 p))∧0≤p∧p < v.ns.length) ?h2 ?r2
 case h2 =>
  by_cases g:0 < ((((k).fdiv (2 ^ min 6 IntKind.i64.bits))).tmod 3)
  ·obtain⟨M,hM⟩:∃ M,(if (v.ns.length:Int) < 3 then (v.ns.length:Int) else 3)=M:=⟨_,rfl⟩
   have hM1:1≤M∧M≤v.ns.length:=by rw[← hM];split<;>omega
   have hM0:¬ M=0:=by omega
   obtain⟨x0,x1⟩:=tmod_bound (n:=M) p0 (by omega)
   have w1:IntKind.i64.wrap ((v.ns.length:Int) - 1)=(v.ns.length:Int) - 1:=w64 _ (by omega) (by omega)
   have w2:IntKind.i64.wrap ((v.ns.length:Int) - 1 - p.tmod M)=(v.ns.length:Int) - 1 - p.tmod M:=w64 _ (by omega) (by omega)
   refine⟨?s3, ?h3, ?q3⟩
   case h3 =>
    simp only[ZG,seval,Bool.false_and,Prod.mk.injEq,DY50,hI,h.sd.tree,g,hM,hM0,w1,w2]
    rfl
   case q3=>exact⟨(v.ns.length:Int) - 1 - p.tmod M,by and_intros<;>(simp only[E8,seval,hI]<;>rfl),by omega,by omega⟩
  ·skip
   refine⟨?s4, ?h4, ?q4⟩
   case h4 =>
    simp only[ZG,seval,Bool.false_and,Prod.mk.injEq,DY50,hI,g]
    rfl
   case q4=>exact⟨p,by and_intros<;>(simp only[E8,seval,hI]<;>rfl),p0,p1⟩
 case r2 =>
 clear hI p0 p1
 clear p
 rintro st ⟨p,hI,p0,p1⟩
 have rN:=rnd p p0 p1
 refine join_seq (fun st=>st.cnt 9=0∧st.cnt 11=0∧st.env 1=.v (.int .i64 n)∧st.env 2=.v (.int .i64 k)∧st.env 3=.ptr 3 0 0∧st.heap 3 0=some (.cells (cStore s))∧st.env 6=.ptr 6 0 0∧st.heap 6 0=some (.cells (cBlock zBlock))∧st.env 7=.v (.int .i64 p)∧st.env 8=.ptr 8 0 0∧st.heap 8 0=some (.cells (cNode (nd v.ns p)))) ?h4 ?r4
 case h4 =>
  refine⟨?s5, ?h5, ?q5⟩
  case h5 =>
   simp only[ZG,seval,Bool.false_and,Prod.mk.injEq,DY50,hI,h.sd.tree,p0,p1]
   rfl
  case q5=>exact⟨by simp only[E8,seval,hI]<;>rfl,by simp only[E8,seval,hI]<;>rfl,by simp only[E8,seval,hI]<;>rfl,by simp only[E8,seval,hI]<;>rfl,by simp only[E8,seval,hI]<;>rfl,by simp only[E8,seval,hI]<;>rfl,by simp only[E8,seval,hI]<;>rfl,by simp only[E8,seval,hI]<;>rfl,by simp only[E8,seval,hI]<;>rfl,by simp only[E8,seval,hI]<;>rfl,by simp only[E8,seval,hI]<;>rfl⟩
 case r4 =>
 clear hI
 intro st hI
 refine join_seq (fun st=>∃ b:Block,(st.cnt 11=0∧st.env 1=.v (.int .i64 n)∧st.env 2=.v (.int .i64 k)∧st.env 3=.ptr 3 0 0∧st.heap 3 0=some (.cells (cStore s))∧st.env 6=.ptr 6 0 0∧st.heap 6 0=some (.cells (cBlock zBlock))∧st.env 7=.v (.int .i64 p)∧st.env 8=.ptr 8 0 0∧st.heap 8 0=some (.cells (cNode (nd v.ns p)))∧st.env 9=.ptr 9 0 0∧st.heap 9 0=some (.cells (cBlock b)))∧BQ n v b) ?h5 ?r5
 case h5 =>
  refine⟨?s6, ?h6, ?q6⟩
  case h6 =>
   simp only[ZG,seval,Bool.false_and,Prod.mk.injEq,DY50,hI,k30]
   rfl
  case q6=>exact⟨_,by and_intros<;>(simp only[E8,seval,hI]<;>rfl),by exact⟨⟨rn,rN.j,rN.f,rN.pj,rN.pf⟩,.inl rfl⟩⟩
 case r5 =>
 clear hI
 rintro st ⟨b,hI,rb⟩
 refine join_seq (fun st=>∃ b:Block,(st.cnt 11=0∧st.env 1=.v (.int .i64 n)∧st.env 2=.v (.int .i64 k)∧st.env 3=.ptr 3 0 0∧st.heap 3 0=some (.cells (cStore s))∧st.env 6=.ptr 6 0 0∧st.heap 6 0=some (.cells (cBlock zBlock))∧st.env 7=.v (.int .i64 p)∧st.env 8=.ptr 8 0 0∧st.heap 8 0=some (.cells (cNode (nd v.ns p)))∧st.env 9=.ptr 9 0 0∧st.heap 9 0=some (.cells (cBlock b)))∧BQ n v b) ?h6 ?r6
 case h6 =>
  by_cases g:((((k).fdiv (2 ^ min 10 IntKind.i64.bits))).tmod 5)=0
  case neg =>
   refine⟨?s7, ?h7, ?q7⟩
   case h7 =>
    simp only[ZG,seval,Bool.false_and,Prod.mk.injEq,DY50,hI,bf g]
    rfl
   case q7=>exact⟨b,by and_intros<;>(simp only[E8,seval,hI]<;>rfl),rb⟩
  by_cases g2:0 < s.now
  case neg =>
   refine⟨?s8, ?h8, ?q8⟩
   case h8 =>
    simp only[ZG,seval,Bool.false_and,Prod.mk.injEq,DY50,hI,bt g,g2]
    rfl
   case q8=>exact⟨b,by and_intros<;>(simp only[E8,seval,hI]<;>rfl),rb⟩
  refine⟨?s9, ?h9, ?q9⟩
  case h9 =>
   simp only[ZG,seval,Bool.false_and,Prod.mk.injEq,DY50,hI,bt g,g2]
   rfl
  case q9=>exact⟨_,by and_intros<;>(simp only[E8,seval,hI]<;>rfl),by exact⟨⟨u64_Rg _,rb.j,rb.f,rb.pj,rb.pf⟩,rb.rt⟩⟩
 case r6 =>
 clear hI rb
 clear b
 rintro st ⟨b,hI,rb⟩
 refine join_seq (fun st=>∃ b:Block,(st.cnt 11=0∧st.env 1=.v (.int .i64 n)∧st.env 2=.v (.int .i64 k)∧st.env 3=.ptr 3 0 0∧st.heap 3 0=some (.cells (cStore s))∧st.env 6=.ptr 6 0 0∧st.heap 6 0=some (.cells (cBlock zBlock))∧st.env 7=.v (.int .i64 p)∧st.env 8=.ptr 8 0 0∧st.heap 8 0=some (.cells (cNode (nd v.ns p)))∧st.env 9=.ptr 9 0 0∧st.heap 9 0=some (.cells (cBlock b)))∧BQ n v b) ?h8 ?r8
 case h8 =>
  by_cases g:((((k).fdiv (2 ^ min 12 IntKind.i64.bits))).tmod 16)=0
  case neg =>
   refine⟨?s10, ?h10, ?q10⟩
   case h10 =>
    simp only[ZG,seval,Bool.false_and,Prod.mk.injEq,DY50,hI,bf g]
    rfl
   case q10=>exact⟨b,by and_intros<;>(simp only[E8,seval,hI]<;>rfl),rb⟩
  refine⟨?s11, ?h11, ?q11⟩
  case h11 =>
   simp only[ZG,seval,Bool.false_and,Prod.mk.injEq,DY50,hI,bt g,k30]
   rfl
  case q11=>exact⟨_,by and_intros<;>(simp only[E8,seval,hI]<;>rfl),by exact⟨⟨rb.sl,rb.j,rb.f,rb.pj,rb.pf⟩,rb.rt⟩⟩
 case r8 =>
 clear hI rb
 clear b
 rintro st ⟨b,hI,rb⟩
 refine join_seq (fun st=>∃ e:Int,(st.cnt 11=0∧st.env 1=.v (.int .i64 n)∧st.env 2=.v (.int .i64 k)∧st.env 3=.ptr 3 0 0∧st.heap 3 0=some (.cells (cStore s))∧st.env 6=.ptr 6 0 0∧st.heap 6 0=some (.cells (cBlock zBlock))∧st.env 7=.v (.int .i64 p)∧st.env 8=.ptr 8 0 0∧st.heap 8 0=some (.cells (cNode (nd v.ns p)))∧st.env 9=.ptr 9 0 0∧st.heap 9 0=some (.cells (cBlock b))∧st.env 10=.v (.int .u64 e))∧Rg e) ?h10 ?r10
 case h10 =>
  refine⟨?s12, ?h12, ?q12⟩
  case h12 =>
   simp only[ZG,seval,Bool.false_and,Prod.mk.injEq,DY50,hI,hsp]
   rfl
  case q12=>exact⟨_,by and_intros<;>(simp only[E8,seval,hI]<;>rfl),u64_Rg _⟩
 case r10 =>
 clear hI
 rintro st ⟨e,hI,re⟩
 obtain⟨y,hy,c,rfl,rc⟩:=x92 h r p e re
 have k92:=kx hy (flat3 h.sd.flat (.v _) (.v _)) (.agg _ (flat_cCkpt _))
 refine join_seq (fun st=>∃ b:Block,(st.env 1=.v (.int .i64 n)∧st.env 2=.v (.int .i64 k)∧st.env 3=.ptr 3 0 0∧st.heap 3 0=some (.cells (cStore s))∧st.env 6=.ptr 6 0 0∧st.heap 6 0=some (.cells (cBlock zBlock))∧st.env 7=.v (.int .i64 p)∧st.env 8=.ptr 8 0 0∧st.heap 8 0=some (.cells (cNode (nd v.ns p)))∧st.env 9=.ptr 9 0 0∧st.heap 9 0=some (.cells (cBlock b))∧st.env 10=.v (.int .u64 e))∧BQ n v b) ?h11 ?r11
 case h11 =>
  by_cases g:b.pulled.pj.epoch < c.epoch
  case neg =>
   refine⟨?s13, ?h13, ?q13⟩
   case h13 =>
    simp only[ZG,seval,Bool.false_and,Prod.mk.injEq,DY50,hI,k92,g]
    rfl
   case q13=>exact⟨b,by and_intros<;>(simp only[E8,seval,hI]<;>rfl),rb⟩
  by_cases g2:((((k).fdiv (2 ^ min 13 IntKind.i64.bits))).tmod 2)=0
  case neg =>
   refine⟨?s14, ?h14, ?q14⟩
   case h14 =>
    simp only[ZG,seval,Bool.false_and,Prod.mk.injEq,DY50,hI,k92,g,bf g2]
    rfl
   case q14=>exact⟨b,by and_intros<;>(simp only[E8,seval,hI]<;>rfl),rb⟩
  by_cases g3:((((k).fdiv (2 ^ min 14 IntKind.i64.bits))).tmod 2)=0
  case neg =>
   refine⟨?s15, ?h15, ?q15⟩
   case h15 =>
    simp only[ZG,seval,Bool.false_and,Prod.mk.injEq,DY50,hI,k92,g,bt g2,bf g3]
    rfl
   case q15=>exact⟨_,by and_intros<;>(simp only[E8,seval,hI]<;>rfl),by exact⟨⟨rb.sl,rb.j,rb.f,rc,rb.pf⟩,rb.rt⟩⟩
  refine⟨?s16, ?h16, ?q16⟩
  case h16 =>
   simp only[ZG,seval,Bool.false_and,Prod.mk.injEq,DY50,hI,k92,g,bt g2,bt g3]
   rfl
  case q16=>exact⟨_,by and_intros<;>(simp only[E8,seval,hI]<;>rfl),by exact⟨⟨rb.sl,rb.j,rb.f,rc,rb.pj⟩,rb.rt⟩⟩
 case r11 =>
 clear hI rb
 clear b
 rintro st ⟨b,hI,rb⟩
 refine join_seq (fun st=>∃ b:Block,(st.env 1=.v (.int .i64 n)∧st.env 2=.v (.int .i64 k)∧st.env 3=.ptr 3 0 0∧st.heap 3 0=some (.cells (cStore s))∧st.env 6=.ptr 6 0 0∧st.heap 6 0=some (.cells (cBlock zBlock))∧st.env 7=.v (.int .i64 p)∧st.env 8=.ptr 8 0 0∧st.heap 8 0=some (.cells (cNode (nd v.ns p)))∧st.env 9=.ptr 9 0 0∧st.heap 9 0=some (.cells (cBlock b))∧st.env 10=.v (.int .u64 e))∧BQ n v b) ?h16 ?r16
 case h16 =>
  by_cases g:((((k).fdiv (2 ^ min 15 IntKind.i64.bits))).tmod 3)=0
  case neg =>
   refine⟨?s17, ?h17, ?q17⟩
   case h17 =>
    simp only[ZG,seval,Bool.false_and,Prod.mk.injEq,DY50,hI,bf g]
    rfl
   case q17=>exact⟨b,by and_intros<;>(simp only[E8,seval,hI]<;>rfl),rb⟩
  by_cases g2:IntKind.u64.wrap ((nd v.ns p).block.slot.tdiv s.cFg.spe) < e
  case neg =>
   refine⟨?s18, ?h18, ?q18⟩
   case h18 =>
    simp only[ZG,seval,Bool.false_and,Prod.mk.injEq,DY50,hI,bt g,hsp,g2]
    rfl
   case q18=>exact⟨b,by and_intros<;>(simp only[E8,seval,hI]<;>rfl),rb⟩
  refine⟨?s19, ?h19, ?q19⟩
  case h19 =>
   simp only[ZG,seval,Bool.false_and,Prod.mk.injEq,DY50,hI,bt g,hsp,g2]
   rfl
  case q19=>exact⟨_,by and_intros<;>(simp only[E8,seval,hI]<;>rfl),by exact⟨⟨rb.sl,rN.pj,rN.pf,rb.pj,rb.pf⟩,rb.rt⟩⟩
 case r16 =>
 clear hI rb
 clear b
 rintro st ⟨b,hI,rb⟩
 refine join_seq (fun st=>∃ b:Block,(st.env 1=.v (.int .i64 n)∧st.env 2=.v (.int .i64 k)∧st.env 3=.ptr 3 0 0∧st.heap 3 0=some (.cells (cStore s))∧st.env 6=.ptr 6 0 0∧st.heap 6 0=some (.cells (cBlock zBlock))∧st.env 7=.v (.int .i64 p)∧st.env 8=.ptr 8 0 0∧st.heap 8 0=some (.cells (cNode (nd v.ns p)))∧st.env 9=.ptr 9 0 0∧st.heap 9 0=some (.cells (cBlock b))∧st.env 10=.v (.int .u64 e))∧BQ n v b) ?h18 ?r18
 case h18 =>
  by_cases g:(nd v.ns p).block.payload=zRoot
  case neg =>
   refine⟨?s20, ?h20, ?q20⟩
   case h20 =>
    simp only[ZG,seval,Bool.false_and,Prod.mk.injEq,DY50,hI,g,k30,up_Wide_at,Nat.reduceLT]
    rfl
   case q20=>exact⟨_,by and_intros<;>(simp only[E8,seval,hI]<;>rfl),by exact⟨⟨rb.sl,rb.j,rb.f,rb.pj,rb.pf⟩,rb.rt⟩⟩
  by_cases g2:((((k).fdiv (2 ^ min 16 IntKind.i64.bits))).tmod 3)=0
  case neg =>
   refine⟨?s21, ?h21, ?q21⟩
   case h21 =>
    simp only[ZG,seval,Bool.false_and,Prod.mk.injEq,DY50,hI,g,bf g2]
    rfl
   case q21=>exact⟨b,by and_intros<;>(simp only[E8,seval,hI]<;>rfl),rb⟩
  refine⟨?s22, ?h22, ?q22⟩
  case h22 =>
   simp only[ZG,seval,Bool.false_and,Prod.mk.injEq,DY50,hI,g,bt g2,k30,up_Wide_at,Nat.reduceLT]
   rfl
  case q22=>exact⟨_,by and_intros<;>(simp only[E8,seval,hI]<;>rfl),by exact⟨⟨rb.sl,rb.j,rb.f,rb.pj,rb.pf⟩,rb.rt⟩⟩
 case r18 =>
 clear hI rb
 clear b
 rintro st ⟨b,hI,rb⟩
 obtain⟨w0,hw0,W,rfl⟩:=x111 ((k).fdiv (2 ^ min 3 IntKind.i64.bits))
 have k111:=kx hw0 (flat1 (.v _)) (.agg _ (flat_cWide W))
 refine join_seq (fun st=>∃ b:Block,(st.env 1=.v (.int .i64 n)∧st.env 2=.v (.int .i64 k)∧st.env 3=.ptr 3 0 0∧st.heap 3 0=some (.cells (cStore s))∧st.env 6=.ptr 6 0 0∧st.heap 6 0=some (.cells (cBlock zBlock))∧st.env 7=.v (.int .i64 p)∧st.env 8=.ptr 8 0 0∧st.heap 8 0=some (.cells (cNode (nd v.ns p)))∧st.env 9=.ptr 9 0 0∧st.heap 9 0=some (.cells (cBlock b))∧st.env 10=.v (.int .u64 e))∧BQ n v b) ?h21 ?r21
 case h21 =>
  by_cases c0:((((k).fdiv (2 ^ min 18 IntKind.i64.bits))).tmod 24)=0
  ·skip
   refine⟨?s23, ?h23, ?q23⟩
   case h23 =>
    simp only[ZG,seval,Bool.false_and,Prod.mk.injEq,DY50,hI,bt c0,k30]
    rfl
   case q23=>exact⟨_,by and_intros<;>(simp only[E8,seval,hI]<;>rfl),by exact⟨⟨rb.sl,rb.j,rb.f,rb.pj,rb.pf⟩,rb.rt⟩⟩
  by_cases c1:((((k).fdiv (2 ^ min 18 IntKind.i64.bits))).tmod 24)=1
  ·skip
   refine⟨?s24, ?h24, ?q24⟩
   case h24 =>
    simp only[ZG,seval,Bool.false_and,Prod.mk.injEq,DY50,hI,bf c0,bt c1,k111]
    rfl
   case q24=>exact⟨_,by and_intros<;>(simp only[E8,seval,hI]<;>rfl),by exact⟨⟨rb.sl,rb.j,rb.f,rb.pj,rb.pf⟩,rb.rt⟩⟩
  by_cases c2:((((k).fdiv (2 ^ min 18 IntKind.i64.bits))).tmod 24)=2
  ·skip
   refine⟨?s25, ?h25, ?q25⟩
   case h25 =>
    simp only[ZG,seval,Bool.false_and,Prod.mk.injEq,DY50,hI,bf c0,bf c1,bt c2,k111]
    rfl
   case q25=>exact⟨_,by and_intros<;>(simp only[E8,seval,hI]<;>rfl),by exact⟨⟨rb.sl,rb.j,rb.f,rb.pj,rb.pf⟩,rb.rt⟩⟩
  by_cases c3:((((k).fdiv (2 ^ min 18 IntKind.i64.bits))).tmod 24)=3
  ·skip
   refine⟨?s26, ?h26, ?q26⟩
   case h26 =>
    simp only[ZG,seval,Bool.false_and,Prod.mk.injEq,DY50,hI,bf c0,bf c1,bf c2,bt c3]
    rfl
   case q26=>exact⟨_,by and_intros<;>(simp only[E8,seval,hI]<;>rfl),by exact⟨⟨rb.sl,rb.j,rb.f,u64_Rg _,rb.pf⟩,rb.rt⟩⟩
  by_cases c4:((((k).fdiv (2 ^ min 18 IntKind.i64.bits))).tmod 24)=4
  ·skip
   refine⟨?s27, ?h27, ?q27⟩
   case h27 =>
    simp only[ZG,seval,Bool.false_and,Prod.mk.injEq,DY50,hI,bf c0,bf c1,bf c2,bf c3,bt c4]
    rfl
   case q27=>exact⟨_,by and_intros<;>(simp only[E8,seval,hI]<;>rfl),by exact⟨⟨u64_Rg _,rb.j,rb.f,rb.pj,rb.pf⟩,rb.rt⟩⟩
  by_cases c5:((((k).fdiv (2 ^ min 18 IntKind.i64.bits))).tmod 24)=5
  ·skip
   refine⟨?s28, ?h28, ?q28⟩
   case h28 =>
    simp only[ZG,seval,Bool.false_and,Prod.mk.injEq,DY50,hI,bf c0,bf c1,bf c2,bf c3,bf c4,bt c5,h.sd.tree,hne,m3,m4]
    rfl
   case q28=>exact⟨_,by and_intros<;>(simp only[E8,seval,hI]<;>rfl),by exact⟨⟨rb.sl,rb.j,rb.f,rb.pj,rb.pf⟩,.inr ⟨_,nd_mem m3 m4,rfl⟩⟩⟩
  by_cases c6:((((k).fdiv (2 ^ min 18 IntKind.i64.bits))).tmod 24)=6
  ·skip
   refine⟨?s29, ?h29, ?q29⟩
   case h29 =>
    simp only[ZG,seval,Bool.false_and,Prod.mk.injEq,DY50,hI,bf c0,bf c1,bf c2,bf c3,bf c4,bf c5,bt c6,k30]
    rfl
   case q29=>exact⟨_,by and_intros<;>(simp only[E8,seval,hI]<;>rfl),by exact⟨⟨rb.sl,rb.j,rb.f,rb.pj,rb.pf⟩,rb.rt⟩⟩
  by_cases c7:((((k).fdiv (2 ^ min 18 IntKind.i64.bits))).tmod 24)=7
  ·skip
   refine⟨?s30, ?h30, ?q30⟩
   case h30 =>
    simp only[ZG,seval,Bool.false_and,Prod.mk.injEq,DY50,hI,bf c0,bf c1,bf c2,bf c3,bf c4,bf c5,bf c6,bt c7]
    rfl
   case q30=>exact⟨_,by and_intros<;>(simp only[E8,seval,hI]<;>rfl),by exact⟨⟨rb.sl,rb.j,rb.f,rb.pj,rb.pf⟩,rb.rt⟩⟩
  refine⟨?s31, ?h31, ?q31⟩
  case h31 =>
   simp only[ZG,seval,Bool.false_and,Prod.mk.injEq,DY50,hI,bf c0,bf c1,bf c2,bf c3,bf c4,bf c5,bf c6,bf c7]
   rfl
  case q31=>exact⟨b,by and_intros<;>(simp only[E8,seval,hI]<;>rfl),rb⟩
 case r21 =>
 clear hI rb
 clear b
 rintro st ⟨b,hI,rb⟩
 simp only[ZG,seval,Bool.false_and,Prod.mk.injEq,DY50,hI]
 exact⟨_,xcell rfl (by simp only[E8,seval,hI]<;>rfl) (by simp only[Z8,seval,hI]<;>rfl) (by simp only[FLb,and_self,hI]),b,rfl,rb⟩
end Go.Ab.Tryz
end
namespace Go.Ab.Tryz
open Classical Go.Proofs Go.Ab
def Frm (st st':St):Prop:=(∀ s g,g < st.cnt s→st'.heap s g=st.heap s g)∧∀ s,st.cnt s≤st'.cnt s
theorem dy44:dynTab 0 3 (some 2)=[]∧dynTab 1 17 (some 6)=[]∧dynTab 2 2 (some 21)=[]:=⟨rfl,rfl,rfl⟩
theorem inl44 {s:Store} {v:SV} (hs:SD s v) (X:AV) (a:Att) (V:Option (List Int)) (ha:a.vals=ov csInt V) (hV:((ol V).length:Int) < 1000000) (hr:∀ x∈ol V,0≤x∧x < (ol v.L).length) :
 ∃ G:St→St,∀ st,inlL Tryz.prog 44 [.agg (cStore (eaS s X)),.agg (cAtt a)] st=some (.agg (cStore (eaS (casI s v a (ol V)) X)),G st)∧Frm st (G st):=by
 have one:∀ st,∃ st',inlL Tryz.prog 44 [.agg (cStore (eaS s X)),.agg (cAtt a)] st=some (.agg (cStore (eaS (casI s v a (ol V)) X)),st')∧Frm st st':=by
  intro st
  have hl:(eaS s X).votes.latest=ov csVote v.L:=hs.latest
  rw[inlL_eq Tryz.prog Tryz.func44 rfl (by kernel_rfl)]
  simp only[ZG,seval,Bool.false_and,Prod.mk.injEq,dy44,hl,ha,k110 v.L hs.nL _ _ V hV hr,extA]
  refine⟨_,endI_one (P:=Tryz.prog) (fn:=Tryz.f44) (r:=.cell 4 53) (x:=.agg (cStore (eaS (casI s v a (ol V)) X))) (.inl rfl) rfl ?h1, ?h2⟩
  case h1 =>
   rw[resA_eq]
   simp only[resA,Z8,seval]
   unfold eaS casI
   simp only[ov,castF_len]
  case h2 =>
   refine⟨fun x g hg=>?_,fun x=>?_⟩
   ·have n2:(x=2∧g=st.cnt 2)=False:=eq_false (by rintro⟨rfl,rfl⟩;omega)
    have n3:(x=3∧g=st.cnt 3)=False:=eq_false (by rintro⟨rfl,rfl⟩;omega)
    have n4:(x=4∧g=st.cnt 4)=False:=eq_false (by rintro⟨rfl,rfl⟩;omega)
    simp only[E8,seval,back_heap,back_cnt,n2,n3,n4,if_false]
   ·simp only[E8,seval,back_heap,back_cnt]
    split<;>(try split)<;>(try split)<;>subst_vars<;>omega
 exact⟨fun st=>Classical.choose (one st),fun st=>Classical.choose_spec (one st)⟩
theorem fkeys {cs:List AV} (h:∀ c∈cs,Flat c):cs.flatMap ownKey=[]:=List.flatMap_eq_nil_iff.2 fun c hc=>by have:=h c hc;cases this<;>rfl
theorem fkey1 {c:AV} (h:Flat c):ownKey c=[]:=by cases h<;>rfl
theorem keys_orS {s:Store} {v:SV} (h:SD s v) (a g:Nat):ownKeys1 (.agg (cStore (orS s (.own a g))))=[(a,g)]:=by
 obtain⟨h1,h2,h3,h4,h5,h6,h7⟩:=h.fl
 show (cStore (orS s (.own a g))).flatMap ownKey=[(a,g)]
 unfold orS cStore cQueues
 simp only[List.flatMap_append,List.flatMap_cons,List.flatMap_nil,List.append_nil]
 rw[fkeys (flat_cConfig _ h1),fkeys (flat_cVotes _ h2 h3),fkeys (flat_cFinality _),fkeys (flat_cTreeA _ h6),fkeys (flat_cU64 _),fkeys (flat_cRoot _)]
 have e4:ownKey s.queues.early=[]:=fkey1 h4
 have e7:ownKey s.tables=[]:=fkey1 h7
 simp only[e4,e7,List.nil_append,List.append_nil]
 rfl
theorem eat_orS {s:Store} {v:SV} (h:SD s v) (a g:Nat):EatOk (.agg (cStore (orS s (.own a g)))):=by
 obtain⟨h1,h2,h3,h4,h5,h6,h7⟩:=h.fl
 refine .inr (.inr ⟨_,rfl,fun c hc=>?_⟩)
 unfold orS cStore cQueues at hc
 simp only[List.mem_append,List.mem_singleton] at hc
 rcases hc with hc | hc | hc | (hc | hc) | hc | hc | hc | hc
 ·exact .inl (flat_cConfig _ h1 _ hc)
 ·exact .inl (flat_cVotes _ h2 h3 _ hc)
 ·exact .inl (flat_cFinality _ _ hc)
 ·exact .inl (hc ▸ h4)
 ·exact .inr ⟨a,g,hc⟩
 ·exact .inl (flat_cTreeA _ h6 _ hc)
 ·exact .inl (flat_cU64 _ _ hc)
 ·exact .inl (flat_cRoot _ _ hc)
 ·exact .inl (hc ▸ h7)
theorem e217 {s:Store} {v:SV} {q:Int} (h:GI s v q) {b:Block} (hb:cbV s v b=0) (st:St) (d:Option Nat):callEat (callL Tryz.prog) 217 [.agg (cStore s),.agg (cBlock b)] st d=some { dst:=d,val:=.agg (cStore (insS s v b))}:=eat_call (flat2 h.sd.flat (flatB b)) (c217 h hb) (h.ins hb).sd.flat
theorem e217o {s:Store} {v:SV} {q:Int} (h0:SD s v) {O:List Block} (h:GI (orS s (ov csBlock (some O))) { v with O:=some O } q) {b:Block} (hb:cbV (orS s (ov csBlock (some O))) { v with O:=some O } b=0) (a g:Nat) (st:St) (d:Option Nat) (hh:st.heap a g=some (.row 74 238 O.length (csBlock O))) :
 callEat (callL Tryz.prog) 217 [.agg (cStore (orS s (.own a g))),.agg (cBlock b)] st d=some { dst:=d,val:=.agg (cStore (insS (orS s (ov csBlock (some O))) { v with O:=some O } b)),upd:=some (a,g,none)}:=by
 rw[eat_one (s:=a) (k:=g) (by rw[List.flatMap_cons,List.flatMap_cons,List.flatMap_nil,keys_orS h0,flat_keys (flatB b)];rfl) (by intro x hx;simp only[List.mem_cons,List.not_mem_nil,or_false] at hx;rcases hx with rfl | rfl;exact eat_orS h0 a g;exact .inl (flatB b)),
  List.map_cons,List.map_cons,List.map_nil,expo_orS h0 st hh,expo_block,optAll_some,optAll_some,optAll_nil]
 exact EQ_of (c217 h hb) (h.ins hb).sd.flat
theorem k52o {s:Store} {v:SV} {q:Int} (h0:SD s v) {O:List Block} (h:GI (orS s (ov csBlock (some O))) { v with O:=some O } q) (b:Block) (a g:Nat) (st:St) (d:Option Nat) (hh:st.heap a g=some (.row 74 238 O.length (csBlock O))) :
 callFn (callL Tryz.prog) 52 [.agg (cStore (orS s (.own a g))),.agg (cBlock b)] st d=some { dst:=d,val:=.v (.int .i64 (cbV (orS s (ov csBlock (some O))) { v with O:=some O } b))}:=by
 rw[callFn_Q,List.map_cons,List.map_cons,List.map_nil,expo_orS h0 st hh,expo_block,optAll_some,optAll_some,optAll_nil]
 exact Q_int (c52 h.sd h.up h.sp b)
theorem k218o {s:Store} {v:SV} {q:Int} (h0:SD s v) {O:List Block} (h:GI (orS s (ov csBlock (some O))) { v with O:=some O } q) (a g:Nat) (st:St) (d:Option Nat) (hh:st.heap a g=some (.row 74 238 O.length (csBlock O))) :
 callFn (callL Tryz.prog) 218 [.agg (cStore (orS s (.own a g)))] st d=some { dst:=d,val:=.v (.int .i64 (waiV { v with O:=some O }))}:=by
 rw[callFn_Q,List.map_cons,List.map_nil,expo_orS h0 st hh,optAll_some,optAll_nil]
 exact Q_int (c218 h.sd)
theorem orS_id {s:Store} {v:SV} (h:SD s v):orS s (ov csBlock v.O)=s:=by unfold orS;rw[← h.orphans]
end Go.Ab.Tryz
