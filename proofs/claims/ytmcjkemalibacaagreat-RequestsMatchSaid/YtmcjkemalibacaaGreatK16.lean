/-
  Part 16 of the proof: an evaluator of programs, its soundness, and what functions of this program compute.
-/
import Derived.Test.YtmcjkemalibacaaGreatK14
import Derived.Test.YtmcjkemalibacaaGreatK15
import Derived.Test.YtmcjkemalibacaaGreatK13
import Derived.Test.YtmcjkemalibacaaGreatK12
import Derived.Test.YtmcjkemalibacaaGreatK11
import Derived.Test.YtmcjkemalibacaaGreatK10
set_option linter.all false
set_option maxRecDepth 20000
set_option maxHeartbeats 40000000
namespace Go.Ab.Tryz
open Classical Go.Proofs Go.Ab
def aPO (s:aP) (v:SV) (q:Int) (r:AV):Prop:=∃(s':aP) (R:Option (List cM)) (e:Int),r=.eE [.agg (aB s'),ov gJ R,.v (.int .i64 e)]∧Flat (.agg (aB s'))∧((ol R).length:Int)≤70∧e≠21∧(e=0→∃v',GI s' v' q∧RG s' v'∧s'.cFg=s.cFg)
theorem aPP {s:aP} {v:SV} {q:Int} (h:GI s v q) (r:RG s v) (b:Block) (rb:RB b∧Pr b.root):∃r,aC Tryz.prog 203 [.agg (aB s),.agg (aU b)]=some r∧aPO s v q r:=by
 have hf:=h.sd.flat
 have jJ:=h.sd.fl
 have hz:=Ig
 have TB:=k52 h.sd h.up h.sp
 have nO:=h.nO
 have KZ:=h.KZ
 have nn':=h.sd.nO
 rw[cL Tryz.func203 rfl aK0 rfl];by_cases g1:Jo s v b=10
 ·by_cases g2:s.cFg.mA.vX≤((ol v.O).length:Int)
  ·simp only[Z8,seval,TB,bt g1,h.sd.bU,g2];exact⟨_,by apply cN;rfl;all_goals simp only[aE,bJ,Z8,seval,hz]<;>rfl,eF,none,11,rfl,hz,by simp[ol],by decide,fun h=>by cases h⟩
  ·have hw:=h.SE (some (ol v.O++[{ b with Bk:=false }])) (by show (((ol v.O++[{ b with Bk:=false }]).length:Nat):Int)≤s.cFg.mA.vX;rw[List.length_append,List.length_cons,List.length_nil];omega)
   have hwr:=r.SE (some (ol v.O++[{ b with Bk:=false }])) (ov aJ (some (ol v.O++[{ b with Bk:=false }]))) (fun c hc=>(List.mem_append.1 hc).elim (r.or c) fun e=>by rw[List.mem_singleton] at e;subst e;exact⟨⟨rb.1.sl,rb.1.j,rb.1.f,rb.1.pj,rb.1.pf⟩,rb.2⟩) (by simp)
   simp only[Z8,seval,TB,bt g1,h.sd.bU,g2,iP _ nn',DM _ _ _ _ nn'];exact⟨_,by apply cN;rfl;all_goals simp only[aE,bJ,Z8,seval,bP,gI,bG,tU,cX,dY,jJ]<;>rfl,_,none,0,rfl,hw.sd.flat,by simp[ol],by decide,fun _=>⟨_,hw,hwr,rfl⟩⟩
 by_cases g2:Jo s v b=0
 case neg =>
  simp only[Z8,seval,TB,bf g1,bf g2];exact⟨_,by apply cN;rfl;all_goals simp only[aE,bJ,Z8,seval,hz]<;>rfl,eF,none,_,rfl,hz,by simp[ol],aE6 _ _ _,fun h=>absurd h g2⟩
 have XM:=aKM h g2
 have aBy:=h.ins g2
 have aBz:=r.ins rb g2
 have hcf:=Ap s v b
 have hO1:=SG s v b
 cases g3:b.Bk
 · -- not timely
  have hG:GI (sJ s v b) (lE s v b) q:=aBy
  have oD:RG (sJ s v b) (lE s v b):=aBz
  have hC:((sJ s v b)).cFg=s.cFg:=hcf.1
  have pI:=KW hG.sd
  simp only[Z8,seval,TB,bf g1,bt g2,XM,g3,pI];refine Nh (a:=Ar) (o7 s v q) (FL (by omega) (m:=(ol (lE s v b).O).length) ⟨(sJ s v b),lE s v b,_,[b.root],66,0, ?start,.inl ⟨rfl,rfl⟩,.inl rfl,hG,oD,hC,by simp;omega,rfl⟩) ?rest
  case start =>
   rw[sL hG.sd];simp only[E8,seval,gJ,List.flatMap_cons,List.flatMap_nil,List.append_nil]<;>rfl
  case rest =>
   rintro e st ⟨rfl,S0,w,X,R,a,g,hI,ha,hX,hG,oD,hC,hR⟩
   have N2:(a=4)=False:=eq_false ha
   have aFw:=hG.sd.fl
   have hfo:=hG.sd.bU
   rcases hX with rfl|⟨g',L,hL,rfl,YX⟩
   ·rw[sL hG.sd] at hI;have AF:=hG.sd.flat
    simp only[Z8,seval,hI];exact⟨_,by apply cN;rfl;all_goals simp only[aE,bJ,Z8,seval,hI,N2,AF,vP]<;>rfl,S0,some R,0,rfl,AF,by simp only[ol,Option.getD_some];omega,by decide,fun _=>⟨w,hG,oD,hC⟩⟩
   ·have hex:=fun st' hh=>yS (O:=L) (a:=91) (g:=g') hG.sd st' hh
    have MC:mO S0 (ov aJ (some L))=S0:=by rw[← hL];exact sL hG.sd
    rw[MC] at hex;simp only[Z8,seval,hI];exact⟨_,by apply cN;rfl;all_goals simp only[aE,bJ,Z8,seval,hI,N2,YX,hex,vP]<;>rfl,S0,some R,0,rfl,hG.sd.flat,by simp only[ol,Option.getD_some];omega,by decide,fun _=>⟨w,hG,oD,hC⟩⟩
 by_cases g4:b.slot=s.now
 case neg =>
  have hG:GI (sJ s v b) (lE s v b) q:=aBy
  have oD:RG (sJ s v b) (lE s v b):=aBz
  have hC:((sJ s v b)).cFg=s.cFg:=hcf.1
  have pI:=KW hG.sd
  simp only[Z8,seval,TB,bf g1,bt g2,XM,g3,bf g4,pI];refine Nh (a:=Ar) (o7 s v q) (FL (by omega) (m:=(ol (lE s v b).O).length) ⟨(sJ s v b),lE s v b,_,[b.root],66,0, ?start,.inl ⟨rfl,rfl⟩,.inl rfl,hG,oD,hC,by simp;omega,rfl⟩) ?rest
  case start =>
   rw[sL hG.sd];simp only[E8,seval,gJ,List.flatMap_cons,List.flatMap_nil,List.append_nil]<;>rfl
  case rest =>
   rintro e st ⟨rfl,S0,w,X,R,a,g,hI,ha,hX,hG,oD,hC,hR⟩
   have N2:(a=4)=False:=eq_false ha
   have aFw:=hG.sd.fl
   have hfo:=hG.sd.bU
   rcases hX with rfl|⟨g',L,hL,rfl,YX⟩
   ·rw[sL hG.sd] at hI;have AF:=hG.sd.flat
    simp only[Z8,seval,hI];exact⟨_,by apply cN;rfl;all_goals simp only[aE,bJ,Z8,seval,hI,N2,AF,vP]<;>rfl,S0,some R,0,rfl,AF,by simp only[ol,Option.getD_some];omega,by decide,fun _=>⟨w,hG,oD,hC⟩⟩
   ·have hex:=fun st' hh=>yS (O:=L) (a:=91) (g:=g') hG.sd st' hh
    have MC:mO S0 (ov aJ (some L))=S0:=by rw[← hL];exact sL hG.sd
    rw[MC] at hex;simp only[Z8,seval,hI];exact⟨_,by apply cN;rfl;all_goals simp only[aE,bJ,Z8,seval,hI,N2,YX,hex,vP]<;>rfl,S0,some R,0,rfl,hG.sd.flat,by simp only[ol,Option.getD_some];omega,by decide,fun _=>⟨w,hG,oD,hC⟩⟩
 by_cases g5:s.iD=dK
 case neg =>
  have hG:GI (sJ s v b) (lE s v b) q:=aBy
  have oD:RG (sJ s v b) (lE s v b):=aBz
  have hC:((sJ s v b)).cFg=s.cFg:=hcf.1
  have pI:=KW hG.sd
  simp only[Z8,seval,TB,bf g1,bt g2,XM,g3,bt g4,g5,pI];refine Nh (a:=Ar) (o7 s v q) (FL (by omega) (m:=(ol (lE s v b).O).length) ⟨(sJ s v b),lE s v b,_,[b.root],66,0, ?start,.inl ⟨rfl,rfl⟩,.inl rfl,hG,oD,hC,by simp;omega,rfl⟩) ?rest
  case start =>
   rw[sL hG.sd];simp only[E8,seval,gJ,List.flatMap_cons,List.flatMap_nil,List.append_nil]<;>rfl
  case rest =>
   rintro e st ⟨rfl,S0,w,X,R,a,g,hI,ha,hX,hG,oD,hC,hR⟩
   have N2:(a=4)=False:=eq_false ha
   have aFw:=hG.sd.fl
   have hfo:=hG.sd.bU
   rcases hX with rfl|⟨g',L,hL,rfl,YX⟩
   ·rw[sL hG.sd] at hI;have AF:=hG.sd.flat
    simp only[Z8,seval,hI];exact⟨_,by apply cN;rfl;all_goals simp only[aE,bJ,Z8,seval,hI,N2,AF,vP]<;>rfl,S0,some R,0,rfl,AF,by simp only[ol,Option.getD_some];omega,by decide,fun _=>⟨w,hG,oD,hC⟩⟩
   ·have hex:=fun st' hh=>yS (O:=L) (a:=91) (g:=g') hG.sd st' hh
    have MC:mO S0 (ov aJ (some L))=S0:=by rw[← hL];exact sL hG.sd
    rw[MC] at hex;simp only[Z8,seval,hI];exact⟨_,by apply cN;rfl;all_goals simp only[aE,bJ,Z8,seval,hI,N2,YX,hex,vP]<;>rfl,S0,some R,0,rfl,hG.sd.flat,by simp only[ol,Option.getD_some];omega,by decide,fun _=>⟨w,hG,oD,hC⟩⟩
 have hG:GI { sJ s v b with iD:=b.root } (lE s v b) q:=aBy.iD b.root
 have oD:RG { sJ s v b with iD:=b.root } (lE s v b):=aBz.iD b.root
 have hC:({ sJ s v b with iD:=b.root }).cFg=s.cFg:=hcf.1
 have pI:=KW hG.sd
 simp only[Z8,seval,TB,bf g1,bt g2,XM,g3,bt g4,g5,pI];refine Nh (a:=Ar) (o7 s v q) (FL (by omega) (m:=(ol (lE s v b).O).length) ⟨{ sJ s v b with iD:=b.root },lE s v b,_,[b.root],66,0, ?start,.inl ⟨rfl,rfl⟩,.inl rfl,hG,oD,hC,by simp;omega,rfl⟩) ?rest
 case start =>
  rw[sL hG.sd];simp only[E8,seval,gJ,List.flatMap_cons,List.flatMap_nil,List.append_nil]<;>rfl
 case rest =>
  rintro e st ⟨rfl,S0,w,X,R,a,g,hI,ha,hX,hG,oD,hC,hR⟩
  have N2:(a=4)=False:=eq_false ha
  have aFw:=hG.sd.fl
  have hfo:=hG.sd.bU
  rcases hX with rfl|⟨g',L,hL,rfl,YX⟩
  ·rw[sL hG.sd] at hI;have AF:=hG.sd.flat
   simp only[Z8,seval,hI];exact⟨_,by apply cN;rfl;all_goals simp only[aE,bJ,Z8,seval,hI,N2,AF,vP]<;>rfl,S0,some R,0,rfl,AF,by simp only[ol,Option.getD_some];omega,by decide,fun _=>⟨w,hG,oD,hC⟩⟩
  ·have hex:=fun st' hh=>yS (O:=L) (a:=91) (g:=g') hG.sd st' hh
   have MC:mO S0 (ov aJ (some L))=S0:=by rw[← hL];exact sL hG.sd
   rw[MC] at hex;simp only[Z8,seval,hI];exact⟨_,by apply cN;rfl;all_goals simp only[aE,bJ,Z8,seval,hI,N2,YX,hex,vP]<;>rfl,S0,some R,0,rfl,hG.sd.flat,by simp only[ol,Option.getD_some];omega,by decide,fun _=>⟨w,hG,oD,hC⟩⟩
def PfR (q m:Int) (r:AV):Prop:=∃(t':State) (e:Int),r=.eE [.agg (aI t'),.v (.int .i64 e)]∧Flat (.agg (aI t'))∧(e=0∨e=21→∃v' Q' R',TI t' v' Q' R' (q+1000) (m+256))
theorem MD {t:State} (h:Flat (.agg (aI t))) {s':aP} (hs:Flat (.agg (aB s'))):Flat (.agg (aI { t with store:=s' })):=by
 obtain⟨_,_,_,_,_,_,_,h8,h9⟩:=(lO t).1 h
 obtain⟨h1,h2,h3,h4,h5,h6,h7⟩:=(yL s').1 hs
 exact (lO _).2 ⟨h1,h2,h3,h4,h5,h6,h7,h8,h9⟩
theorem aPQ {t:State} {v:SV} {Q R:Option (List Request)} {q m:Int} (h:TI t v Q R q m) (x:wM) (hx:pA x) (hp:x.kind=2→Pr x.block.root) (hq:q+1000≤900000) (hm:m+256≤100000) :
 ∃r,aC Tryz.prog 185 [.agg (aI t),.agg (kX x)]=some r∧PfR q m r:=by
 have hf:=h.td.flat
 have WL:=h.gi.sd.flat
 have QP:=hx.flat
 have aBA:=hx.fl
 have up:∀ {t':State} {v':SV} {Q' R':Option (List Request)} {q' m':Int},TI t' v' Q' R' q' m'→q'≤q+1000→m'≤m+256→∃v' Q' R',TI t' v' Q' R' (q+1000) (m+256):=fun g a b=>⟨_,_,_,g.mono a hq b hm⟩
 have nt:=h.nt
 have mB:=h.mB
 have lq:=h.lq
 have lr:=h.lr
 have rB:=h.aBx
 rw[cL Tryz.func185 rfl aK1 rfl];by_cases k1:x.kind=1
 ·obtain⟨y,hy,s',e,rfl,XN,ne,ho⟩:=aPy h.gi h.rg
  have k202:=kx hy (cO WL) (.eE _ (bE XN (.v _)))
  have ft:=MD hf XN
  by_cases e0:e=0
  ·obtain⟨v',g,r,c⟩:=ho e0
   have T0:=h.toTI0.store g r c
   have T1:=T0.drop
   have T2:=T1.due hm
   have k36:=kx (c36 T0.td) (cO ft) T1.td.flat
   have k74:=kx (c74 T1.td (by have:=T1.lq;have:=T1.lr;have:=T1.aBx;omega)) (cO T1.td.flat) T2.td.flat
   have p4:=T2.td.flat
   simp only[Z8,seval,bt k1,k202,eA,bt e0,k36,k74];exact⟨_,by apply dO;rfl;all_goals simp only[aE,bJ,Z8,seval,p4]<;>rfl,_,e,rfl,p4,fun _=>up T2 (by omega) (by omega)⟩
  ·simp only[Z8,seval,bt k1,k202,eA,bf e0];exact⟨_,by apply dO;rfl;all_goals simp only[aE,bJ,Z8,seval,ft]<;>rfl,_,e,rfl,ft,fun h=>absurd h (by omega)⟩
 by_cases k2:x.kind=2
 ·obtain⟨y,hy,s',L,e,rfl,XN,nL,ne,ho⟩:=aPP h.gi h.rg x.block ⟨hx.rb,hp k2⟩
  have k203:=kx hy (bE WL (uI _)) (.eE _ (lN XN (Gt L) (.v _)))
  have ft:=MD hf XN
  by_cases e0:e=0
  ·obtain⟨v',g,r,c⟩:=ho e0
   have T0:=h.toTI0.store g r c
   have T1:=T0.drop
   have T2:=T1.open (ol L) (by omega) hm
   have k36:=kx (c36 T0.td) (cO ft) T1.td.flat
   have k32:∀(st:St) (d:Option Nat),fC (aC Tryz.prog) 32 _ st d=_:=fun st d=>Gu (bE T1.td.flat (Gt L)) (c32 T1.td L (by have:=T1.lq;omega)) T2.td.flat
   have p4:=T2.td.flat
   simp only[Z8,seval,bf k1,bt k2,k203,eA,bt e0,k36,k32];exact⟨_,by apply dO;rfl;all_goals simp only[aE,bJ,Z8,seval,p4]<;>rfl,_,e,rfl,p4,fun _=>up T2 (by omega) (by omega)⟩
  ·simp only[Z8,seval,bf k1,bt k2,k203,eA,bf e0];exact⟨_,by apply dO;rfl;all_goals simp only[aE,bJ,Z8,seval,ft]<;>rfl,_,e,rfl,ft,fun h=>absurd h (by omega)⟩
 by_cases k3:x.kind=3
 ·obtain⟨V,hV,nV⟩:=hx.Fq
  obtain⟨y,hy,s',e,rfl,XN,ne,ho⟩:=aOI h.gi h.rg x.Fq V hV (by omega)
  have k204:=kx hy (bE WL ((yN _).2 aBA.1)) (.eE _ (bE XN (.v _)))
  have ft:=MD hf XN
  have fin:e=0∨e=21→∃v' Q' R',TI { t with store:=s' } v' Q' R' (q+1000) (m+256):=fun he=>by
   obtain⟨v',g,r,c,en⟩:=ho (by omega)
   exact up ⟨h.toTI0.store g r c,by rw[en];exact h.G0,by rw[en];exact h.G1⟩ (by omega) (by omega)
  simp only[Z8,seval,bf k1,bf k2,bt k3,k204,eA];exact⟨_,by apply dO;rfl;all_goals simp only[aE,bJ,Z8,seval,ft]<;>rfl,_,e,rfl,ft,fin⟩
 by_cases k4:x.kind=4
 ·obtain⟨V,hV,nV⟩:=hx.c1
  obtain⟨W,hW,nW⟩:=hx.c2
  obtain⟨y,hy,s',e,rfl,XN,ne,ho⟩:=aOH h.gi h.rg x.oM V W hV hW nV nW hq
  have k205:=kx hy (bE WL ((mW _).2 ⟨aBA.2.1,aBA.2.2.1⟩)) (.eE _ (bE XN (.v _)))
  have ft:=MD hf XN
  have fin:e=0∨e=21→∃v' Q' R',TI { t with store:=s' } v' Q' R' (q+1000) (m+256):=fun he=>by
   obtain⟨v',g,r,c,en⟩:=ho (by omega)
   exact up ⟨h.toTI0.store g r c,by rw[en];exact h.G0,by rw[en];exact h.G1⟩ (by omega) (by omega)
  simp only[Z8,seval,bf k1,bf k2,bf k3,bt k4,k205,eA];exact⟨_,by apply dO;rfl;all_goals simp only[aE,bJ,Z8,seval,ft]<;>rfl,_,e,rfl,ft,fin⟩
 by_cases k5:x.kind=5
 ·have nT:=h.gi.nT
  have SC:=h.gi.SC
  obtain⟨y,hy,s',e,rfl,XN,ne,ho⟩:=aOk h.gi.sd (by omega) x.table hx.L4
  have k117:=kx hy (bE WL ((jZ _).2 aBA.2.2.2)) (.eE _ (bE XN (.v _)))
  have ft:=MD hf XN
  have fin:e=0∨e=21→∃v' Q' R',TI { t with store:=s' } v' Q' R' (q+1000) (m+256):=fun he=>by
   obtain⟨o',rfl,nl,tb,sub,ne1,ne2⟩:=ho (by omega)
   have g:GI { t.store with tables:=ov aT o' } { v with T:=o' } q :=
    ⟨⟨h.gi.sd.jI,h.gi.sd.dV,h.gi.sd.gU,h.gi.sd.early,h.gi.sd.bU,h.gi.sd.tree,rfl,h.gi.sd.eV,tb,h.gi.sd.nB,h.gi.sd.nL,h.gi.sd.nQ,h.gi.sd.nE,h.gi.sd.nO,by show ((ol o').length:Int)<_;omega,h.gi.sd.nn⟩,h.gi.up,h.gi.KC,h.gi.pos,h.gi.nl,h.gi.SA,h.gi.qK,h.gi.KY,h.gi.nB,h.gi.nO,h.gi.KZ,h.gi.nE,h.gi.QQ,by show ((ol o').length:Int)≤t.store.cFg.mA.qL;omega,h.gi.SC,h.gi.nQ,h.gi.I8,h.gi.dN⟩
   have r:RG { t.store with tables:=ov aT o' } { v with T:=o' }:=⟨h.rg.now,h.rg.j,h.rg.f,h.rg.nd,h.rg.or,h.rg.rt,h.rg.fe,h.rg.ds,by obtain⟨tb,h1,h2⟩:=h.rg.tb;exact⟨tb,sub h1,h2⟩,⟨h.rg.ne.q,h.rg.ne.e,h.rg.ne.o,ne1,h.rg.ne.ea,fun x hx=>(ne2 x hx).elim (h.rg.ne.tb x) fun ⟨B,h1,h2⟩=>⟨B,h1,fun e=>by have h3:=h.jI.1;rw[e] at h2;simp at h2;omega⟩⟩⟩
   exact up ⟨h.toTI0.store g r rfl,h.G0,h.G1⟩ (by omega) (by omega)
  simp only[Z8,seval,bf k1,bf k2,bf k3,bf k4,bt k5,k117,eA];exact⟨_,by apply dO;rfl;all_goals simp only[aE,bJ,Z8,seval,ft]<;>rfl,_,e,rfl,ft,fin⟩
 by_cases k6:x.kind=6
 ·obtain⟨y,hy,t',e,v',Q',R',rfl,g⟩:=aPM h x.verdict
  have k206:=kx hy (bE hf (.agg _ (gE _))) (.eE _ (bE g.td.flat (.v _)))
  have ft:=g.td.flat
  simp only[Z8,seval,bf k1,bf k2,bf k3,bf k4,bf k5,bt k6,k206,eA];exact⟨_,by apply dO;rfl;all_goals simp only[aE,bJ,Z8,seval,ft]<;>rfl,_,e,rfl,ft,fun _=>up g (by omega) (by omega)⟩
 simp only[Z8,seval,bf k1,bf k2,bf k3,bf k4,bf k5,bf k6];exact⟨_,by apply dO;rfl;all_goals simp only[aE,bJ,Z8,seval,hf]<;>rfl,t,2,rfl,hf,fun h=>absurd h (by omega)⟩
theorem aPS {t:State} {v:SV} {Q R:Option (List Request)} {q m:Int} (h:TI t v Q R q m) (x:wM) (hx:pA x) (hp:x.kind=2→Pr x.block.root) (hq:q+1000≤900000) (hm:m+256≤100000) :
 ∃r,aC Tryz.prog 147 [.agg (aI t),.agg (kX x)]=some r∧∃(t':State) (y:AV) (e:Int) (v':SV) (Q' R':Option (List Request)),r=.eE [.agg (aI t'),y,.v (.int .i64 e)]∧Flat y∧TI t' v' Q' R' (q+1000) (m+256):=by
 have hf:=h.td.flat
 have QP:=hx.flat
 have h':=h.mono (q':=q+1000) (m':=m+256) (by omega) hq (by omega) hm
 obtain⟨y1,hy1,e1,rfl⟩:=aO4 x hx
 have aBB:=kx hy1 (cO QP) (.v _)
 obtain⟨y2,hy2,t2,e2,rfl,p4,ho⟩:=aPQ h x hx hp hq hm
 have aFy:=kx hy2 (bE hf QP) (.eE _ (bE p4 (.v _)))
 rw[cL Tryz.func147 rfl aK2 rfl];cases g0:t.halted
 case true =>
  simp only[Z8,seval,g0];exact⟨_,by apply cN;rfl;all_goals simp only[aE,bJ,Z8,seval,hf]<;>rfl,t,_,22,v,Q,R,rfl,.v _,h'⟩
 by_cases g1:e1=0
 case neg =>
  simp only[Z8,seval,g0,aBB,bf g1];exact⟨_,by apply cN;rfl;all_goals simp only[aE,bJ,Z8,seval,hf]<;>rfl,t,_,e1,v,Q,R,rfl,.v _,h'⟩
 by_cases g2:e2=21
 ·obtain⟨v',Q',R',T⟩:=ho (.inr g2)
  simp only[Z8,seval,g0,aBB,bt g1,aFy,eA,bt g2];exact⟨_,by apply cN;rfl;all_goals simp only[aE,bJ,Z8,seval,p4]<;>rfl,t2,_,e2,v',Q',R',rfl,.v _,T⟩
 by_cases g3:e2=0
 case neg =>
  simp only[Z8,seval,g0,aBB,bt g1,aFy,eA,bf g2,bf g3];exact⟨_,by apply cN;rfl;all_goals simp only[aE,bJ,Z8,seval,hf]<;>rfl,t,_,e2,v,Q,R,rfl,.v _,h'⟩
 obtain⟨v',Q',R',T⟩:=ho (.inl g3)
 obtain⟨y3,hy3,b,c,y,rfl,fy⟩:=aJ9 t2 p4 T.gi
 have T':=T.emit b c
 have ft3:=T'.td.flat
 have aFz:=kx hy3 (cO p4) (.eE _ (bE ft3 fy))
 simp only[Z8,seval,g0,aBB,bt g1,aFy,eA,bf g2,bt g3,aFz];exact⟨_,cN rfl (by simp only[bJ,Z8,seval]<;>rfl) (by simp only[bJ,Z8,seval]<;>rfl) (by simp only[bJ,E8,seval]<;>rfl) (dX ft3) (dX fy) (dX (.v _)),_,y,0,v',Q',R',rfl,fy,T'⟩
theorem sY (n:Int):(mkRoot n)[0]=IntKind.u8.wrap n:=by
 simp[mkRoot]
theorem Gx {n:Int} (h0:0≤n) (h1:n<256):IntKind.u8.wrap n=n:=by
 simp only[IntKind.wrap,IntKind.bits,IntKind.signed];simp
 omega
theorem aEe {n:Int} (h0:1≤n) (h1:n≤98):Pr (mkRoot n):=by
 refine⟨fun e=>?_,fun e=>?_⟩
 ·have e1:IntKind.u8.wrap n=dK[0]:=by rw[← sY,e]
  rw[Gx (by omega) (by omega),show dK[0]=0 from rfl] at e1
  omega
 ·have e1:IntKind.u8.wrap n=IntKind.u8.wrap 99:=by rw[← sY,← sY,e]
  rw[Gx (by omega) (by omega),Gx (by omega) (by omega)] at e1
  omega
theorem RG.new {c:Config} {b:List Int} (h:Nd c b):RG (SM c b) (Tb c b):=by
 have hg:Pr c.eB:=by rw[h.gen];exact aEe (by omega) (by omega)
 have z:Rg 0:=XI
 refine⟨⟨by show (0:Int)≤0;omega,by show (0:Int)≤_;omega⟩,z,z,fun n hn=>?_,(fun o ho=>by cases ho),fun n hn=>?_,⟨by show (0:Int)≤0;omega, ?_⟩, ?_, ?_, ?_⟩
 ·rw[show n=⟨FF c,-1,1⟩ from List.mem_singleton.1 hn];exact⟨⟨z,z,z,z,z⟩,by show (0:Int)≤0;omega⟩
 ·rw[show n=⟨FF c,-1,1⟩ from List.mem_singleton.1 hn];exact hg
 ·show (0:Int)≤IntKind.u64.wrap (Int.tdiv 0 c.qK)
  rw[Int.zero_tdiv];decide
 ·show ([c.eB]:List cM).Nodup
  simp
 ·exact⟨⟨⟨0,c.eB⟩,ov bC (some b)⟩,List.mem_singleton.2 rfl,rfl⟩
 ·exact⟨nofun,nofun,nofun,by simp[Tb],(fun a ha=>by cases ha),fun t ht=>⟨b,by rw[show t=⟨⟨0,c.eB⟩,ov bC (some b)⟩ from List.mem_singleton.1 ht],fun e=>by have:=h.nb.1;rw[e] at this;simp at this⟩⟩
def p5 (c:Config) (b:List Int):State:={ gP with store:=SM c b,cJ:=1 }
theorem TI.new {c:Config} {b:List Int} (h:Nd c b):TI (p5 c b) (Tb c b) none none 0 0:=by
 have g:=GI.new h
 have r:=RG.new h
 have hr:=h.oC
 exact⟨⟨⟨g.sd,rfl,rfl,by show ((0:Nat):Int)<_;omega,by show ((0:Nat):Int)<_;omega⟩,g,r,⟨b,h⟩,⟨by show (1:Int)≤1;omega,(fun r hr=>by cases hr),List.Pairwise.nil⟩,⟨(fun r hr=>by cases hr),List.Pairwise.nil⟩,by show (1:Int)≤1+0;omega,by show ((0:Nat):Int)≤0;omega,by show ((0:Nat):Int)≤c.mA.oC;omega,by omega,nofun,nofun⟩,(fun r hr=>by cases hr),(fun r hr=>by cases hr)⟩
theorem aK5 {c:Config} {b:List Int} (h:Nd c b):∃r,aC Tryz.prog 144 [.agg (bS c)]=some r∧∃(yU:Bool) (last:Command) (y:AV),r=.eE [.agg (aI { p5 c b with yU:=yU,last:=last }),y,.v (.int .i64 0)]∧Flat y:=by
 have T:=TI.new h
 have fc:Flat (.agg (bS c)):=(xV c).2 (by rw[h.jI];exact dR _)
 have fs:=T.gi.sd.flat
 have k102:=kx (aON h) (cO fc) (.eE _ (bE fs (.v _)))
 obtain⟨y3,hy3,s,l,y,rfl,fy⟩:=aJ9 (p5 c b) T.td.flat T.gi
 have ft3:=(T.emit s l).td.flat
 have aFz:=kx hy3 (cO T.td.flat) (.eE _ (bE ft3 fy))
 have eb:({ gP with store:=SM c b,cJ:=1 }:State)=p5 c b:=rfl
 rw[cL Tryz.func144 rfl aK6 rfl];simp only[Z8,seval,k102,eA,eb,aFz];exact⟨_,cN rfl (by simp only[bJ,Z8,seval]<;>rfl) (by simp only[bJ,Z8,seval]<;>rfl) (by simp only[bJ,E8,seval]<;>rfl) (dX ft3) (dX fy) (dX (.v _)),s,l,y,rfl,fy⟩
def Kz (l:List wM):List AV:=l.flatMap kX
theorem N3 (x:wM):xL 190 446 720 (some (1,kX x))=some (none,.row 190 446 [x].length (Kz [x])):=by simp[xL,maxLen,Kz]
theorem N4 (l:List wM) (x:wM) (s g:Nat) (h:(l.length:Int)<1000000):wZ 190 446 720 (some (.row 190 446 l.length (Kz l))) s g (some (1,kX x))=some (some (s,g),.row 190 446 (l++[x]).length (Kz (l++[x]))):=by
 simp only[wZ];rw[if_pos ⟨by simp,trivial,trivial,by omega,by simp only[maxLen];omega⟩]
 simp[Kz,List.flatMap_append]
theorem Qf (l:List wM) (h:∀y∈l,pA y):∀x∈Kz l,Flat x:=by
 intro x hx;obtain⟨y,hm,hy⟩:=List.mem_flatMap.1 hx
 have hf:=(h y hm).flat
 cases hf with
 | agg _ hc=>exact hc x hy
theorem aEf (n:Nat) (l:List wM) (h:∀y∈l,pA y):jC (some (.row 190 446 n (Kz l)))=some (.sl n (Kz l)):=by
 unfold jC;simp only;rw[if_pos (Qf l h)]
theorem x75 (l:List Int) (hl:(l.length:Int)≤9223372036854775807):∃r,aC Tryz.prog 75 [.sl l.length (aK l)]=some r∧∃(c:Config) (X:AV) (t:State) (v:SV) (Q R:Option (List Request)),r=.eE [.agg (bS c),X,.agg (aI t)]∧Flat (.agg (bS c))∧Flat X∧TI t v Q R 24000 6144:=by
 obtain⟨y1,hy1,c,b,rfl,hc⟩:=aKV l hl
 have fc:Flat (.agg (bS c)):=(xV c).2 (by rw[hc.jI];exact dR _)
 have aBC:∀(st:St) (d:Option Nat),fC (aC Tryz.prog) 101 _ st d=_:=fun st d=>Gu (cO (Pn l)) hy1 fc
 obtain⟨y2,hy2,yU,last,y,rfl,fy⟩:=aK5 hc
 have T0:=(TI.new hc).emit yU last
 have N5:=kx hy2 (cO fc) (.eE _ (lN T0.td.flat fy (.v _)))
 have k16:=Mm l hl 16 (by omega) (by omega)
 have k17:=Mm l hl 17 (by omega) (by omega)
 have n0:=(Ml l hl 16 (by omega) (by omega)).2.1
 obtain⟨n1,n2⟩:=eJ (n:=25) n0 (by omega)
 obtain⟨N,hN⟩:∃N,(EJ l 16).tmod 25=N:=⟨_,rfl⟩
 rw[hN] at n1 n2;rw[cG Tryz.func75 rfl aPU (by kernel_rfl) rfl]
 have body:∀(M:Int),0≤M→M≤24→∀st:St,(st.env 0=.sl l.length (aK l)∧st.env 2=.ptr 2 0 0∧st.heap 2 0=some (.cells (bS nA))∧st.env 4=.ptr 4 0 0∧st.heap 4 0=some (.cells (aI gP))∧st.env 5=.ptr 5 0 0∧st.heap 5 0=some (.cells (bS c))∧st.env 6=.ptr 6 0 0∧st.heap 6 0=some (.cells (aI { p5 c b with yU:=yU,last:=last }))∧st.env 9=.v (.slice none 0 0)∧st.env 10=.v (.int .i64 M)∧st.env 11=.v (.int .i64 0))→∃e st',wA Tryz.prog true (kJ (Tryz.f75.body.getD .skip)) st=some (e,st')∧(e=.exit 0∧∃(t:State) (v:SV) (Q R:Option (List Request)),(st'.env 2=.ptr 2 0 0∧st'.heap 2 0=some (.cells (bS nA))∧st'.env 4=.ptr 4 0 0∧st'.heap 4 0=some (.cells (aI gP))∧st'.env 5=.ptr 5 0 0∧st'.heap 5 0=some (.cells (bS c))∧st'.env 6=.ptr 6 0 0∧st'.heap 6 0=some (.cells (aI t)))∧(st'.env 9=.v (.slice none 0 0)∨∃(L:List wM) (g:Nat),st'.env 9=.own 48 g∧st'.heap 48 g=some (.row 190 446 L.length (Kz L))∧∀y∈L,pA y)∧TI t v Q R 24000 6144):=by
  intro M hM0 hM1 st hs;suffices key:∃r,cD (wA Tryz.prog true (kJ (Tryz.f75.body.getD .skip)) st) some=some r∧(r.1=.exit 0∧∃(t:State) (v:SV) (Q R:Option (List Request)),(r.2.env 2=.ptr 2 0 0∧r.2.heap 2 0=some (.cells (bS nA))∧r.2.env 4=.ptr 4 0 0∧r.2.heap 4 0=some (.cells (aI gP))∧r.2.env 5=.ptr 5 0 0∧r.2.heap 5 0=some (.cells (bS c))∧r.2.env 6=.ptr 6 0 0∧r.2.heap 6 0=some (.cells (aI t)))∧(r.2.env 9=.v (.slice none 0 0)∨∃(L:List wM) (g:Nat),r.2.env 9=.own 48 g∧r.2.heap 48 g=some (.row 190 446 L.length (Kz L))∧∀y∈L,pA y)∧TI t v Q R 24000 6144) by
   obtain⟨r,h,hq⟩:=key
   cases hx:wA Tryz.prog true (kJ (Tryz.f75.body.getD .skip)) st with
   | none=>rw[hx] at h;cases h
   | some y=>rw[hx] at h;simp only[cU,Option.some.injEq] at h;subst h;exact⟨y.1,y.2,rfl,hq⟩
  simp only[Tryz.f75,Option.getD_some,kJ];refine mC (fun m st=>∃(k:Nat) (t:State) (v:SV) (Q R:Option (List Request)),(st.env 0=.sl l.length (aK l)∧st.env 2=.ptr 2 0 0∧st.heap 2 0=some (.cells (bS nA))∧st.env 4=.ptr 4 0 0∧st.heap 4 0=some (.cells (aI gP))∧st.env 5=.ptr 5 0 0∧st.heap 5 0=some (.cells (bS c))∧st.env 6=.ptr 6 0 0∧st.heap 6 0=some (.cells (aI t))∧st.env 10=.v (.int .i64 M)∧st.env 11=.v (.int .i64 k))∧(st.env 9=.v (.slice none 0 0)∨∃(L:List wM) (g:Nat),(st.env 9=.own 48 g∧st.heap 48 g=some (.row 190 446 L.length (Kz L)))∧g<st.aQ 48∧(∀y∈L,pA y)∧L.length≤k)∧TI t v Q R (1000 * k) (256 * k)∧(k:Int)≤M∧m=(M-k).toNat)
   (fun e st=>e=.exit 0∧∃(t:State) (v:SV) (Q R:Option (List Request)),(st.env 2=.ptr 2 0 0∧st.heap 2 0=some (.cells (bS nA))∧st.env 4=.ptr 4 0 0∧st.heap 4 0=some (.cells (aI gP))∧st.env 5=.ptr 5 0 0∧st.heap 5 0=some (.cells (bS c))∧st.env 6=.ptr 6 0 0∧st.heap 6 0=some (.cells (aI t)))∧(st.env 9=.v (.slice none 0 0)∨∃(L:List wM) (g:Nat),st.env 9=.own 48 g∧st.heap 48 g=some (.row 190 446 L.length (Kz L))∧∀y∈L,pA y)∧TI t v Q R 24000 6144) M.toNat ?step ?start ?rest
  case start=>exact⟨0,_,_,_,_,⟨hs.1,hs.2.1,hs.2.2.1,hs.2.2.2.1,hs.2.2.2.2.1,hs.2.2.2.2.2.1,hs.2.2.2.2.2.2.1,hs.2.2.2.2.2.2.2.1,hs.2.2.2.2.2.2.2.2.1,hs.2.2.2.2.2.2.2.2.2.2.1,hs.2.2.2.2.2.2.2.2.2.2.2⟩,.inl hs.2.2.2.2.2.2.2.2.2.1,T0,by omega,by omega⟩
  case rest=>exact fun e st h=>⟨_,rfl,h⟩
  case step =>
   clear hs
   rintro m st ⟨k,t,v,Q,R,hI,hX,T,hk,hm⟩
   by_cases bB:(k:Int)<M
   case neg =>
    have hX':st.env 9=.v (.slice none 0 0)∨∃(L:List wM) (g:Nat),st.env 9=.own 48 g∧st.heap 48 g=some (.row 190 446 L.length (Kz L))∧∀y∈L,pA y:=hX.imp id fun ⟨L,g,h1,_,h3,_⟩=>⟨L,g,h1.1,h1.2,h3⟩
    apply JK (.exit 0)
    ·simp only[ZG,seval,Bool.false_and,Prod.mk.injEq,Wp,hI,bB];rfl
    ·exact⟨rfl,t,v,Q,R,by simp only[E8,seval,hI],by simpa only[E8,seval] using hX',T.mono (by omega) (by omega) (by omega) (by omega)⟩
   have hw:IntKind.i64.wrap ((k:Int)+1)=((k+1:Nat):Int):=by rw[qA _ (by omega) (by omega)];omega
   obtain⟨j,hj⟩:∃j:Int,j=18+(k:Int):=⟨_,rfl⟩
   have hwj:IntKind.i64.wrap (18+(k:Int))=j:=by rw[qA _ (by omega) (by omega),hj]
   obtain⟨n,hn⟩:∃n:Int,n=10+(k:Int):=⟨_,rfl⟩
   have hwn:IntKind.i64.wrap (10+(k:Int))=n:=by rw[qA _ (by omega) (by omega),hn]
   have kj:=Mm l hl j (by omega) (by omega)
   have j0:=(Ml l hl j (by omega) (by omega)).2.1
   have op:∀z:Int,0≤z→∃(y:wM) (t':State) (w:AV) (e:Int) (v':SV) (Q' R':Option (List Request)),(∀(st:St) (d:Option Nat),aN (aC Tryz.prog) 146 [.agg (aI t),.v (.int .i64 n),.v (.int .i64 z)] st d=some { dst:=d,val:=.agg (kX y)})∧(∀(st:St) (d:Option Nat),aN (aC Tryz.prog) 147 [.agg (aI t),.agg (kX y)] st d=some { dst:=d,val:=.eE [.agg (aI t'),w,.v (.int .i64 e)]})∧pA y∧TI t' v' Q' R' (1000 * ((k+1:Nat):Int)) (256 * ((k+1:Nat):Int)):=by
    intro z hz;obtain⟨y3,hy3,o,rfl,ho,hr⟩:=aPE T.td T.gi T.rg T.jI (fun r hr=>by obtain⟨h1,h2,_⟩:=T.tq.all r hr;have:=T.nt;exact⟨by omega,by omega⟩) n z hz
    have hp:o.kind=2→Pr o.block.root:=fun h2=>by
     rcases hr h2 with h|⟨a,ha,h⟩
     ·rw[h];exact aEe (by omega) (by omega)
     ·rw[h];exact T.rg.rt a ha
    obtain⟨y4,hy4,t',w,e,v',Q',R',rfl,fw,T'⟩:=aPS T o ho hp (by omega) (by omega)
    exact⟨o,t',w,e,v',Q',R',kx hy3 (lN T.td.flat (.v _) (.v _)) ho.flat,kx hy4 (bE T.td.flat ho.flat) (.eE _ (lN T'.td.flat fw (.v _))),ho,T'.mono (by omega) (by omega) (by omega) (by omega)⟩
   by_cases k0:(k:Int)=0
   ·obtain⟨o,t',w,e,v',Q',R',N6,N7,ho,T'⟩:=op 0 (by omega)
    rcases hX with hX|⟨L,g,hX,hg,hL,hLk⟩
    ·apply Ea ((M-((k+1:Nat):Int)).toNat)
     ·simp only[ZG,seval,Bool.false_and,Prod.mk.injEq,Wp,hI,hX,bB,hwj,kj,bt k0,hwn,N6,N3,N7,eA,hw];rfl
     ·exact⟨k+1,t',v',Q',R',by simp only[E8,seval,hI],.inr ⟨[o],_,⟨by simp only[E8,seval]<;>rfl,by simp only[E8,seval]<;>rfl⟩,by simp only[E8,seval]<;>omega,(fun y hy=>by rw[List.mem_singleton] at hy;rw[hy];exact ho),by simp⟩,T',by omega,rfl⟩
    ·have nL:(L.length:Int)<1000000:=by omega
     have vC:(g=st.aQ 48)=False:=eq_false (by omega)
     apply Ea ((M-((k+1:Nat):Int)).toNat)
     ·simp only[ZG,seval,Bool.false_and,Prod.mk.injEq,Wp,hI,hX,vC,bB,hwj,kj,bt k0,hwn,N6,N4 _ _ _ _ nL,N7,eA,hw];rfl
     ·exact⟨k+1,t',v',Q',R',by simp only[E8,seval,hI],.inr ⟨L++[o],_,⟨by simp only[E8,seval]<;>rfl,by simp only[E8,seval]<;>rfl⟩,by simp only[E8,seval]<;>omega,(fun y hy=>(List.mem_append.1 hy).elim (hL y) fun h=>by rw[List.mem_singleton] at h;rw[h];exact ho),by rw[List.length_append,List.length_cons,List.length_nil];omega⟩,T',by omega,rfl⟩
   ·obtain⟨o,t',w,e,v',Q',R',N6,N7,ho,T'⟩:=op (EJ l j) j0
    rcases hX with hX|⟨L,g,hX,hg,hL,hLk⟩
    ·apply Ea ((M-((k+1:Nat):Int)).toNat)
     ·simp only[ZG,seval,Bool.false_and,Prod.mk.injEq,Wp,hI,hX,bB,hwj,kj,bf k0,hwn,N6,N3,N7,eA,hw];rfl
     ·exact⟨k+1,t',v',Q',R',by simp only[E8,seval,hI],.inr ⟨[o],_,⟨by simp only[E8,seval]<;>rfl,by simp only[E8,seval]<;>rfl⟩,by simp only[E8,seval]<;>omega,(fun y hy=>by rw[List.mem_singleton] at hy;rw[hy];exact ho),by simp⟩,T',by omega,rfl⟩
    ·have nL:(L.length:Int)<1000000:=by omega
     have vC:(g=st.aQ 48)=False:=eq_false (by omega)
     apply Ea ((M-((k+1:Nat):Int)).toNat)
     ·simp only[ZG,seval,Bool.false_and,Prod.mk.injEq,Wp,hI,hX,vC,bB,hwj,kj,bf k0,hwn,N6,N4 _ _ _ _ nL,N7,eA,hw];rfl
     ·exact⟨k+1,t',v',Q',R',by simp only[E8,seval,hI],.inr ⟨L++[o],_,⟨by simp only[E8,seval]<;>rfl,by simp only[E8,seval]<;>rfl⟩,by simp only[E8,seval]<;>omega,(fun y hy=>(List.mem_append.1 hy).elim (hL y) fun h=>by rw[List.mem_singleton] at h;rw[h];exact ho),by rw[List.length_append,List.length_cons,List.length_nil];omega⟩,T',by omega,rfl⟩
 by_cases g1:0<(EJ l 17).tmod 4
 ·simp only[ZG,seval,Bool.false_and,Prod.mk.injEq,Wp,aBC,N5,eA,k16,hN,k17,g1];refine Ip (a:=kJ (Tryz.f75.body.getD .skip)) (fun e st'=>e=.exit 0∧∃(t:State) (v:SV) (Q R:Option (List Request)),(st'.env 2=.ptr 2 0 0∧st'.heap 2 0=some (.cells (bS nA))∧st'.env 4=.ptr 4 0 0∧st'.heap 4 0=some (.cells (aI gP))∧st'.env 5=.ptr 5 0 0∧st'.heap 5 0=some (.cells (bS c))∧st'.env 6=.ptr 6 0 0∧st'.heap 6 0=some (.cells (aI t)))∧(st'.env 9=.v (.slice none 0 0)∨∃(L:List wM) (g:Nat),st'.env 9=.own 48 g∧st'.heap 48 g=some (.row 190 446 L.length (Kz L))∧∀y∈L,pA y)∧TI t v Q R 24000 6144) (body 24 (by omega) (by omega) _ (by simp only[E8,seval]<;>rfl)) ?rest
  rintro e st ⟨rfl,t,v,Q,R,hI,hX|⟨L,g,hX,hh,hL⟩,T⟩
  ·have ft:=T.td.flat
   simp only[ZG,seval,Bool.false_and,Prod.mk.injEq,Wp,hI,hX];exact⟨_,cN rfl (by simp only[bJ,Z8,seval,hI]<;>rfl) (by simp only[bJ,Z8,seval,hX]<;>rfl) (by simp only[bJ,Z8,seval,hI]<;>rfl) (dX fc) (dX (.v _)) (dX ft),c,_,t,v,Q,R,rfl,fc,.v _,T⟩
  ·have ft:=T.td.flat
   have ex:=aEf L.length L hL
   simp only[ZG,seval,Bool.false_and,Prod.mk.injEq,Wp,hI,hX,hh];exact⟨_,cN rfl (by simp only[bJ,Z8,seval,hI]<;>rfl) (by simp only[bJ,Z8,seval,hX]<;>rfl) (by simp only[bJ,Z8,seval,hI]<;>rfl) (dX fc) (by simp only[Z8,seval,hh,ex]<;>rfl) (dX ft),c,_,t,v,Q,R,rfl,fc,.sl _ _ (Qf L hL),T⟩
 ·simp only[ZG,seval,Bool.false_and,Prod.mk.injEq,Wp,aBC,N5,eA,k16,hN,k17,g1];refine Ip (a:=kJ (Tryz.f75.body.getD .skip)) (fun e st'=>e=.exit 0∧∃(t:State) (v:SV) (Q R:Option (List Request)),(st'.env 2=.ptr 2 0 0∧st'.heap 2 0=some (.cells (bS nA))∧st'.env 4=.ptr 4 0 0∧st'.heap 4 0=some (.cells (aI gP))∧st'.env 5=.ptr 5 0 0∧st'.heap 5 0=some (.cells (bS c))∧st'.env 6=.ptr 6 0 0∧st'.heap 6 0=some (.cells (aI t)))∧(st'.env 9=.v (.slice none 0 0)∨∃(L:List wM) (g:Nat),st'.env 9=.own 48 g∧st'.heap 48 g=some (.row 190 446 L.length (Kz L))∧∀y∈L,pA y)∧TI t v Q R 24000 6144) (body N (by omega) (by omega) _ (by simp only[E8,seval]<;>rfl)) ?LA
  rintro e st ⟨rfl,t,v,Q,R,hI,hX|⟨L,g,hX,hh,hL⟩,T⟩
  ·have ft:=T.td.flat
   simp only[ZG,seval,Bool.false_and,Prod.mk.injEq,Wp,hI,hX];exact⟨_,cN rfl (by simp only[bJ,Z8,seval,hI]<;>rfl) (by simp only[bJ,Z8,seval,hX]<;>rfl) (by simp only[bJ,Z8,seval,hI]<;>rfl) (dX fc) (dX (.v _)) (dX ft),c,_,t,v,Q,R,rfl,fc,.v _,T⟩
  ·have ft:=T.td.flat
   have ex:=aEf L.length L hL
   simp only[ZG,seval,Bool.false_and,Prod.mk.injEq,Wp,hI,hX,hh];exact⟨_,cN rfl (by simp only[bJ,Z8,seval,hI]<;>rfl) (by simp only[bJ,Z8,seval,hX]<;>rfl) (by simp only[bJ,Z8,seval,hI]<;>rfl) (dX fc) (by simp only[Z8,seval,hh,ex]<;>rfl) (dX ft),c,_,t,v,Q,R,rfl,fc,.sl _ _ (Qf L hL),T⟩
theorem x24 (l:List Int) (hl:(l.length:Int)≤9223372036854775807):∃(t:State) (v:SV) (Q R:Option (List Request)),aC Tryz.prog 24 [.sl l.length (aK l)]=some (.agg (aI t))∧TI t v Q R 24000 6144:=by
 suffices h:∃r,aC Tryz.prog 24 [.sl l.length (aK l)]=some r∧∃(t:State) (v:SV) (Q R:Option (List Request)),r=.agg (aI t)∧TI t v Q R 24000 6144 by
  obtain⟨r,h,t,v,Q,R,rfl,T⟩:=h
  exact⟨t,v,Q,R,h,T⟩
 obtain⟨y,hy,c,X,t,v,Q,R,rfl,fc,fX,T⟩:=x75 l hl
 have ft:=T.td.flat
 have k75:=kx hy (cO (Pn l)) (.eE _ (lN fc fX ft))
 rw[cL Tryz.func24 rfl aPV rfl];simp only[Z8,seval,k75,eA];exact⟨_,fF rfl (by simp only[E8,seval,ft]<;>rfl) (by simp only[Z8,seval,ft]<;>rfl) (by simp only[dY,and_self,ft]),t,v,Q,R,rfl,T⟩
end Go.Ab.Tryz
namespace Go.Ab.Tryz
open Classical Go.Proofs Go.Ab
end Go.Ab.Tryz
namespace Go.Ab.Tryz
open Classical Go.Proofs Go.Ab
theorem DN (n:Node) (r:cM):aM [n] r=if n.block.root=r then 0 else -1:=by
 unfold aM;by_cases h:n.block.root=r<;>simp[List.findIdx?_cons,h]
theorem aEg {a b:Int} (a0:0≤a) (a1:a<256) (b0:0≤b) (b1:b<256) (h:a≠b):mkRoot a≠mkRoot b:=fun e=>by
 have e1:IntKind.u8.wrap a=IntKind.u8.wrap b:=by rw[← sY,← sY,e]
 rw[Gx a0 a1,Gx b0 b1] at e1;exact h e1
theorem GI.now {s:aP} {v:SV} {q:Int} (h:GI s v q) (n:Int):GI { s with now:=n } v q :=
 ⟨⟨h.sd.jI,h.sd.dV,h.sd.gU,h.sd.early,h.sd.bU,h.sd.tree,h.sd.tables,h.sd.eV,h.sd.tB,h.sd.nB,h.sd.nL,h.sd.nQ,h.sd.nE,h.sd.nO,h.sd.nT,h.sd.nn⟩,h.up,h.KC,h.pos,h.nl,h.SA,h.qK,h.KY,h.nB,h.nO,h.KZ,h.nE,h.QQ,h.nT,h.SC,h.nQ,h.I8,h.dN⟩
theorem RG.N1 {s:aP} {v:SV} (r:RG s v) (hs:1≤s.cFg.qK) {n:Int} (h0:s.now≤n) (h1:n≤1099511627776):RG { s with now:=n } v :=
 ⟨⟨by have:=r.now.1;show 0≤n;omega,h1⟩,r.j,r.f,fun a ha=>⟨(r.nd a ha).1,by have:=(r.nd a ha).2;show a.block.slot≤n;omega⟩,r.or,r.rt,⟨r.fe.1,Int.le_trans r.fe.2 (show Bi s s.now≤Bi s n from LU hs r.now.1 h0 (by omega))⟩,r.ds,r.tb,r.ne⟩
theorem N8 {c:Config} {b:List Int} (h:Nd c b):aM (Tb c b).ns c.eB=0∧aM (Tb c b).ns (mkRoot 9)=-1:=by
 have e:(Tb c b).ns=[⟨FF c,-1,1⟩]:=rfl
 rw[e,DN,DN,if_pos (show (FF c).root=c.eB from rfl),if_neg (show ¬(FF c).root=mkRoot 9 by show ¬c.eB=mkRoot 9;rw[h.gen];exact aEg (by omega) (by omega) (by omega) (by omega) (by omega))]
 exact⟨rfl,rfl⟩
end Go.Ab.Tryz
namespace Go.Ab.Tryz
open Classical Go.Proofs Go.Ab
open Classical Go.Proofs Go.Ab
end Go.Ab.Tryz
namespace Go.Ab.Tryz
open Classical Go.Proofs Go.Ab
def uo {α:Type} (e sz:Nat) (c:List α→List AV):Option (List α)→AV
 | none=>.v (.slice none 0 0)
 | some l=>.uniq e sz l.length (c l)
def rl {α:Type} (e sz:Nat) (c:List α→List AV):Option (List α)→List nD
 | none=>[]
 | some l=>[.row e sz l.length (c l)]
def rv {α:Type} (d k:Nat):Option (List α)→AV
 | none=>.v (.slice none 0 0)
 | some _=>.own d k
def JL (d:Nat) (es:List nD):Option (Nat × List nD):=if es=[] then none else some (d,es)
theorem N9 (st:St) (d:Nat):st.news d []=st:=by
 unfold St.news;cases st with
 | mk env heap aQ =>
   simp only[List.length_nil,Nat.not_lt_zero,and_false,if_false,Nat.add_zero,St.mk.injEq,true_and];funext s
   split
   ·rename_i h;rw[h]
   ·rfl
theorem p6 (x:Option Nat) (v:AV) (d:Nat) (es:List nD) (st:St):({ dst:=x,val:=v,new:=JL d es }:qT).apply st=(st.news d es).put x v:=by
 unfold JL;by_cases h:es=[]
 ·rw[if_pos h,h,N9];rfl
 ·rw[if_neg h];rfl
theorem O0 (st:St) (t d:Nat) (es:List nD):(st.news d es).env t=st.env t:=rfl
theorem O1 (st:St) (t d:Nat) (es:List nD):(st.news d es).aQ t=if t=d then st.aQ d+es.length else st.aQ t:=rfl
theorem yA (st:St) (s g d:Nat) (es:List nD):(st.news d es).heap s g=if s=d∧st.aQ d≤g∧g-st.aQ d<es.length then es[g-st.aQ d]? else st.heap s g:=rfl
theorem At {α:Type} {call:Nat→List AV→Option AV} {g e sz d:Nat} {args:List AV} {c:List α→List AV} {L:Option (List α)} {st:St} (hf:∀x∈args,Flat x) (h:call g args=some (uo e sz c L)) :
 aN call g args st (some d)=some { dst:=some d,val:=rv d (st.aQ d) L,new:=JL d (rl e sz c L)}:=by
 cases L with
 | none =>
   simp only[aN,if_pos hf,h,cU,uo,iW,if_pos (Flat.v _),rv,rl,JL];rfl
 | some l=>rw[jB hf h];simp only[rv,rl,JL,List.cons_ne_nil,if_false]
theorem iQ {α:Type} {st:St} {d k e sz:Nat} {c:List α→List AV} {L:Option (List α)} (hh:∀l,L=some l→st.heap d k=some (.row e sz l.length (c l))) (hf:∀l,L=some l→∀x∈c l,Flat x):kE st (rv d k L)=some (uo e sz c L):=by
 cases L with
 | none=>exact if_pos (Flat.v _)
 | some l =>
   have hn:¬Flat (.own d k):=by intro h;cases h
   simp only[rv,uo,kE,if_neg hn,hh l rfl,if_pos (hf l rfl)]
theorem ME {α:Type} {c:List α→List AV} {z:Nat} (hc:∀l,(c l).length=l.length * z) (hz:0<z) {l:List α} (h:l≠[]):c l≠[]:=by
 intro he;have h1:=hc l
 rw[he] at h1;have h2:0<l.length:=List.length_pos_iff.mpr h
 have:=Nat.mul_pos h2 hz
 simp only[List.length_nil] at h1;omega
theorem aPW (L:Option (List Int)) (h:L≠some []) (hn:((ol L).length:Int)<1000000):aC Tryz.prog 160 [ov bC L]=some (uo 23 1 bC L):=by
 cases L with
 | none =>
   unfold ov;rw[cL Tryz.func160 rfl aEh rfl];simp only[Z8,seval];exact bT rfl (by simp only[E8,seval]<;>rfl) (.v _)
 | some l =>
   have hl:l≠[]:=fun h2=>h (by rw[h2])
   have gT:bC l≠[]:=ME (z:=1) (fun l=>by simp[Qg]) (by omega) hl
   have ha:=fun s g=>Ic (e:=23) (sz:=1) (by_:=8) (s:=s) (g:=g) (n:=l.length) (cs:=bC l) (by simp[Qg]) (by simp only[ol,Option.getD_some] at hn;omega) (by simp only[ol,Option.getD_some] at hn;unfold maxLen;omega)
   unfold ov;rw[cL Tryz.func160 rfl aEh rfl];simp only[Z8,seval,gT,ha];exact sF rfl (by simp only[E8,seval];rfl) (by simp only[E8,seval]) (hU _)
theorem aK7 (L:Option (List Int)) (h:L≠some []) (hn:((ol L).length:Int)<1000000) (st:St) (d:Nat):aN (aC Tryz.prog) 160 [ov bC L] st (some d)=some { dst:=some d,val:=rv d (st.aQ d) L,new:=JL d (rl 23 1 bC L)}:=At (cO (dR L)) (aPW L h hn)
theorem aPX (L:Option (List kF)) (h:L≠some []) (hn:((ol L).length:Int)<1000000):aC Tryz.prog 190 [ov cK L]=some (uo 100 34 cK L):=by
 cases L with
 | none =>
   unfold ov;rw[cL Tryz.func190 rfl aEi rfl];simp only[Z8,seval];exact bT rfl (by simp only[E8,seval]<;>rfl) (.v _)
 | some l =>
   have hl:l≠[]:=fun h2=>h (by rw[h2])
   have gT:cK l≠[]:=ME (z:=34) (fun l=>by simp) (by omega) hl
   have ha:=fun s g=>Ic (e:=100) (sz:=34) (by_:=48) (s:=s) (g:=g) (n:=l.length) (cs:=cK l) (by simp) (by simp only[ol,Option.getD_some] at hn;omega) (by simp only[ol,Option.getD_some] at hn;unfold maxLen;omega)
   unfold ov;rw[cL Tryz.func190 rfl aEi rfl];simp only[Z8,seval,gT,ha];exact sF rfl (by simp only[E8,seval];rfl) (by simp only[E8,seval]) (mX _)
theorem aPY (L:Option (List kF)) (h:L≠some []) (hn:((ol L).length:Int)<1000000) (st:St) (d:Nat):aN (aC Tryz.prog) 190 [ov cK L] st (some d)=some { dst:=some d,val:=rv d (st.aQ d) L,new:=JL d (rl 100 34 cK L)}:=At (cO (qJ L)) (aPX L h hn)
theorem aPZ (L:Option (List Int)) (h:L≠some []) (hn:((ol L).length:Int)<1000000):aC Tryz.prog 191 [ov aK L]=some (uo 3 1 aK L):=by
 cases L with
 | none =>
   unfold ov;rw[cL Tryz.func191 rfl aEj rfl];simp only[Z8,seval];exact bT rfl (by simp only[E8,seval]<;>rfl) (.v _)
 | some l =>
   have hl:l≠[]:=fun h2=>h (by rw[h2])
   have gT:aK l≠[]:=ME (z:=1) (fun l=>by simp[Iq]) (by omega) hl
   have ha:=fun s g=>Ic (e:=3) (sz:=1) (by_:=8) (s:=s) (g:=g) (n:=l.length) (cs:=aK l) (by simp[Iq]) (by simp only[ol,Option.getD_some] at hn;omega) (by simp only[ol,Option.getD_some] at hn;unfold maxLen;omega)
   unfold ov;rw[cL Tryz.func191 rfl aEj rfl];simp only[Z8,seval,gT,ha];exact sF rfl (by simp only[E8,seval];rfl) (by simp only[E8,seval]) (gD _)
theorem aK8 (L:Option (List Int)) (h:L≠some []) (hn:((ol L).length:Int)<1000000) (st:St) (d:Nat):aN (aC Tryz.prog) 191 [ov aK L] st (some d)=some { dst:=some d,val:=rv d (st.aQ d) L,new:=JL d (rl 3 1 aK L)}:=At (cO (bO L)) (aPZ L h hn)
theorem aP0 (L:Option (List Block)) (h:L≠some []) (hn:((ol L).length:Int)<1000000):aC Tryz.prog 164 [ov aJ L]=some (uo 74 238 aJ L):=by
 cases L with
 | none =>
   unfold ov;rw[cL Tryz.func164 rfl aEk rfl];simp only[Z8,seval];exact bT rfl (by simp only[E8,seval]<;>rfl) (.v _)
 | some l =>
   have hl:l≠[]:=fun h2=>h (by rw[h2])
   have gT:aJ l≠[]:=ME (z:=238) (fun l=>by simp) (by omega) hl
   have ha:=fun s g=>Ic (e:=74) (sz:=238) (by_:=336) (s:=s) (g:=g) (n:=l.length) (cs:=aJ l) (by simp) (by simp only[ol,Option.getD_some] at hn;omega) (by simp only[ol,Option.getD_some] at hn;unfold maxLen;omega)
   unfold ov;rw[cL Tryz.func164 rfl aEk rfl];simp only[Z8,seval,gT,ha];exact sF rfl (by simp only[E8,seval];rfl) (by simp only[E8,seval]) (oX _)
theorem aP1 (L:Option (List Block)) (h:L≠some []) (hn:((ol L).length:Int)<1000000) (st:St) (d:Nat):aN (aC Tryz.prog) 164 [ov aJ L] st (some d)=some { dst:=some d,val:=rv d (st.aQ d) L,new:=JL d (rl 74 238 aJ L)}:=At (cO (Dx L)) (aP0 L h hn)
theorem aP2 (L:Option (List Request)) (h:L≠some []) (hn:((ol L).length:Int)<1000000):aC Tryz.prog 148 [ov aA L]=some (uo 63 35 aA L):=by
 cases L with
 | none =>
   unfold ov;rw[cL Tryz.func148 rfl aEl rfl];simp only[Z8,seval];exact bT rfl (by simp only[E8,seval]<;>rfl) (.v _)
 | some l =>
   have hl:l≠[]:=fun h2=>h (by rw[h2])
   have gT:aA l≠[]:=ME (z:=35) (fun l=>by simp) (by omega) hl
   have ha:=fun s g=>Ic (e:=63) (sz:=35) (by_:=56) (s:=s) (g:=g) (n:=l.length) (cs:=aA l) (by simp) (by simp only[ol,Option.getD_some] at hn;omega) (by simp only[ol,Option.getD_some] at hn;unfold maxLen;omega)
   unfold ov;rw[cL Tryz.func148 rfl aEl rfl];simp only[Z8,seval,gT,ha];exact sF rfl (by simp only[E8,seval];rfl) (by simp only[E8,seval]) (jQ _)
theorem aK9 (L:Option (List Request)) (h:L≠some []) (hn:((ol L).length:Int)<1000000) (st:St) (d:Nat):aN (aC Tryz.prog) 148 [ov aA L] st (some d)=some { dst:=some d,val:=rv d (st.aQ d) L,new:=JL d (rl 63 35 aA L)}:=At (cO (dF L)) (aP2 L h hn)
theorem rY {α:Type} {st:St} {d k e sz:Nat} {c:List α→List AV} {L:Option (List α)} (hh:∀l,L=some l→st.heap d k=some (.row e sz l.length (c l))) (hf:∀l,L=some l→∀x∈c l,Flat x):cY st (rv d k L)=some (ov c L):=by
 cases L with
 | none=>exact if_pos (Flat.v _)
 | some l =>
   have hn:¬Flat (.own d k):=by intro h;cases h
   simp only[rv,ov,cY,if_neg hn,hh l rfl,if_pos (hf l rfl)]
theorem O2 {α:Type} (d k:Nat) (L:Option (List α)):(rv d k L).cells=[rv d k L]:=by cases L<;>rfl
theorem aBD {α:Type} (d k:Nat) (L:Option (List α)):(rv d k L).jL=true:=by cases L<;>rfl
def NW:=aj (aj (aj @p6 @O0) (aj @O1 @yA)) (aj @O2 @aBD)
theorem aP3 (a:rQ) (V:Option (List Int)) (ha:a.eU=ov aK V) (h:V≠some []) (hn:((ol V).length:Int)<1000000):aC Tryz.prog 163 [.agg (gV a)]=some (.agg (gV a)):=by
 rw[cL Tryz.func163 rfl aLa rfl];simp only[Z8,seval,ha,aK8 V h hn,NW];refine eK rfl (by simp only[E8,seval,NW]<;>rfl) (cs:=gV { a with eU:=rv 5 0 V }) (by simp only[Z8,seval,NW]<;>rfl) ?_
 rw[bP,lS,rY (e:=3) (sz:=1) (c:=aK) (L:=V) ?h (fun l _=>gD l),cU,cU,← ha]
 case h =>
  intro l hl;subst hl;simp only[E8,seval,yA,rl,List.length_cons,Nat.lt_add_left_iff_pos,Nat.zero_lt_succ,if_true]
end Go.Ab.Tryz
namespace Go.Ab
open Classical
theorem Ni [Ext] {P:Program} {call:Nat→List AV→Option AV} {ops:Array Oper} {d:Option Nat} {T:Nat} {pos:String} {eN:Array Edge} {st:St} (t:Nat) (args:Array Operand) (sZ:Array Nat) (g:Nat) (h:st.env t=.v (.func (.func g) #[] #[])):bZ P call ops ⟨d,.call ⟨.value (.tmp t),args,sZ⟩,T,pos,eN,none⟩ st=cD (aN call g (args.toList.map st.ev) st d) fun e=>some (e.apply st):=by
 rw[dT];simp only[dI,iE,nM,St.ev,h,EG,and_self,if_true,List.append_nil];cases aN call g (args.toList.map st.ev) st d<;>rfl
end Go.Ab
namespace Go.Ab.Tryz
open Classical Go.Proofs Go.Ab
theorem aP4 (a:Table) (V:Option (List Int)) (ha:a.jI=ov bC V) (h:V≠some []) (hn:((ol V).length:Int)<1000000):aC Tryz.prog 194 [.agg (cA a)]=some (.agg (cA a)):=by
 rw[cL Tryz.func194 rfl aLb rfl];simp only[Z8,seval,ha,aK7 V h hn,NW];refine eK rfl (by simp only[E8,seval,NW]<;>rfl) (cs:=cA { a with jI:=rv 5 0 V }) (by simp only[Z8,seval,NW]<;>rfl) ?_
 rw[bP,sV,rY (e:=23) (sz:=1) (c:=bC) (L:=V) ?h (fun l _=>hU l),cU,cU,← ha]
 case h =>
  intro l hl;subst hl;simp only[E8,seval,yA,rl,List.length_cons,Nat.lt_add_left_iff_pos,Nat.zero_lt_succ,if_true]
theorem XO {α:Type} (z:α) (l:List α) (k:Nat) (h:k<l.length):l.take k++[gx z l (k:Int)]=l.take (k+1):=by
 rw[List.take_succ_eq_append_getElem h];congr 2
 simp[gx,h]
theorem aP5 (E:Option (List rQ)) (h:E≠some []) (hn:((ol E).length:Int)<1000000) (hE:∀a∈ol E,∃V,a.eU=ov aK (some V)∧V≠[]) (hA:∀a∈ol E,Cj a) :
 aC Tryz.prog 162 [ov dE E,.v (.func (.func 163) #[] #[])]=some (uo 87 67 dE E):=by
 have jJ:∀y∈ol E,Flat y.eU:=fun y m=>(hA y m).fl
 have kg:∀k:Nat,k<(ol E).length→∀(st:St) (d:Option Nat),aN (aC Tryz.prog) 163 [.agg (gV (gx Jb (ol E) (k:Int)))] st d=some { dst:=d,val:=.agg (gV (gx Jb (ol E) (k:Int)))}:=by
  intro k hk st d;have hm:gx Jb (ol E) (k:Int)∈ol E:=by
   have:gx Jb (ol E) (k:Int)=(ol E)[k]:=by simp[gx,hk]
   rw[this];exact List.getElem_mem hk
  obtain⟨V,hV,hV2⟩:=hE _ hm
  obtain⟨V',hV',Fz⟩:=hA _ hm
  have hfa:Flat (.agg (gV (gx Jb (ol E) (k:Int)))):=(yN _).2 (hA _ hm).fl
  have e0:((ol (some V)).length:Int)<1000000:=by
   have h0:ov aK (some V)=ov aK V':=by rw[← hV,← hV']
   cases V' with
   | none=>cases h0
   | some W =>
     simp only[ov,AV.sl.injEq] at h0;simp only[ol,Option.getD_some] at Fz ⊢
     omega
  exact kx (aP3 _ (some V) hV (by simpa using hV2) e0) (cO hfa) hfa st d
 have hu:([ov dE E,.v (.func (.func 163) #[] #[])]:List AV).any tM=false:=by cases E<;>rfl
 rw[cL Tryz.func162 rfl aLd hu];simp only[Z8,seval];refine mH (fun m st=>∃k:Nat,(st.env 8=ov dE E∧st.env 9=.v (.int .i64 (ol E).length)∧st.env 10=.v (.int .i64 k)∧st.env 1=.v (.func (.func 163) #[] #[]))∧((k=0∧st.env 5=.v (.slice none 0 0))∨(0<k∧∃j,st.env 5=.own 19 j∧st.heap 19 j=some (.row 87 67 ((ol E).take k).length (dE ((ol E).take k)))))∧k≤(ol E).length∧m=(ol E).length-k)
  (fun e st=>e=.exit 0∧((ol E=[]∧st.env 5=.v (.slice none 0 0))∨(ol E≠[]∧∃j,st.env 5=.own 19 j∧st.heap 19 j=some (.row 87 67 (ol E).length (dE (ol E)))))) (ol E).length ?step ?start ?rest
 case step =>
  rintro m st ⟨k,hI,hR,hk,hm⟩
  by_cases bB:(k:Int)<(ol E).length
  ·have q0:(0:Int)≤k:=by omega
   have hw:IntKind.i64.wrap ((k:Int)+1)=((k+1:Nat):Int):=by rw[qA _ (by omega) (by omega)];omega
   have ht:=XO Jb (ol E) k (by omega)
   have kk:=kg k (by omega)
   rcases hR with ⟨tP,h5⟩|⟨tP,j,h5,h6⟩
   ·have ht':[gx Jb (ol E) (k:Int)]=(ol E).take (k+1):=by rw[← ht,show (ol E).take k=[] by rw[tP,List.take_zero],List.nil_append]
    apply oN ((ol E).length-(k+1))
    ·simp only[Z8,seval,hI,h5,bB,q0,kk,Ni 15 _ _ 163,FO,hw];rfl
    ·exact⟨k+1,⟨by simp only[E8,seval,hI],by simp only[E8,seval,hI],by simp only[E8,seval],by simp only[E8,seval,hI]⟩,.inr ⟨by omega,_,by simp only[E8,seval]<;>rfl,by rw[← ht'];simp only[E8,seval]<;>rfl⟩,by omega,rfl⟩
   ·have ao:=fun s g=>Uh ((ol E).take k) (gx Jb (ol E) (k:Int)) s g (by rw[List.length_take];omega)
    apply oN ((ol E).length-(k+1))
    ·simp only[Z8,seval,hI,h5,h6,bB,q0,kk,Ni 15 _ _ 163,ao,hw];rfl
    ·exact⟨k+1,⟨by simp only[E8,seval,hI],by simp only[E8,seval,hI],by simp only[E8,seval],by simp only[E8,seval,hI]⟩,.inr ⟨by omega,_,by simp only[E8,seval]<;>rfl,by rw[← ht];simp only[E8,seval]<;>rfl⟩,by omega,rfl⟩
  ·have Fy:k=(ol E).length:=by omega
   have hF:(ol E=[]∧st.env 5=.v (.slice none 0 0))∨(ol E≠[]∧∃j,st.env 5=.own 19 j∧st.heap 19 j=some (.row 87 67 (ol E).length (dE (ol E)))):=by
    rcases hR with ⟨tP,h5⟩|⟨tP,j,h5,h6⟩
    ·exact .inl ⟨List.eq_nil_of_length_eq_zero (by omega),h5⟩
    ·exact .inr ⟨by intro h0;rw[h0] at Fy;simp at Fy;omega,j,h5,by rw[h6,Fy,List.take_length]⟩
   apply oT (.exit 0)
   ·simp only[Z8,seval,hI,bB];rfl
   ·exact⟨rfl,by simp only[E8,seval];exact hF⟩
 case start=>exact⟨0,by simp only[E8,seval]<;>exact⟨rfl,rfl,rfl,rfl⟩,.inl ⟨rfl,by simp only[E8,seval]<;>rfl⟩,by omega,by omega⟩
 case rest =>
  rintro e st ⟨rfl,hR⟩
  rcases hR with ⟨h0,h5⟩|⟨h0,j,h5,h6⟩
  ·simp only[Z8,seval,h5];cases E with
   | none=>exact bT rfl (by simp only[E8,seval]<;>rfl) (.v _)
   | some l=>exact absurd (show (some l:Option (List rQ))=some [] by rw[show l=[] from h0]) h
  ·simp only[Z8,seval,h5];cases E with
   | none=>exact absurd rfl h0
   | some l=>exact sF rfl (by simp only[E8,seval];rfl) (by simp only[E8,seval];exact h6) (sK _ jJ)
theorem aP9 (E:Option (List rQ)) (h:E≠some []) (hn:((ol E).length:Int)<1000000) (hE:∀a∈ol E,∃V,a.eU=ov aK (some V)∧V≠[]) (hA:∀a∈ol E,Cj a) (st:St) (d:Nat) :
 aN (aC Tryz.prog) 162 [ov dE E,.v (.func (.func 163) #[] #[])] st (some d)=some { dst:=some d,val:=rv d (st.aQ d) E,new:=JL d (rl 87 67 dE E)} :=
 At (fun x m=>by
  rcases List.mem_cons.1 m with rfl|m
  ·exact Vq E fun y m=>(hA y m).fl
  ·rw[List.mem_singleton.1 m];exact .v _) (aP5 E h hn hE hA)
theorem aQa (E:Option (List Table)) (h:E≠some []) (hn:((ol E).length:Int)<1000000) (hE:∀a∈ol E,∃V,a.jI=ov bC (some V)∧V≠[]) (hA:∀a∈ol E,rT a) :
 aC Tryz.prog 193 [ov aT E,.v (.func (.func 194) #[] #[])]=some (uo 118 34 aT E):=by
 have jJ:∀y∈ol E,Flat y.jI:=fun y m=>(hA y m).fl
 have kg:∀k:Nat,k<(ol E).length→∀(st:St) (d:Option Nat),aN (aC Tryz.prog) 194 [.agg (cA (gx iT (ol E) (k:Int)))] st d=some { dst:=d,val:=.agg (cA (gx iT (ol E) (k:Int)))}:=by
  intro k hk st d;have hm:gx iT (ol E) (k:Int)∈ol E:=by
   have:gx iT (ol E) (k:Int)=(ol E)[k]:=by simp[gx,hk]
   rw[this];exact List.getElem_mem hk
  obtain⟨V,hV,hV2⟩:=hE _ hm
  obtain⟨V',hV',Fz⟩:=hA _ hm
  have hfa:Flat (.agg (cA (gx iT (ol E) (k:Int)))):=(jZ _).2 (hA _ hm).fl
  have e0:((ol (some V)).length:Int)<1000000:=by
   have h0:ov bC (some V)=ov bC V':=by rw[← hV,← hV']
   cases V' with
   | none=>cases h0
   | some W =>
     simp only[ov,AV.sl.injEq] at h0;simp only[ol,Option.getD_some] at Fz ⊢
     omega
  exact kx (aP4 _ (some V) hV (by simpa using hV2) e0) (cO hfa) hfa st d
 have hu:([ov aT E,.v (.func (.func 194) #[] #[])]:List AV).any tM=false:=by cases E<;>rfl
 rw[cL Tryz.func193 rfl aLe hu];simp only[Z8,seval];refine mH (fun m st=>∃k:Nat,(st.env 8=ov aT E∧st.env 9=.v (.int .i64 (ol E).length)∧st.env 10=.v (.int .i64 k)∧st.env 1=.v (.func (.func 194) #[] #[]))∧((k=0∧st.env 5=.v (.slice none 0 0))∨(0<k∧∃j,st.env 5=.own 19 j∧st.heap 19 j=some (.row 118 34 ((ol E).take k).length (aT ((ol E).take k)))))∧k≤(ol E).length∧m=(ol E).length-k)
  (fun e st=>e=.exit 0∧((ol E=[]∧st.env 5=.v (.slice none 0 0))∨(ol E≠[]∧∃j,st.env 5=.own 19 j∧st.heap 19 j=some (.row 118 34 (ol E).length (aT (ol E)))))) (ol E).length ?step ?start ?rest
 case step =>
  rintro m st ⟨k,hI,hR,hk,hm⟩
  by_cases bB:(k:Int)<(ol E).length
  ·have q0:(0:Int)≤k:=by omega
   have hw:IntKind.i64.wrap ((k:Int)+1)=((k+1:Nat):Int):=by rw[qA _ (by omega) (by omega)];omega
   have ht:=XO iT (ol E) k (by omega)
   have kk:=kg k (by omega)
   rcases hR with ⟨tP,h5⟩|⟨tP,j,h5,h6⟩
   ·have ht':[gx iT (ol E) (k:Int)]=(ol E).take (k+1):=by rw[← ht,show (ol E).take k=[] by rw[tP,List.take_zero],List.nil_append]
    apply oN ((ol E).length-(k+1))
    ·simp only[Z8,seval,hI,h5,bB,q0,kk,Ni 15 _ _ 194,DO,hw];rfl
    ·exact⟨k+1,⟨by simp only[E8,seval,hI],by simp only[E8,seval,hI],by simp only[E8,seval],by simp only[E8,seval,hI]⟩,.inr ⟨by omega,_,by simp only[E8,seval]<;>rfl,by rw[← ht'];simp only[E8,seval]<;>rfl⟩,by omega,rfl⟩
   ·have ao:=fun s g=>Px ((ol E).take k) (gx iT (ol E) (k:Int)) s g (by rw[List.length_take];omega)
    apply oN ((ol E).length-(k+1))
    ·simp only[Z8,seval,hI,h5,h6,bB,q0,kk,Ni 15 _ _ 194,ao,hw];rfl
    ·exact⟨k+1,⟨by simp only[E8,seval,hI],by simp only[E8,seval,hI],by simp only[E8,seval],by simp only[E8,seval,hI]⟩,.inr ⟨by omega,_,by simp only[E8,seval]<;>rfl,by rw[← ht];simp only[E8,seval]<;>rfl⟩,by omega,rfl⟩
  ·have Fy:k=(ol E).length:=by omega
   have hF:(ol E=[]∧st.env 5=.v (.slice none 0 0))∨(ol E≠[]∧∃j,st.env 5=.own 19 j∧st.heap 19 j=some (.row 118 34 (ol E).length (aT (ol E)))):=by
    rcases hR with ⟨tP,h5⟩|⟨tP,j,h5,h6⟩
    ·exact .inl ⟨List.eq_nil_of_length_eq_zero (by omega),h5⟩
    ·exact .inr ⟨by intro h0;rw[h0] at Fy;simp at Fy;omega,j,h5,by rw[h6,Fy,List.take_length]⟩
   apply oT (.exit 0)
   ·simp only[Z8,seval,hI,bB];rfl
   ·exact⟨rfl,by simp only[E8,seval];exact hF⟩
 case start=>exact⟨0,by simp only[E8,seval]<;>exact⟨rfl,rfl,rfl,rfl⟩,.inl ⟨rfl,by simp only[E8,seval]<;>rfl⟩,by omega,by omega⟩
 case rest =>
  rintro e st ⟨rfl,hR⟩
  rcases hR with ⟨h0,h5⟩|⟨h0,j,h5,h6⟩
  ·simp only[Z8,seval,h5];cases E with
   | none=>exact bT rfl (by simp only[E8,seval]<;>rfl) (.v _)
   | some l=>exact absurd (show (some l:Option (List Table))=some [] by rw[show l=[] from h0]) h
  ·simp only[Z8,seval,h5];cases E with
   | none=>exact absurd rfl h0
   | some l=>exact sF rfl (by simp only[E8,seval];rfl) (by simp only[E8,seval];exact h6) (lR _ jJ)
theorem aQb (E:Option (List Table)) (h:E≠some []) (hn:((ol E).length:Int)<1000000) (hE:∀a∈ol E,∃V,a.jI=ov bC (some V)∧V≠[]) (hA:∀a∈ol E,rT a) (st:St) (d:Nat) :
 aN (aC Tryz.prog) 193 [ov aT E,.v (.func (.func 194) #[] #[])] st (some d)=some { dst:=some d,val:=rv d (st.aQ d) E,new:=JL d (rl 118 34 aT E)} :=
 At (fun x m=>by
  rcases List.mem_cons.1 m with rfl|m
  ·exact lQ E fun y m=>(hA y m).fl
  ·rw[List.mem_singleton.1 m];exact .v _) (aQa E h hn hE hA)
theorem Wq (f:Nat→AV→AV × List nD) (c:Nat) (xs ys:List AV):pP f c (xs++ys)=((pP f c xs).1++(pP f (c+(pP f c xs).2.length) ys).1,(pP f c xs).2++(pP f (c+(pP f c xs).2.length) ys).2):=by
 induction xs generalizing c with
 | nil=>simp[pP]
 | cons x xs ih=>simp only[List.cons_append,pP,ih,List.length_append,Nat.add_assoc,List.append_assoc]
theorem Ir (d c:Nat) {x:AV} (h:Flat x):xF d c x=(x,[]):=by cases h<;>rfl
theorem rE (d c:Nat) {xs:List AV} (h:∀x∈xs,Flat x):pP (xF d) c xs=(xs,[]):=by
 induction xs generalizing c with
 | nil=>rfl
 | cons x xs ih=>simp only[pP,Ir d c (h x (by simp)),List.length_nil,Nat.add_zero,ih c fun y m=>h y (by simp[m]),List.nil_append]
theorem Uj {α:Type} (d c e sz:Nat) (cs:List α→List AV) (L:Option (List α)):pP (xF d) c [uo e sz cs L]=([rv d c L],rl e sz cs L):=by cases L<;>rfl
theorem FW {call:Nat→List AV→Option AV} {g d:Nat} {args cs:List AV} {st:St} (hf:∀x∈args,Flat x) (h:call g args=some (.agg cs)) (hn:Flat (.agg cs)∨(pP (xF d) (st.aQ d) cs).2≠[]) :
 aN call g args st (some d)=some { dst:=some d,val:=.agg (pP (xF d) (st.aQ d) cs).1,new:=JL d (pP (xF d) (st.aQ d) cs).2 }:=by
 unfold aN;rw[if_pos hf,h,cU];unfold iW;by_cases hF:Flat (.agg cs)
 ·have hc:∀x∈cs,Flat x:=by cases hF with|agg _ h=>exact h
  rw[if_pos hF,rE d _ hc];rfl
 ·rw[if_neg hF];have h2:=hn.resolve_left hF
  simp only[JL,if_neg h2];rfl
noncomputable def Tc (st:St) (cs:List AV):Option (List AV):=cE (cs.map (kE st))
theorem Ws (st:St) (a b:List AV):Tc st (a++b)=cD (Tc st a) fun x=>cD (Tc st b) fun y=>some (x++y):=by
 unfold Tc;induction a with
 | nil=>simp[cE,cD];cases cE (b.map (kE st))<;>rfl
 | cons c a ih =>
   simp only[List.cons_append,List.map_cons];cases kE st c with
   | none=>rfl
   | some c' =>
     simp only[cE,ih];cases cE (a.map (kE st))<;>simp[cD]<;>cases cE (b.map (kE st))<;>rfl
theorem tA {st:St} {cs:List AV} (h:∀c∈cs,Flat c):Tc st cs=some cs:=by
 unfold Tc;induction cs with
 | nil=>rfl
 | cons c cs ih =>
   have h1:kE st c=some c:=if_pos (h c (by simp))
   simp only[List.map_cons,h1,cE,ih fun x hx=>h x (by simp[hx]),Option.map_some]
theorem qO {st:St} {x y:AV} (h:kE st x=some y):Tc st [x]=some [y]:=by simp only[Tc,List.map_cons,List.map_nil,h,cE,Option.map_some]
theorem Qh {st:St} {cs ys:List AV} (h:Tc st cs=some ys):Cb st (.agg cs)=some (.agg ys):=by
 show (cE (cs.map (kE st))).map AV.agg=_
 rw[show cE (cs.map (kE st))=some ys from h];rfl
theorem MF {x:AV} (h:Flat x):gH x=[]:=by cases h<;>rfl
theorem nC {cs:List AV} (h:∀c∈cs,Flat c):cs.flatMap gH=[]:=by
 induction cs with
 | nil=>rfl
 | cons c cs ih=>rw[List.flatMap_cons,MF (h c (by simp)),ih fun x hx=>h x (by simp[hx]),List.nil_append]
theorem DP {α:Type} (d k:Nat) (L:Option (List α)):gH (rv d k L)=if L.isSome then [(d,k)] else []:=by cases L<;>rfl
theorem O3 (st:St) (g:Nat):st.ev (.func g)=.v (.func (.func g) #[] #[]):=rfl
theorem aQc (T:Option (List Table)) (h:T≠some []) (hn:((ol T).length:Int)<1000000) (hE:∀a∈ol T,∃V,a.jI=ov bC (some V)∧V≠[]) (hA:∀a∈ol T,rT a):aC Tryz.prog 166 [ov aT T]=some (uo 118 34 aT T):=by
 have jJ:∀y∈ol T,Flat y.jI:=fun y m=>(hA y m).fl
 rw[cL Tryz.func166 rfl aLf (by cases T<;>rfl)]
 simp only[Z8,seval,O3,aQb T h hn hE hA,NW];cases T with
 | none=>exact bT rfl (by simp only[E8,seval]<;>rfl) (.v _)
 | some l=>exact sF rfl (by simp only[E8,seval]<;>rfl) (by simp only[E8,seval,yA,rl,List.length_cons,Nat.lt_add_left_iff_pos,Nat.zero_lt_succ,if_true]<;>rfl) (lR _ jJ)
theorem aQd (T:Option (List Table)) (h:T≠some []) (hn:((ol T).length:Int)<1000000) (hE:∀a∈ol T,∃V,a.jI=ov bC (some V)∧V≠[]) (hA:∀a∈ol T,rT a) (st:St) (d:Nat) :
 aN (aC Tryz.prog) 166 [ov aT T] st (some d)=some { dst:=some d,val:=rv d (st.aQ d) T,new:=JL d (rl 118 34 aT T)}:=At (cO (lQ T fun y m=>(hA y m).fl)) (aQc T h hn hE hA)
theorem aQe (L:Option (List kF)) (Q:Option (List Int)) (h1:L≠some []) (h2:Q≠some []) (n1:((ol L).length:Int)<1000000) (n2:((ol Q).length:Int)<1000000) :
 aC Tryz.prog 161 [.agg (eZ ⟨ov cK L,ov aK Q⟩)]=some (.agg (eZ ⟨uo 100 34 cK L,uo 3 1 aK Q⟩)):=by
 rw[cL Tryz.func161 rfl aLg rfl];simp only[Z8,seval,aPY L h1 n1,aK8 Q h2 n2,NW];refine Mq rfl (.inl rfl) rfl (x:=.agg (eZ ⟨rv 5 0 L,rv 8 0 Q⟩)) (by simp only[bJ,Z8,seval,NW]) ?_ (Qh ?_)
 ·simp only[lP,iZ,eZ,List.flatMap_append,List.flatMap_cons,List.flatMap_nil,List.append_nil,DP];cases L<;>cases Q<;>simp
 ·unfold eZ;rw[Ws,qO (iQ (e:=100) (sz:=34) (c:=cK) ?_ fun l _=>mX l),cU,qO (iQ (e:=3) (sz:=1) (c:=aK) ?_ fun l _=>gD l),cU]
  ·intro l hl;subst hl;simp only[E8,seval,yA,rl,List.length_cons,Nat.lt_add_left_iff_pos,Nat.zero_lt_succ,if_true]<;>rfl
  ·intro l hl;subst hl;simp only[E8,seval,yA,rl,List.length_cons,Nat.lt_add_left_iff_pos,Nat.zero_lt_succ,if_true]<;>rfl
theorem Wt (d c:Nat) (L:Option (List kF)) (Q:Option (List Int)):pP (xF d) c (eZ ⟨uo 100 34 cK L,uo 3 1 aK Q⟩)=(eZ ⟨rv d c L,rv d (c+(rl 100 34 cK L).length) Q⟩,rl 100 34 cK L++rl 3 1 aK Q):=by
 unfold eZ;rw[Wq,Uj,Uj]
theorem aQf (L:Option (List kF)) (Q:Option (List Int)) (h1:L≠some []) (h2:Q≠some []) (n1:((ol L).length:Int)<1000000) (n2:((ol Q).length:Int)<1000000) (st:St) (d:Nat) :
 aN (aC Tryz.prog) 161 [.agg (eZ ⟨ov cK L,ov aK Q⟩)] st (some d)=some { dst:=some d,val:=.agg (eZ ⟨rv d (st.aQ d) L,rv d (st.aQ d+(rl 100 34 cK L).length) Q⟩),new:=JL d (rl 100 34 cK L++rl 3 1 aK Q)}:=by
 rw[FW (cO (.agg _ (qE _ (qJ L) (bO Q)))) (aQe L Q h1 h2 n1 n2) ?_,Wt];rw[Wt];cases L with
 | some l=>exact .inr (by simp[rl])
 | none =>
   cases Q with
   | some q=>exact .inr (by simp[rl])
   | none=>exact .inl (.agg _ (qE _ (.v _) (.v _)))
def QT (s:aP) (b l q e o n t:AV):aP:={ s with cFg:={ s.cFg with jI:=b },fV:=⟨l,q⟩,dM:=⟨e,o⟩,tree:=⟨n⟩,tables:=t }
theorem Wu {st:St} (s:aP) {b l q e o n t b' l' q' e' o' n' t':AV} (h1:kE st b=some b') (h2:kE st l=some l') (h3:kE st q=some q') (h4:kE st e=some e') (h5:kE st o=some o') (h6:kE st n=some n') (h7:kE st t=some t') :
 Tc st (aB (QT s b l q e o n t))=some (aB (QT s b' l' q' e' o' n' t')):=by
 simp only[QT,aB,bS,eZ,jP,mI,Ws,qO h1,qO h2,qO h3,qO h4,qO h5,qO h6,qO h7,tA (tW _),tA (eC _),tA (iJ _),tA (dP _),tA (lC _),cU]
theorem Jr (s:aP) (b l q e o n t:AV):(aB (QT s b l q e o n t)).flatMap gH=gH b++(gH l++(gH q++(gH e++(gH o++(gH n++gH t))))):=by
 simp only[QT,aB,bS,eZ,jP,mI,List.flatMap_append,List.flatMap_cons,List.flatMap_nil,List.append_nil,nC (tW _),nC (eC _),nC (iJ _),nC (dP _),nC (lC _),List.nil_append,List.append_assoc]
theorem xM {α:Type} (e sz:Nat) (c:List α→List AV) (l:List α):rl e sz c (some l)=[.row e sz l.length (c l)]:=rfl
theorem aQg {s:aP} {v:SV} (hs:SD s v) (gT:NEv v) (hB:v.B≠some []) (hL:v.L≠some []) (ht:0<v.ns.length) :
 aC Tryz.prog 109 [.agg (aB s)]=some (.agg (aB (QT s (uo 23 1 bC v.B) (uo 100 34 cK v.L) (uo 3 1 aK v.Q) (uo 87 67 dE v.E) (uo 74 238 aJ v.O) (.uniq 76 240 v.ns.length (cC v.ns)) (uo 118 34 aT v.T)))):=by
 have hv:s.fV=⟨ov cK v.L,ov aK v.Q⟩:=by
  have h1:=hs.dV
  have h2:=hs.gU
  cases hc:s.fV with
  | mk a b=>rw[hc] at h1 h2;simp only at h1 h2;rw[h1,h2]
 rw[cL Tryz.func109 rfl aLh rfl];simp only[Z8,seval,hs.jI,hv,hs.early,hs.bU,hs.tree,hs.tables,O3,NW,aK7 v.B hB hs.nB,aQf v.L v.Q hL gT.q hs.nL hs.nQ,aP9 v.E gT.e hs.nE gT.ea hs.eV,aP1 v.O gT.o hs.nO,aNE v.ns ht hs.nn,aQd v.T gT.t hs.nT gT.tb hs.tB];refine Mq rfl (.inl rfl) rfl (x:=.agg (aB (QT s (rv 6 0 v.B) (rv 11 0 v.L) (rv 11 (rl 100 34 cK v.L).length v.Q) (rv 16 0 v.E) (rv 22 0 v.O) (.own 27 0) (rv 31 0 v.T)))) ?x1 ?x2 (Qh (Wu s ?b1 ?l1 ?q1 ?e1 ?o1 ?n1 ?t1))
 case x1=>simp only[bJ,Z8,seval,NW,QT]
 case x2 =>
  show ((aB _).flatMap gH).Nodup
  rw[Jr];simp only[DP,show ∀a b,gH (.own a b)=[(a,b)] from fun _ _=>rfl]
  cases v.B<;>cases hvl:v.L<;>cases v.Q<;>cases v.E<;>cases v.O<;>cases v.T<;>simp[rl]
 case b1=>exact iQ (fun l hl=>by simp only[E8,seval,NW,hl,xM,List.length_cons,List.length_nil,Nat.lt_add_left_iff_pos,Nat.zero_lt_succ,if_true]<;>rfl) fun l _=>hU l
 case l1 =>
  refine iQ (fun l hl=>?_) fun l _=>mX l
  simp only[E8,seval,NW,hl,xM];simp
 case q1 =>
  refine iQ (fun l hl=>?_) fun l _=>gD l
  simp only[E8,seval,NW,hl,xM];simp
 case e1=>exact iQ (fun l hl=>by simp only[E8,seval,NW,hl,xM,List.length_cons,List.length_nil,Nat.lt_add_left_iff_pos,Nat.zero_lt_succ,if_true]<;>rfl) fun l hl=>sK l fun y m=>(hs.eV y (by rw[hl];exact m)).fl
 case o1=>exact iQ (fun l hl=>by simp only[E8,seval,NW,hl,xM,List.length_cons,List.length_nil,Nat.lt_add_left_iff_pos,Nat.zero_lt_succ,if_true]<;>rfl) fun l _=>oX l
 case n1=>exact iQ (L:=some v.ns) (fun l hl=>by cases hl;simp only[E8,seval,NW,xM,List.length_cons,List.length_nil,Nat.lt_add_left_iff_pos,Nat.zero_lt_succ,if_true]<;>rfl) fun l _=>lB l
 case t1=>exact iQ (fun l hl=>by simp only[E8,seval,NW,hl,xM,List.length_cons,List.length_nil,Nat.lt_add_left_iff_pos,Nat.zero_lt_succ,if_true]<;>rfl) fun l hl=>lR l fun y m=>(hs.tB y (by rw[hl];exact m)).fl
theorem O4 (d c e sz n:Nat) (cs:List AV):pP (xF d) c [.uniq e sz n cs]=([.own d c],[.row e sz n cs]):=rfl
def Gc (v:SV):List nD:=rl 23 1 bC v.B++(rl 100 34 cK v.L++(rl 3 1 aK v.Q++(rl 87 67 dE v.E++(rl 74 238 aJ v.O++([.row 76 240 v.ns.length (cC v.ns)]++rl 118 34 aT v.T)))))
def nB (v:SV):Nat:=(rl 23 1 bC v.B).length
def nL (v:SV):Nat:=nB v+(rl 100 34 cK v.L).length
def nQ (v:SV):Nat:=nL v+(rl 3 1 aK v.Q).length
def nE (v:SV):Nat:=nQ v+(rl 87 67 dE v.E).length
def nO (v:SV):Nat:=nE v+(rl 74 238 aJ v.O).length
def p7 (s:aP) (v:SV) (d c:Nat):aP:=QT s (rv d c v.B) (rv d (c+nB v) v.L) (rv d (c+nL v) v.Q) (rv d (c+nQ v) v.E) (rv d (c+nE v) v.O) (.own d (c+nO v)) (rv d (c+nO v+1) v.T)
theorem La (s:aP) (v:SV) (d c:Nat):pP (xF d) c (aB (QT s (uo 23 1 bC v.B) (uo 100 34 cK v.L) (uo 3 1 aK v.Q) (uo 87 67 dE v.E) (uo 74 238 aJ v.O) (.uniq 76 240 v.ns.length (cC v.ns)) (uo 118 34 aT v.T)))=(aB (p7 s v d c),Gc v):=by
 simp only[QT,p7,aB,bS,eZ,jP,mI,Wq,Uj,O4,rE d _ (tW _),rE d _ (eC _),rE d _ (iJ _),rE d _ (dP _),rE d _ (lC _),List.nil_append,List.length_nil,Nat.add_zero,List.append_assoc,List.length_append,List.length_cons,Gc,nO,nE,nQ,nL,nB,Nat.add_assoc,List.append_nil]
theorem aQh {s:aP} {v:SV} (hs:SD s v) (gT:NEv v) (hB:v.B≠some []) (hL:v.L≠some []) (ht:0<v.ns.length) (st:St) (d:Nat) :
 aN (aC Tryz.prog) 109 [.agg (aB s)] st (some d)=some { dst:=some d,val:=.agg (aB (p7 s v d (st.aQ d))),new:=some (d,Gc v)}:=by
 have h0:Gc v≠[]:=by simp[Gc]
 rw[FW (cO hs.flat) (aQg hs gT hB hL ht) (by rw[La];exact .inr h0),La]
 simp only[JL,if_neg h0]
theorem O5 (x:Option Nat) (y:AV) (d:Nat) (v:SV) (st:St):({ dst:=x,val:=y,new:=some (d,Gc v)}:qT).apply st=(st.news d (Gc v)).put x y:=rfl
theorem XP {α:Type} (d k:Nat) (l:List α):rv d k (some l)=.own d k:=rfl
theorem lU {α:Type} (a b:List α) (n i:Nat) (h:n=a.length+i):(a++b)[n]? = b[i]?:=by
 rw[h,List.getElem?_append_right (by omega)]
 congr 1
 omega
theorem aLi (v:SV) (l:List Int) (h:v.B=some l):(Gc v)[0]? = some (.row 23 1 l.length (bC l)):=by simp[Gc,h,rl]
theorem aLj (v:SV) (l:List kF) (h:v.L=some l):(Gc v)[nB v]? = some (.row 100 34 l.length (cK l)):=by
 unfold Gc;rw[lU _ _ _ 0 (by simp[nB]),h];rfl
theorem aLk (v:SV) (l:List Int) (h:v.Q=some l):(Gc v)[nL v]? = some (.row 3 1 l.length (aK l)):=by
 unfold Gc;rw[lU _ _ _ _ (show nL v=_+_ from rfl),lU _ _ _ 0 (by simp),h];rfl
theorem aLl (v:SV) (l:List rQ) (h:v.E=some l):(Gc v)[nQ v]? = some (.row 87 67 l.length (dE l)):=by
 unfold Gc;rw[lU _ _ _ ((rl 100 34 cK v.L).length+(rl 3 1 aK v.Q).length) (by simp[nQ,nL,nB,Nat.add_assoc]),lU _ _ _ _ rfl,lU _ _ _ 0 (by simp),h];rfl
theorem aLm (v:SV) (l:List Block) (h:v.O=some l):(Gc v)[nE v]? = some (.row 74 238 l.length (aJ l)):=by
 unfold Gc;rw[lU _ _ _ ((rl 100 34 cK v.L).length+((rl 3 1 aK v.Q).length+(rl 87 67 dE v.E).length)) (by simp[nE,nQ,nL,nB,Nat.add_assoc]),lU _ _ _ _ rfl,lU _ _ _ _ rfl,lU _ _ _ 0 (by simp),h];rfl
theorem aLn (v:SV):(Gc v)[nO v]? = some (.row 76 240 v.ns.length (cC v.ns)):=by
 unfold Gc;rw[lU _ _ _ ((rl 100 34 cK v.L).length+((rl 3 1 aK v.Q).length+((rl 87 67 dE v.E).length+(rl 74 238 aJ v.O).length))) (by simp[nO,nE,nQ,nL,nB,Nat.add_assoc]),lU _ _ _ _ rfl,lU _ _ _ _ rfl,lU _ _ _ _ rfl,lU _ _ _ 0 (by simp)];rfl
theorem aLo (v:SV) (l:List Table) (h:v.T=some l):(Gc v)[nO v+1]? = some (.row 118 34 l.length (aT l)):=by
 unfold Gc;rw[lU _ _ _ ((rl 100 34 cK v.L).length+((rl 3 1 aK v.Q).length+((rl 87 67 dE v.E).length+((rl 74 238 aJ v.O).length+1)))) (by simp[nO,nE,nQ,nL,nB,Nat.add_assoc]),lU _ _ _ _ rfl,lU _ _ _ _ rfl,lU _ _ _ _ rfl,lU _ _ _ _ rfl,lU _ _ _ 0 (by simp),h];rfl
theorem JM (x:Int):(x != x)=false:=by simp
theorem G3 (x:Int):(x == x)=true:=by simp
theorem aQi (o:Option (List Int)) (hn:((ol o).length:Int)<1000000):aC Tryz.prog 103 [ov bC o,ov bC o]=some (.v (.bool true)):=by
 rw[cL Tryz.func103 rfl aD0 (by cases o<;>rfl)]
 refine jR ?_
 simp only[Z8,seval,JM];refine cH (fun m st=>∃k:Nat,(st.env 0=ov bC o∧st.env 1=ov bC o∧st.env 5=.v (.int .i64 k))∧k≤(ol o).length∧m=(ol o).length-k)
  (fun e st=>e=.exit 0) (ol o).length ?step ?start ?rest
 case step =>
  rintro m st ⟨k,hI,hk,hm⟩
  by_cases bB:(k:Int)<(ol o).length
  ·have q0:(0:Int)≤k:=by omega
   have hw:IntKind.i64.wrap ((k:Int)+1)=((k+1:Nat):Int):=by rw[qA _ (by omega) (by omega)];omega
   apply oN ((ol o).length-(k+1))
   ·simp only[Z8,seval,hI,bB,q0,JM,hw];rfl
   ·exact⟨k+1,by simp only[E8,seval,hI],by omega,rfl⟩
  ·apply oT (.exit 0)
   ·simp only[Z8,seval,hI,bB];rfl
   ·exact rfl
 case start=>exact⟨0,by simp only[E8,seval]<;>exact⟨rfl,rfl,rfl⟩,by omega,by omega⟩
 case rest =>
  rintro e st rfl
  simp only[Z8,seval];exact⟨_,bT rfl (by simp only[E8,seval]<;>rfl) (by first|exact .v _|simp only[dY]),rfl⟩
theorem L3 (o:Option (List Int)) (hn:((ol o).length:Int)<1000000) (st:St) (d:Option Nat):aN (aC Tryz.prog) 103 [ov bC o,ov bC o] st d=some { dst:=d,val:=.v (.bool true)}:=bI (bE (dR o) (dR o)) (aQi o hn) (.v _)
theorem aQj (o:Option (List kF)) (hn:((ol o).length:Int)<1000000):aC Tryz.prog 104 [ov cK o,ov cK o]=some (.v (.bool true)):=by
 rw[cL Tryz.func104 rfl aLp (by cases o<;>rfl)]
 refine jR ?_
 simp only[Z8,seval,JM];refine cH (fun m st=>∃k:Nat,(st.env 0=ov cK o∧st.env 1=ov cK o∧st.env 5=.v (.int .i64 k))∧k≤(ol o).length∧m=(ol o).length-k)
  (fun e st=>e=.exit 0) (ol o).length ?step ?start ?rest
 case step =>
  rintro m st ⟨k,hI,hk,hm⟩
  by_cases bB:(k:Int)<(ol o).length
  ·have q0:(0:Int)≤k:=by omega
   have hw:IntKind.i64.wrap ((k:Int)+1)=((k+1:Nat):Int):=by rw[qA _ (by omega) (by omega)];omega
   apply oN ((ol o).length-(k+1))
   ·simp only[Z8,seval,hI,bB,q0,JM,hw];rfl
   ·exact⟨k+1,by simp only[E8,seval,hI],by omega,rfl⟩
  ·apply oT (.exit 0)
   ·simp only[Z8,seval,hI,bB];rfl
   ·exact rfl
 case start=>exact⟨0,by simp only[E8,seval]<;>exact⟨rfl,rfl,rfl⟩,by omega,by omega⟩
 case rest =>
  rintro e st rfl
  simp only[Z8,seval];exact⟨_,bT rfl (by simp only[E8,seval]<;>rfl) (by first|exact .v _|simp only[dY]),rfl⟩
theorem aLq (o:Option (List kF)) (hn:((ol o).length:Int)<1000000) (st:St) (d:Option Nat):aN (aC Tryz.prog) 104 [ov cK o,ov cK o] st d=some { dst:=d,val:=.v (.bool true)}:=bI (bE (qJ o) (qJ o)) (aQj o hn) (.v _)
theorem aLr (o:Option (List Int)) (hn:((ol o).length:Int)<1000000):aC Tryz.prog 105 [ov aK o,ov aK o]=some (.v (.bool true)):=by
 rw[cL Tryz.func105 rfl aDZ (by cases o<;>rfl)]
 refine jR ?_
 simp only[Z8,seval,JM];refine cH (fun m st=>∃k:Nat,(st.env 0=ov aK o∧st.env 1=ov aK o∧st.env 5=.v (.int .i64 k))∧k≤(ol o).length∧m=(ol o).length-k)
  (fun e st=>e=.exit 0) (ol o).length ?step ?start ?rest
 case step =>
  rintro m st ⟨k,hI,hk,hm⟩
  by_cases bB:(k:Int)<(ol o).length
  ·have q0:(0:Int)≤k:=by omega
   have hw:IntKind.i64.wrap ((k:Int)+1)=((k+1:Nat):Int):=by rw[qA _ (by omega) (by omega)];omega
   apply oN ((ol o).length-(k+1))
   ·simp only[Z8,seval,hI,bB,q0,JM,hw];rfl
   ·exact⟨k+1,by simp only[E8,seval,hI],by omega,rfl⟩
  ·apply oT (.exit 0)
   ·simp only[Z8,seval,hI,bB];rfl
   ·exact rfl
 case start=>exact⟨0,by simp only[E8,seval]<;>exact⟨rfl,rfl,rfl⟩,by omega,by omega⟩
 case rest =>
  rintro e st rfl
  simp only[Z8,seval];exact⟨_,bT rfl (by simp only[E8,seval]<;>rfl) (by first|exact .v _|simp only[dY]),rfl⟩
theorem O6 (o:Option (List Int)) (hn:((ol o).length:Int)<1000000) (st:St) (d:Option Nat):aN (aC Tryz.prog) 105 [ov aK o,ov aK o] st d=some { dst:=d,val:=.v (.bool true)}:=bI (bE (bO o) (bO o)) (aLr o hn) (.v _)
theorem aQk (a:rQ) (V:Option (List Int)) (ha:a.eU=ov aK V) (hn:((ol V).length:Int)<1000000):aC Tryz.prog 108 [.agg (gV a),.agg (gV a)]=some (.v (.bool true)):=by
 rw[cL Tryz.func108 rfl aD1 rfl];refine jR ?_
 simp only[Z8,seval,ha,G3,O6 V hn];exact⟨_,bT rfl (by simp only[E8,seval]<;>rfl) (by first|exact .v _|simp only[dY]),rfl⟩
theorem aQl (a:rQ) (h:Cj a) (st:St) (d:Option Nat):aN (aC Tryz.prog) 108 [.agg (gV a),.agg (gV a)] st d=some { dst:=d,val:=.v (.bool true)}:=by
 obtain⟨V,ha,hl⟩:=h
 have hf:Flat (.agg (gV a)):=(yN a).2 (by rw[ha];exact bO V)
 exact bI (bE hf hf) (aQk a V ha hl) (.v _)
theorem aQm (a:Table) (V:Option (List Int)) (ha:a.jI=ov bC V) (hn:((ol V).length:Int)<1000000):aC Tryz.prog 159 [.agg (cA a),.agg (cA a)]=some (.v (.bool true)):=by
 rw[cL Tryz.func159 rfl aD2 rfl];refine jR ?_
 simp only[Z8,seval,ha,G3,L3 V hn];exact⟨_,bT rfl (by simp only[E8,seval]<;>rfl) (by first|exact .v _|simp only[dY]),rfl⟩
theorem aQn (a:Table) (h:rT a) (st:St) (d:Option Nat):aN (aC Tryz.prog) 159 [.agg (cA a),.agg (cA a)] st d=some { dst:=d,val:=.v (.bool true)}:=by
 obtain⟨V,ha,hl⟩:=h
 have hf:Flat (.agg (cA a)):=(jZ a).2 (by rw[ha];exact dR V)
 exact bI (bE hf hf) (aQm a V ha hl) (.v _)
theorem aQo (o:Option (List Table)) (hn:((ol o).length:Int)<1000000) (hA:∀a∈ol o,rT a):aC Tryz.prog 107 [ov aT o,ov aT o]=some (.v (.bool true)):=by
 rw[cL Tryz.func107 rfl aLs (by cases o<;>rfl)]
 refine jR ?_
 simp only[Z8,seval,JM,G3];refine cH (fun m st=>∃k:Nat,(st.env 0=ov aT o∧st.env 1=ov aT o∧st.env 5=.v (.int .i64 k))∧k≤(ol o).length∧m=(ol o).length-k)
  (fun e st=>e=.exit 0) ((ol o).length) ?step ?start ?rest
 case step =>
  rintro m st ⟨k,hI,hk,hm⟩
  by_cases bB:(k:Int)<((ol o).length:Nat)
  ·have q0:(0:Int)≤k:=by omega
   have hw:IntKind.i64.wrap ((k:Int)+1)=((k+1:Nat):Int):=by rw[qA _ (by omega) (by omega)];omega
   have kk:=aQn _ (hA _ (uY (z:=iT) q0 bB))
   apply oN ((ol o).length-(k+1))
   ·simp only[Z8,seval,hI,bB,q0,kk,JM,hw,G3];rfl
   ·exact⟨k+1,by simp only[E8,seval,hI],by omega,rfl⟩
  ·apply oT (.exit 0)
   ·simp only[Z8,seval,hI,bB,G3];rfl
   ·exact rfl
 case start=>exact⟨0,by simp only[E8,seval]<;>exact⟨rfl,rfl,rfl⟩,by omega,by omega⟩
 case rest =>
  rintro e st rfl
  simp only[Z8,seval];exact⟨_,bT rfl (by simp only[E8,seval]<;>rfl) (by first|exact .v _|simp only[dY]),rfl⟩
theorem aLt (o:Option (List Table)) (hn:((ol o).length:Int)<1000000) (hA:∀a∈ol o,rT a) (st:St) (d:Option Nat):aN (aC Tryz.prog) 107 [ov aT o,ov aT o] st d=some { dst:=d,val:=.v (.bool true)} :=
 bI (bE (lQ o fun y m=>(hA y m).fl) (lQ o fun y m=>(hA y m).fl)) (aQo o hn hA) (.v _)
theorem p8 {call:Nat→List AV→Option AV} {ops:Array Oper} {st:St} {T:Nat} {pos:String} {eN:Array Edge} (s x:Operand):bZ Tryz.prog call ops ⟨some 26,.call ⟨.builtin .append,#[s,x],#[54,54]⟩,T,pos,eN,none⟩ st=cD (kM Tryz.prog st 54 (st.ev s) (st.ev x)) fun u =>
 some ((st.jM u.1 u.2.1 (some u.2.2.1)).put (some 26) (.vw u.1 u.2.1 0 u.2.2.2)):=TC s x 54 26 (aBE rfl)
theorem Lb (L:List Request) (k:Nat):(aA L).take (k * 35)=aA (L.take k):=xH (c:=bK) (sz:=35) fY L k
theorem Wv (L:List Request) (k:Nat):(aA L).drop (k * 35)=aA (L.drop k):=xI (c:=bK) (sz:=35) fY L k
theorem DQ (a b:List Request):aA (a++b)=aA a++aA b:=by simp[aA]
theorem Js (l:List Request):∀c∈aA l,fM c:=by
 intro c hc;obtain⟨x,_,hx⟩:=List.mem_flatMap.1 hc
 exact FX x c hx
theorem c81 (L:List Request) (i j:Nat) (hij:i≤j) (hj:j≤L.length) (hn:(L.length:Int)<1000000) :
 aC Tryz.prog 81 [.uniq 63 35 L.length (aA L),.v (.int .i64 i),.v (.int .i64 j)]=some (.uniq 63 35 (L.take i++L.drop j).length (aA (L.take i++L.drop j))):=by
 rw[Ik Tryz.prog Tryz.func81 rfl aQp _ _ _ _ _ (rV _ _)];have a3:(0:Int)≤i∧(i:Int)≤j∧(j:Int)≤L.length∧(L.length:Int)≤L.length:=by omega
 have s3:∀(st:St) (lo hi mx:Operand),st.heap 0 0=some (.row 63 35 L.length (aA L))→st.ev lo=.v (.int .i64 i)→st.ev hi=.v (.int .i64 j)→st.ev mx=.v (.int .i64 L.length)→vN Tryz.prog st 54 (.own 0 0) (some lo) hi mx=some (.sl ((j:Int)-i).toNat []):=fun st lo hi mx h1 h2 h3 h4=>by
  simp only[vN,Bq,h1,h2,h3,h4,if_pos a3]
 by_cases e:(i:Int)=j
 ·have e':i=j:=by omega
  subst e'
  rw[List.take_append_drop];simp only[Z8,seval,iX,mD,iY,kH,mE,s3,G3];exact LH (P:=Tryz.prog) (fn:=Tryz.f81) (s:=0) (g:=0) (.inl rfl) rfl (by unfold jW;simp only[E8,seval,iX]) (by simp only[E8,seval,iY]) (Js L)
 have bB:i<j:=by omega
 obtain⟨K,hK⟩:∃K,i+(L.length-j)=K:=⟨_,rfl⟩
 have hKn:K<L.length:=by omega
 obtain⟨L2,hL2⟩:∃L2,L.take i++L.drop j++L.drop K=L2:=⟨_,rfl⟩
 have l2:L2.length=L.length:=by rw[← hL2];simp;omega
 have lK:(L.take i++L.drop j).length=K:=by simp;omega
 have t2:L2.take K=L.take i++L.drop j:=by rw[← hL2,← lK];exact List.take_left
 have f1:∀(st:St) (hi:Operand),st.heap 0 0=some (.row 63 35 L.length (aA L))→st.ev hi=.v (.int .i64 i)→cW Tryz.prog st 54 (.own 0 0) none (some hi)=some (.vw 0 0 0 i):=fun st hi hh he=>by
  have h1:¬((0:Int)=i∧¬((0:Int)=0∧0<L.length)):=by omega
  have h2:(0:Int)≤i∧(i:Int)≤L.length:=by omega
  simp only[cW,Bq,hh,he,if_neg h1,h2,Int.le_refl,and_self,if_true];simp
  intro h3 h4;rw[h4] at hj;simp at hj
  omega
 obtain⟨X,f2,f2v⟩:∃X,(∀(st:St) (lo:Operand),st.heap 0 0=some (.row 63 35 L.length (aA L))→st.ev lo=.v (.int .i64 j)→cW Tryz.prog st 54 (.own 0 0) (some lo) none=some X) ∧
  (∀st:St,st.heap 0 0=some (.row 63 35 L.length (aA L))→aR st X=some (L.length-j,aA (L.drop j))):=by
  by_cases g:j=L.length
  ·refine⟨.sl 0 [],fun st lo hh he=>?_,fun st hh=>by rw[g];simp[aR,aA]⟩
   have h1:(j:Int)=L.length∧¬((j:Int)=0∧0<L.length):=by omega
   have h2:(0:Int)≤j∧(j:Int)≤L.length:=by omega
   simp only[cW,Bq,hh,he,if_pos h1,h2,Int.le_refl,and_self,if_true]
  ·refine⟨.vw 0 0 (j * 35) (L.length-j),fun st lo hh he=>?_,fun st hh=>?_⟩
   ·have h1:¬((j:Int)=L.length∧¬((j:Int)=0∧0<L.length)):=by omega
    have h2:(0:Int)≤j∧(j:Int)≤L.length:=by omega
    have h3:((L.length:Int)-(j:Int)).toNat=L.length-j:=by omega
    simp only[cW,Bq,hh,he,if_neg h1,h2,h3,Int.le_refl,and_self,if_true,Int.toNat_natCast]
   ·have hb:j * 35+(L.length-j) * 35≤(aA L).length:=by rw[kZ];omega
    simp only[aR,hh,if_pos hb];rw[Wv,List.take_of_length_le (by rw[kZ];simp)]
 have f3:∀st:St,st.heap 0 0=some (.row 63 35 L.length (aA L))→kM Tryz.prog st 54 (.vw 0 0 0 i) X=some (0,0,.row 63 35 L.length (aA L2),K):=fun st hh=>by
  have hc:(63:Nat)=63∧(35:Nat)=35∧(aA (L.drop j)).length=(L.length-j) * 35∧i+(L.length-j)≤L.length:=⟨rfl,rfl,by rw[kZ];simp,by omega⟩
  simp only[kM,Bq,f2v st hh,hh];rw[if_pos ⟨trivial,trivial,hc.2.2⟩,← Nat.add_mul,hK,Lb,Wv,← DQ,← DQ,hL2]
 have f4:∀st:St,st.heap 0 0=some (.row 63 35 L.length (aA L2))→aR st (.vw 0 0 0 K)=some (K,aA (L.take i++L.drop j)):=fun st hh=>by
  have hb:0+K * 35≤(aA L2).length:=by rw[kZ,l2];omega
  simp only[aR,hh,if_pos hb,List.drop_zero];rw[Lb,t2]
 have f5:∀(st:St) (lo hi:Operand),st.heap 0 0=some (.row 63 35 L.length (aA L2))→st.ev lo=.v (.int .i64 K)→st.ev hi=.v (.int .i64 L.length)→cW Tryz.prog st 54 (.vw 0 0 0 K) (some lo) (some hi)=some (.vw 0 0 (K * 35) (L.length-K)):=fun st lo hi hh h1 h2=>by
  have h3:(0:Int)≤K∧(K:Int)<L.length∧(L.length:Int)≤L.length:=by omega
  have h4:((L.length:Int)-(K:Int)).toNat=L.length-K:=by omega
  simp only[cW,Bq,hh,h1,h2,if_pos h3,h4,Int.toNat_natCast]
 obtain⟨Z,f6,hZ,hZm⟩:∃Z,(∀st:St,st.heap 0 0=some (.row 63 35 L.length (aA L2))→tK Tryz.prog st 54 (.vw 0 0 (K * 35) (L.length-K))=some (some (0,0,.row 63 35 L.length (aA (L.take i++L.drop j)++Z))))∧Z.length=(L.length-K) * 35∧∀c∈Z,fM c:=by
  refine⟨(List.range (L.length-K)).flatMap fun _=>Cs.map AV.v,fun st hh=>?_, ?_,fun c hc=>?_⟩
  ·have hc:(63:Nat)=63∧(35:Nat)=35∧K * 35+(L.length-K) * 35≤(aA L2).length:=⟨rfl,rfl,by rw[kZ,l2];omega⟩
   simp only[tK,Bq,aBF,hh];rw[if_pos ⟨trivial,trivial,hc.2.2⟩];have hd:(aA L2).drop (K * 35+(L.length-K) * 35)=[]:=List.drop_of_length_le (by rw[kZ,l2];omega)
   rw[hd,Lb,t2,List.append_nil]
  ·have hv:(Cs.map AV.v).length=35:=by kernel_rfl
   generalize L.length-K=m
   induction m with
   | zero=>rfl
   | succ m ih=>rw[List.range_succ,List.flatMap_append,List.length_append,ih];simp only[List.flatMap_cons,List.flatMap_nil,List.append_nil,hv];omega
  ·obtain⟨_,_,hc⟩:=List.mem_flatMap.1 hc
   obtain⟨x,_,rfl⟩:=List.mem_map.1 hc
   exact .v x
 have fl:((aA (L.take i++L.drop j))++Z).length=L.length * 35:=by rw[List.length_append,kZ,lK,hZ,← Nat.add_mul];congr 1;omega
 simp only[Z8,seval,iX,mD,iY,kH,mE,s3,bf e,p8,O7,f1,f2,f3,f4,f5,f6];have hE:=fun st=>aBG (st:=st) (P:=Tryz.prog) (fn:=Tryz.f81) (k:=K) (ee:=63) (sz:=35) (n:=L.length) (cs:=aA (L.take i++L.drop j)++Z) (e:=.ret) (s:=0) (g:=0) (.inl rfl) rfl
 have tk:(aA (L.take i++L.drop j)++Z).take (K * 35)=aA (L.take i++L.drop j):=by
  rw[← lK,← kZ];exact List.take_left
 simp only[tk] at hE;rw[lK];exact hE _ (by unfold jW;simp only[E8,seval,iX]) (by simp only[E8,seval,iY]) (by omega) fl (fun c hc=>by
  rcases List.mem_append.1 hc with hc|hc
  ·exact Js _ c hc
  ·exact hZm c hc)
def Ww (t:State) (S:aP) (q r:AV):State:={ t with store:=S,dQ:=q,mV:=r }
def nS (v:SV):Nat:=(Gc v).length
def nR (v:SV) (Q:Option (List Request)):Nat:=nS v+(rl 63 35 aA Q).length
def QU (v:SV) (Q R:Option (List Request)):List nD:=Gc v++(rl 63 35 aA Q++rl 63 35 aA R)
def cpT (t:State) (v:SV) (Q R:Option (List Request)) (d c:Nat):State:=Ww t (p7 t.store v d c) (rv d (c+nS v) Q) (rv d (c+nR v Q) R)
theorem qP {α:Type} (d k e sz:Nat) (c:List α→List AV) (L:Option (List α)):gH (rv d k L)=(List.range' k (rl e sz c L).length).map (Prod.mk d):=by cases L<;>rfl
theorem aBH (s:aP) (v:SV) (d c:Nat):(aB (p7 s v d c)).flatMap gH=(List.range' c (nS v)).map (Prod.mk d):=by
 have e:nS v=(rl 23 1 bC v.B).length+((rl 100 34 cK v.L).length+((rl 3 1 aK v.Q).length+((rl 87 67 dE v.E).length+((rl 74 238 aJ v.O).length+(1+(rl 118 34 aT v.T).length))))):=by
  simp only[nS,Gc,List.length_append,List.length_cons,List.length_nil]
 unfold p7;rw[Jr,qP d c 23 1 bC v.B,qP d (c+nB v) 100 34 cK v.L,qP d (c+nL v) 3 1 aK v.Q,qP d (c+nQ v) 87 67 dE v.E,qP d (c+nE v) 74 238 aJ v.O,qP d (c+nO v+1) 118 34 aT v.T,e,
  show gH (.own d (c+nO v))=(List.range' (c+nO v) 1).map (Prod.mk d) from rfl]
 simp only[← List.map_append];congr 1
 have a:=fun s m n=>(List.range'_append_1 (s:=s) (m:=m) (n:=n)).symm
 rw[a c,a (c+_),a (c+_+_),a (c+_+_+_),a (c+_+_+_+_),a (c+_+_+_+_+_)];simp only[nO,nE,nQ,nL,nB,Nat.add_assoc]
theorem O8 (t:State) (v:SV) (Q R:Option (List Request)) (a b c:Nat):(aI (Ww t (p7 t.store v a 0) (rv b 0 Q) (rv c 0 R))).flatMap gH=(List.range' 0 (nS v)).map (Prod.mk a)++((List.range' 0 (rl 63 35 aA Q).length).map (Prod.mk b)++(List.range' 0 (rl 63 35 aA R).length).map (Prod.mk c)):=by
 simp only[Ww,aI,List.flatMap_append,List.flatMap_cons,List.flatMap_nil,List.append_nil,aBH,nC (eC _),nC (mJ _),nC (kY _),qP b 0 63 35 aA Q,qP c 0 63 35 aA R]
theorem Wx (t:State) (v:SV) (Q R:Option (List Request)) (d c:Nat):pP (xF d) c (aI (Ww t (QT t.store (uo 23 1 bC v.B) (uo 100 34 cK v.L) (uo 3 1 aK v.Q) (uo 87 67 dE v.E) (uo 74 238 aJ v.O) (.uniq 76 240 v.ns.length (cC v.ns)) (uo 118 34 aT v.T)) (uo 63 35 aA Q) (uo 63 35 aA R)))=(aI (cpT t v Q R d c),QU v Q R):=by
 unfold cpT Ww aI;simp only[Wq,La,Uj,rE d _ (eC _),rE d _ (mJ _),rE d _ (kY _),List.length_nil,Nat.add_zero,List.append_nil,QU,nR,nS,Nat.add_assoc]
theorem aLu (v:SV) (j:Nat):(if j<(Gc v).length then (Gc v)[j]? else none)=(Gc v)[j]?:=by
 split
 ·rfl
 ·rw[List.getElem?_eq_none (by omega)]
theorem aBI {st:St} {s:aP} {v:SV} (hs:SD s v) {d c:Nat} (hh:∀j,j<nS v→st.heap d (c+j)=(Gc v)[j]?):Tc st (aB (p7 s v d c))=some (aB (QT s (uo 23 1 bC v.B) (uo 100 34 cK v.L) (uo 3 1 aK v.Q) (uo 87 67 dE v.E) (uo 74 238 aJ v.O) (.uniq 76 240 v.ns.length (cC v.ns)) (uo 118 34 aT v.T))):=by
 have ix:∀ {j:Nat} {e:nD},(Gc v)[j]? = some e→st.heap d (c+j)=some e:=fun h=>by rw[hh _ (List.getElem?_eq_some_iff.1 h).1,h]
 exact Wu s (iQ (fun l hl=>by have:=ix (aLi v l hl);rwa [Nat.add_zero] at this) fun l _=>hU l) (iQ (fun l hl=>ix (aLj v l hl)) fun l _=>mX l) (iQ (fun l hl=>ix (aLk v l hl)) fun l _=>gD l)
  (iQ (fun l hl=>ix (aLl v l hl)) fun l hl=>sK l fun y m=>(hs.eV y (by rw[hl];exact m)).fl) (iQ (fun l hl=>ix (aLm v l hl)) fun l _=>oX l)
  (iQ (L:=some v.ns) (fun l hl=>by cases hl;exact ix (aLn v)) fun l _=>lB l) (iQ (fun l hl=>by have:=ix (aLo v l hl);rwa [← Nat.add_assoc] at this) fun l hl=>lR l fun y m=>(hs.tB y (by rw[hl];exact m)).fl)
theorem aFA {st:St} {s:aP} {v:SV} (hs:SD s v) {d c:Nat} (hh:∀j,j<nS v→st.heap d (c+j)=(Gc v)[j]?):AG st (aB (p7 s v d c))=some (aB s):=by
 have ix:∀ {j:Nat} {e:nD},(Gc v)[j]? = some e→st.heap d (c+j)=some e:=fun h=>by rw[hh _ (List.getElem?_eq_some_iff.1 h).1,h]
 rw[gI];simp only[p7,QT];rw[rY (e:=23) (sz:=1) (c:=bC) (fun l hl=>by have:=ix (aLi v l hl);rwa [Nat.add_zero] at this) (fun l _=>hU l),cU,
  rY (e:=100) (sz:=34) (c:=cK) (fun l hl=>ix (aLj v l hl)) (fun l _=>mX l),cU,
  rY (e:=3) (sz:=1) (c:=aK) (fun l hl=>ix (aLk v l hl)) (fun l _=>gD l),cU,
  rY (e:=87) (sz:=67) (c:=dE) (fun l hl=>ix (aLl v l hl)) (fun l hl=>sK l fun y m=>(hs.eV y (by rw[hl];exact m)).fl),cU,
  rY (e:=74) (sz:=238) (c:=aJ) (fun l hl=>ix (aLm v l hl)) (fun l _=>oX l),cU,
  ← XP d (c+nO v) v.ns,rY (e:=76) (sz:=240) (c:=cC) (fun l hl=>by cases hl;exact ix (aLn v)) (fun l _=>lB l),cU,
  rY (e:=118) (sz:=34) (c:=aT) (fun l hl=>by have:=ix (aLo v l hl);rwa [← Nat.add_assoc] at this) (fun l hl=>lR l fun y m=>(hs.tB y (by rw[hl];exact m)).fl),cU]
 have hn:ov cC (some v.ns)=s.tree.nodes:=by rw[hs.tree];rfl
 rw[hn,← hs.jI,← hs.dV,← hs.gU,← hs.early,← hs.bU,← hs.tables]
theorem aFB {st:St} {t:State} {v:SV} (hs:SD t.store v) {d c:Nat} {q r q' r':AV} (hh:∀j,j<nS v→st.heap d (c+j)=(Gc v)[j]?) (h1:cY st q=some q') (h2:cY st r=some r'):fO st (.agg (aI (Ww t (p7 t.store v d c) q r)))=some (.agg (aI (Ww t t.store q' r'))):=by
 rw[bP];simp only[Ww,aI,tX,aFA hs hh,vQ,h1,h2,jD (eC _),jD (mJ _),jD (kY _),mR,cU]
theorem c80 {t:State} {v:SV} {Q R:Option (List Request)} (h:TD t v Q R) (gT:NEv v) (hB:v.B≠some []) (hL:v.L≠some []) (ht:0<v.ns.length) (hQ:Q≠some []) (hR:R≠some []) :
 aC Tryz.prog 80 [.agg (aI t)]=some (.agg (aI (Ww t (QT t.store (uo 23 1 bC v.B) (uo 100 34 cK v.L) (uo 3 1 aK v.Q) (uo 87 67 dE v.E) (uo 74 238 aJ v.O) (.uniq 76 240 v.ns.length (cC v.ns)) (uo 118 34 aT v.T)) (uo 63 35 aA Q) (uo 63 35 aA R)))):=by
 have hs:=h.sd
 have nQ:((ol Q).length:Int)<1000000:=by have:=h.nQ;omega
 have nR:((ol R).length:Int)<1000000:=by have:=h.nR;omega
 rw[cL Tryz.func80 rfl aQq rfl];simp only[Z8,seval,aQh hs gT hB hL ht,h.Bx,h.ret,aK9 Q hQ nQ,aK9 R hR nR,NW,O5];have key:∀st:St,(∀j,j<nS v→st.heap 5 (0+j)=(Gc v)[j]?)→(∀l,Q=some l→st.heap 9 0=some (.row 63 35 l.length (aA l)))→(∀l,R=some l→st.heap 13 0=some (.row 63 35 l.length (aA l))) →
  Tc st (aI (Ww t (p7 t.store v 5 0) (rv 9 0 Q) (rv 13 0 R)))=some (aI (Ww t (QT t.store (uo 23 1 bC v.B) (uo 100 34 cK v.L) (uo 3 1 aK v.Q) (uo 87 67 dE v.E) (uo 74 238 aJ v.O) (.uniq 76 240 v.ns.length (cC v.ns)) (uo 118 34 aT v.T)) (uo 63 35 aA Q) (uo 63 35 aA R))):=fun st h1 h2 h3=>by
  simp only[Ww,aI,Ws,aBI hs h1,qO (iQ h2 fun l _=>jQ l),qO (iQ h3 fun l _=>jQ l),tA (eC _),tA (mJ _),tA (kY _),cU]
 refine Mq rfl (.inl rfl) rfl (x:=.agg (aI (Ww t (p7 t.store v 5 0) (rv 9 0 Q) (rv 13 0 R)))) ?x1 ?x2 (Qh (key _ ?h1 ?h2 ?h3))
 case x1=>simp only[bJ,Z8,seval,NW,Ww]
 case x2 =>
  show ((aI _).flatMap gH).Nodup
  rw[O8];have nd:∀(d n:Nat),((List.range' 0 n).map (Prod.mk d)).Nodup:=fun d n=>List.Pairwise.map (Prod.mk d) (fun a b hab e=>hab (Prod.mk.inj e).2) (List.nodup_range' (step:=1))
  refine List.nodup_append.2 ⟨nd 5 _,List.nodup_append.2 ⟨nd 9 _,nd 13 _, ?_⟩, ?_⟩
  ·intro x hx y hy;obtain⟨_,_,rfl⟩:=List.mem_map.1 hx
   obtain⟨_,_,rfl⟩:=List.mem_map.1 hy
   simp
  ·intro x hx y hy;obtain⟨_,_,rfl⟩:=List.mem_map.1 hx
   rcases List.mem_append.1 hy with hy|hy
   ·obtain⟨_,_,rfl⟩:=List.mem_map.1 hy
    simp
   ·obtain⟨_,_,rfl⟩:=List.mem_map.1 hy
    simp
 case h1 =>
  intro j hj;rw[Nat.zero_add];simp only[E8,seval,NW,true_and,Nat.zero_le,Nat.sub_zero,aLu]
 case h2 =>
  intro l hl;simp only[E8,seval,NW,hl,xM,true_and,Nat.zero_le,Nat.sub_zero,List.length_cons,List.length_nil,Nat.zero_lt_succ,if_true]<;>rfl
 case h3 =>
  intro l hl;simp only[E8,seval,NW,hl,xM,true_and,Nat.zero_le,Nat.sub_zero,List.length_cons,List.length_nil,Nat.zero_lt_succ,if_true]<;>rfl
theorem O9 (v:SV) (Q R:Option (List Request)):QU v Q R≠[]:=by simp[QU,Gc]
theorem k80 {t:State} {v:SV} {Q R:Option (List Request)} (h:TD t v Q R) (gT:NEv v) (hB:v.B≠some []) (hL:v.L≠some []) (ht:0<v.ns.length) (hQ:Q≠some []) (hR:R≠some []) (st:St) (d:Nat) :
 aN (aC Tryz.prog) 80 [.agg (aI t)] st (some d)=some { dst:=some d,val:=.agg (aI (cpT t v Q R d (st.aQ d))),new:=some (d,QU v Q R)}:=by
 rw[FW (cO h.flat) (c80 h gT hB hL ht hQ hR) (by rw[Wx];exact .inr (O9 v Q R)),Wx]
 simp only[JL,if_neg (O9 v Q R)]
theorem P0 (x:Option Nat) (y:AV) (d:Nat) (v:SV) (Q R:Option (List Request)) (st:St):({ dst:=x,val:=y,new:=some (d,QU v Q R)}:qT).apply st=(st.news d (QU v Q R)).put x y:=rfl
theorem aQr (v:SV) (Q R:Option (List Request)) (j:Nat) (h:j<nS v):(QU v Q R)[j]? = (Gc v)[j]?:=by
 unfold QU;rw[List.getElem?_append_left h]
theorem aQs (v:SV) (Q R:Option (List Request)) (l:List Request) (h:Q=some l):(QU v Q R)[nS v]? = some (.row 63 35 l.length (aA l)):=by
 unfold QU;rw[lU _ _ _ 0 (by rfl),h];rfl
theorem aQt (v:SV) (Q R:Option (List Request)) (l:List Request) (h:R=some l):(QU v Q R)[nR v Q]? = some (.row 63 35 l.length (aA l)):=by
 unfold QU;rw[lU _ _ _ _ (show nR v Q=_+_ from rfl),lU _ _ _ 0 (by rfl),h];rfl
theorem c79 (a:sM) (n:Int):aC Tryz.prog 79 [.agg (iU a),.v (.int .u64 n)]=some (.v (.bool (decide (a.tag=n)))):=by
 rw[cL Tryz.func79 rfl aQu rfl];refine jR ?_
 by_cases h:a.tag=n
 ·simp only[Z8,seval,bt h];exact⟨_,bT rfl (by simp only[E8,seval]<;>rfl) (by first|exact .v _|simp only[dY]),by rw[decide_eq_true h]⟩
 ·simp only[Z8,seval,bf h];exact⟨_,bT rfl (by simp only[E8,seval]<;>rfl) (by first|exact .v _|simp only[dY]),by rw[decide_eq_false h]⟩
theorem k79 (a:sM) (n:Int) (st:St) (d:Option Nat):aN (aC Tryz.prog) 79 [.agg (iU a),.v (.int .u64 n)] st d=some { dst:=d,val:=.v (.bool (decide (a.tag=n)))}:=bI (bE (.agg _ (Ef a)) (.v _)) (c79 a n) (.v _)
theorem aBJ (w:eD):Flat (.ip (bN w) 0):=.ip _ _ (gE w)
theorem c78 (r:Request) (w:eD):aC Tryz.prog 78 [.agg (bK r),.ip (bN w) 0]=some (.v (.bool (decide (r.tagged.tag=w.tagged.tag)))):=by
 rw[cL Tryz.func78 rfl aQv rfl];refine jR ?_
 simp only[Z8,seval,k79];exact⟨_,bT rfl (by simp only[E8,seval]<;>rfl) (by first|exact .v _|simp only[dY]),rfl⟩
theorem k78 (r:Request) (w:eD) (st:St) (d:Option Nat):aN (aC Tryz.prog) 78 ([.agg (bK r)]++[.ip (bN w) 0]) st d=some { dst:=d,val:=.v (.bool (decide (r.tagged.tag=w.tagged.tag)))}:=bI (bE (.agg _ (eI r)) (aBJ w)) (c78 r w) (.v _)
theorem c77 (o:Option (List Request)) (hn:((ol o).length:Int)<1000000) (w:eD):aC Tryz.prog 77 [ov aA o,.Ev 78 [.ip (bN w) 0]]=some (.v (.int .i64 (Bj (zB (ol o) w.tagged.tag) (ol o).length))):=by
 rw[cL Tryz.func77 rfl aQw (by cases o<;>rfl)]
 refine jR ?_
 simp only[Z8,seval];refine cH (fun m st=>∃k:Nat,(st.env 0=ov aA o∧st.env 1=.Ev 78 [.ip (bN w) 0]∧st.env 7=.v (.int .i64 (ol o).length)∧st.env 8=.v (.int .i64 k))∧(∀j:Nat,j<k→¬zB (ol o) w.tagged.tag j)∧k≤(ol o).length∧m=(ol o).length-k)
  (fun e st=>(e=.ret∧∃k:Nat,k<(ol o).length∧zB (ol o) w.tagged.tag k∧(∀j:Nat,j<k→¬zB (ol o) w.tagged.tag j)∧st.env 4=.v (.int .i64 k))∨(e=.exit 0∧∀j:Nat,j<(ol o).length→¬zB (ol o) w.tagged.tag j)) (ol o).length ?step ?start ?rest
 case step =>
  rintro m st ⟨k,hI,hj,hk,hm⟩
  by_cases bB:(k:Int)<(ol o).length
  ·have q0:(0:Int)≤k:=by omega
   have hw:IntKind.i64.wrap ((k:Int)+1)=((k+1:Nat):Int):=by rw[qA _ (by omega) (by omega)];omega
   by_cases hr:zB (ol o) w.tagged.tag k
   ·have hd:decide ((gx bW (ol o) (k:Int)).tagged.tag=w.tagged.tag)=true:=decide_eq_true hr
    apply oT (.ret)
    ·simp only[Z8,seval,hI,bB,q0,k78,hd];rfl
    ·exact .inl ⟨rfl,k,by omega,hr,hj,by simp only[E8,seval]⟩
   ·have hd:decide ((gx bW (ol o) (k:Int)).tagged.tag=w.tagged.tag)=false:=decide_eq_false hr
    apply oN ((ol o).length-(k+1))
    ·simp only[Z8,seval,hI,bB,q0,k78,hd,hw];rfl
    ·exact⟨k+1,by simp only[E8,seval,hI],fun j h=>(Nat.lt_succ_iff_lt_or_eq.1 h).elim (hj j) fun e=>by subst e;exact hr,by omega,rfl⟩
  ·apply oT (.exit 0)
   ·simp only[Z8,seval,hI,bB];rfl
   ·exact .inr ⟨rfl,fun j h=>hj j (by omega)⟩
 case start=>exact⟨0,by simp only[E8,seval]<;>rfl,fun j h=>by omega,by omega,by omega⟩
 case rest =>
  rintro e st (⟨rfl,k,hk,hh,hj,h⟩|⟨rfl,hj⟩)
  ·have hv:Bj (zB (ol o) w.tagged.tag) (ol o).length=k:=Ie hh hj _ hk
   simp only[Z8,seval];exact⟨_,bT rfl (by simp only[E8,seval,h]<;>rfl) (by first|exact .v _|simp only[dY,h]),by rw[hv]⟩
  ·have hv:Bj (zB (ol o) w.tagged.tag) (ol o).length=-1:=sT _ hj
   simp only[Z8,seval];exact⟨_,bT rfl (by simp only[E8,seval]<;>rfl) (by first|exact .v _|simp only[dY]),by rw[hv]⟩
theorem aBK (t:State) (v:SV) (Q R:Option (List Request)) (d c:Nat):(cpT t v Q R d c).dQ=rv d (c+nS v) Q:=rfl
theorem tC:Flat (.agg (aI gP)):=by simp only[dY,gP,eF,nA,Gq,Ao,Kq,and_self]
theorem P1 {t:State} {v:SV} {Q R:Option (List Request)} (h:TD t v Q R) (q:AV):Ww t t.store q (ov aA R)={ t with dQ:=q }:=by
 unfold Ww;rw[← h.ret]
theorem c26 {t:State} {v:SV} {Q R:Option (List Request)} (h:TD t v Q R) (gT:NEv v) (hB:v.B≠some []) (hL:v.L≠some []) (ht:0<v.ns.length) (hQ:Q≠some []) (hR:R≠some []) (w:eD):∃x,aC Tryz.prog 26 [.agg (aI t),.agg (bN w)]=some x ∧
 (((∀j:Nat,j<(ol Q).length→¬zB (ol Q) w.tagged.tag j)∧x=.eE [.agg (bK bW),.agg (aI gP),.v (.int .i64 23)]) ∨
  ∃k:Nat,k<(ol Q).length∧zB (ol Q) w.tagged.tag k∧(∀j:Nat,j<k→¬zB (ol Q) w.tagged.tag j)∧x=.eE [.agg (bK (gx bW (ol Q) (k:Int))),.agg (aI { t with dQ:=ov aA (some ((ol Q).take k++(ol Q).drop (k+1)))}),.v (.int .i64 0)]):=by
 have jJ:=h.fl
 have nQ1:((ol Q).length:Int)<1000000:=by have:=h.nQ;omega
 have Mk:=tC
 have q77:∀(args:List AV) (st:St) (d:Option Nat),aN (aC Tryz.prog) 77 args st d=tQ (aC Tryz.prog) 77 (cE (args.map (fO st))) (decide (∀x∈args,Flat x)) st d:=fun args st d=>mU _ _ _ _ _
 have k77:∀(fl:Bool) (st:St) (d:Option Nat),tQ (aC Tryz.prog) 77 (some [ov aA Q,.Ev 78 [.ip (bN w) 0]]) fl st d=some { dst:=d,val:=.v (.int .i64 (Bj (zB (ol Q) w.tagged.tag) (ol Q).length))}:=fun fl st d=>DE (c77 Q nQ1 w)
 have eV:∀(st:St) (o:Nat),CL st (some (.cells (bN w))) o=some (.ip (bN w) o):=fun st o=>Vg st (gE w) o
 rw[cG Tryz.func26 rfl aLv (by kernel_rfl) rfl]
 rcases yP (zB (ol Q) w.tagged.tag) (ol Q).length with ⟨e,hj⟩|⟨k,hk,hh,hj,e⟩
 ·rw[e] at k77;simp only[ZG,seval,Bool.false_and,Prod.mk.injEq,aFD,h.Bx,q77,Ps,eV,k77];exact⟨_,by apply cN;rfl;all_goals simp only[aE,bJ,Z8,seval,Mk]<;>rfl,.inl ⟨hj,rfl⟩⟩
 ·rw[e] at k77;have q0:¬(k:Int)<0:=by omega
  have q1:(0:Int)≤k:=by omega
  have q2:(k:Int)<((ol Q).length:Int):=by omega
  have hw:IntKind.i64.wrap ((k:Int)+1)=((k+1:Nat):Int):=by rw[qA _ (by omega) (by omega)];omega
  cases Q with
  | none=>simp[ol] at hk
  | some L =>
    rw[Uk] at *
    have hd:=c81 L k (k+1) (by omega) (by omega) nQ1
    have km:∀s g d c,mvE (aC Tryz.prog) 81 [.v (.int .i64 k),.v (.int .i64 ((k+1:Nat):Int))] s g d c (some (.row 63 35 L.length (aA L)))=_:=fun s g d c=>LI (jQ L) (bE (.v _) (.v _)) hd
    have eq:=aQs v (some L) R L rfl
    have lt:nS v<(QU v (some L) R).length:=(List.getElem?_eq_some_iff.1 eq).1
    have key:∀(st:St) (g:Nat),(∀j,j<nS v→st.heap 18 (0+j)=(Gc v)[j]?)→st.heap 24 g=some (.row 63 35 (L.take k++L.drop (k+1)).length (aA (L.take k++L.drop (k+1))))→(∀l,R=some l→st.heap 18 (0+nR v (some L))=some (.row 63 35 l.length (aA l)))→fO st (.agg (aI { cpT t v (some L) R 18 0 with dQ:=.own 24 g }))=some (.agg (aI { t with dQ:=ov aA (some (L.take k++L.drop (k+1)))})):=fun st g h1 h2 h3=>by
     rw[← P1 h];exact aFB h.sd h1 (kK h2) (rY h3 fun l _=>jQ l)
    simp only[ZG,seval,Bool.false_and,Prod.mk.injEq,aFD,h.Bx,q77,Ps,eV,k77,q0,q1,q2,hw,k80 h gT hB hL ht hQ hR,P0,NW,aBK,XP,eq,lt,km,Uk,Fc,Fb];refine⟨_,cN rfl (x1:=.agg (bK (gx bW L (k:Int)))) ?a1 (x2:=.agg (aI { cpT t v (some L) R 18 0 with dQ:=.own 24 0 })) ?a2 (x3:=.v (.int .i64 0)) ?a3 (dX (.agg _ (eI _))) (key _ 0 ?b1 ?b2 ?b3) (dX (.v _)),.inr ⟨k,hk,hh,hj,rfl⟩⟩
    case a1=>simp only[bJ,Z8,seval,NW]
    case a2=>simp only[bJ,Z8,seval,NW]
    case a3=>simp only[bJ,E8,seval,NW]
    case b1 =>
     intro j hj;have lj:j<(QU v (some L) R).length:=by omega
     have nj:(j=nS v)=False:=eq_false (by omega)
     rw[Nat.zero_add];simp only[E8,seval,NW,true_and,Nat.zero_le,Nat.sub_zero,Nat.zero_add,nj,lj,if_true,if_false,aQr v (some L) R j hj]
    case b2=>simp only[E8,seval,NW]
    case b3 =>
     intro l hl;have er:=aQt v (some L) R l hl
     have lj:nR v (some L)<(QU v (some L) R).length:=(List.getElem?_eq_some_iff.1 er).1
     have nj:(nR v (some L)=nS v)=False:=eq_false (by simp[nR,rl])
     rw[Nat.zero_add];simp only[E8,seval,NW,true_and,Nat.zero_le,Nat.sub_zero,Nat.zero_add,nj,lj,if_true,if_false,er]
theorem aEm:aF 4 77 (some 54)=[]:=rfl
theorem x42 {s:aP} {v:SV} (hs:SD s v):∃r,aC Tryz.prog 42 [.agg (aB s),.agg (aB s)]=some r∧r=.v (.bool true):=by
 have jJ:=hs.flat
 rw[cG Tryz.func42 rfl aLw (by kernel_rfl) rfl]
 have kB:=L3 v.B hs.nB
 have kL:=aLq v.L hs.nL
 have kQ:=O6 v.Q hs.nQ
 have kn:=aNy v.ns v.ns hs.nn
 have kT:=aLt v.T hs.nT hs.tB
 simp only[ZG,seval,Bool.false_and,Prod.mk.injEq,MG,aEm,hs.jI,hs.dV,hs.gU,hs.early,hs.bU,hs.tree,hs.tables,JM,G3,kB,kL,kQ,kn,kT,decide_true,Bool.not_true,gW,gX];refine mC (fun m st=>∃k:Nat,(st.env 2=.ptr 2 0 0∧st.heap 2 0=some (.cells (aB s))∧st.env 3=.ptr 3 0 0∧st.heap 3 0=some (.cells (aB s))∧st.env 7=.v (.int .i64 k))∧k≤(ol v.E).length∧m=(ol v.E).length-k)
  (fun e st=>e=.exit 0∧(st.env 2=.ptr 2 0 0∧st.heap 2 0=some (.cells (aB s))∧st.env 3=.ptr 3 0 0∧st.heap 3 0=some (.cells (aB s)))) (ol v.E).length ?step ?start ?rest
 case step =>
  rintro m st ⟨k,hI,hk,hm⟩
  have hn:=hs.nE
  by_cases bB:(k:Int)<(ol v.E).length
  ·have q0:(0:Int)≤k:=by omega
   have hw:IntKind.i64.wrap ((k:Int)+1)=((k+1:Nat):Int):=by rw[qA _ (by omega) (by omega)];omega
   have kk:=aQl _ (hs.eV _ (uY (z:=Jb) q0 bB))
   apply Ea ((ol v.E).length-(k+1))
   ·simp only[ZG,seval,Bool.false_and,Prod.mk.injEq,MG,hs.early,hI,bB,q0,kk,JM,Bool.not_true,hw];rfl
   ·exact⟨k+1,by simp only[E8,seval,hI],by omega,rfl⟩
  ·apply JK (.exit 0)
   ·simp only[ZG,seval,Bool.false_and,Prod.mk.injEq,MG,hs.early,hI,bB];rfl
   ·exact⟨rfl,by simp only[E8,seval,hI]⟩
 case start=>exact⟨0,by simp only[E8,seval]<;>exact⟨rfl,rfl,rfl,rfl,rfl⟩,by omega,by omega⟩
 case rest =>
  rintro e st ⟨rfl,hI⟩
  simp only[ZG,seval,Bool.false_and,Prod.mk.injEq,MG,hI];refine mC (fun m st=>∃k:Nat,(st.env 2=.ptr 2 0 0∧st.heap 2 0=some (.cells (aB s))∧st.env 3=.ptr 3 0 0∧st.heap 3 0=some (.cells (aB s))∧st.env 8=.v (.int .i64 k))∧k≤(ol v.O).length∧m=(ol v.O).length-k)
   (fun e st=>e=.exit 2) (ol v.O).length ?J7 ?SH ?LA
  case J7 =>
   rintro m st ⟨k,hI,hk,hm⟩
   have hn:=hs.nO
   by_cases bB:(k:Int)<(ol v.O).length
   ·have q0:(0:Int)≤k:=by omega
    have hw:IntKind.i64.wrap ((k:Int)+1)=((k+1:Nat):Int):=by rw[qA _ (by omega) (by omega)];omega
    apply Ea ((ol v.O).length-(k+1))
    ·simp only[ZG,seval,Bool.false_and,Prod.mk.injEq,MG,hs.bU,hI,bB,q0,JM,decide_true,Bool.not_true,hw];rfl
    ·exact⟨k+1,by simp only[E8,seval,hI],by omega,rfl⟩
   ·apply JK (.exit 2)
    ·simp only[ZG,seval,Bool.false_and,Prod.mk.injEq,MG,hs.bU,hI,bB];rfl
    ·exact rfl
  case SH=>exact⟨0,by simp only[E8,seval,hI]<;>exact⟨rfl,rfl,rfl,rfl,rfl⟩,by omega,by omega⟩
  case LA =>
   rintro e st rfl
   simp only[ZG,seval,Bool.false_and,Prod.mk.injEq,MG];exact⟨_,bT rfl (by simp only[E8,seval]<;>rfl) (by first|exact .v _|simp only[dY]),rfl⟩
theorem k42 {s:aP} {v:SV} (hs:SD s v) (st:St) (d:Option Nat):aN (aC Tryz.prog) 42 [.agg (aB s),.agg (aB s)] st d=some { dst:=d,val:=.v (.bool true)}:=by
 obtain⟨r,h,e⟩:=x42 hs
 subst e;exact bI (bE hs.flat hs.flat) h (.v _)
end Go.Ab.Tryz
namespace Go.Ab.Tryz
open Classical Go.Proofs Go.Ab
open Classical Go.Proofs Go.Ab
open Classical Go.Proofs Go.Ab
end Go.Ab.Tryz
namespace Go.Ab.Tryz
open Classical Go.Proofs Go.Ab
theorem beB (x:Bool):(x == x)=true:=by simp
theorem TI.lists {t:State} {v:SV} {Q R:Option (List Request)} {q m:Int} (T:TI t v Q R q m):v.B≠some []∧∃L,v.L=some L∧L≠[]:=by
 have h1:=T.toTI0.jI.1
 have h2:=T.gi.KY
 constructor
 ·intro h;rw[h] at h1;exact absurd h1 (by simp[ol])
 ·cases h:v.L with
  | none=>rw[h] at h2;simp only[ol,Option.getD_none,List.length_nil] at h2;simp only[ol] at h1;omega
  | some L =>
    refine⟨L,rfl,fun e=>?_⟩
    rw[h,e] at h2;simp only[ol,Option.getD_some,List.length_nil] at h2;simp only[ol] at h1;omega
end Go.Ab.Tryz
