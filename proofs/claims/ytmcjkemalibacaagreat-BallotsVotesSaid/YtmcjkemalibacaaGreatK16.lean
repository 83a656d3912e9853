/-
  Part 16 of the proof: an evaluator of programs, its soundness, and what functions of this program compute.
-/
import Derived.Test.YtmcjkemalibacaaGreatK14
import Derived.Test.YtmcjkemalibacaaGreatK15
import Derived.Test.YtmcjkemalibacaaGreatK13
import Derived.Test.YtmcjkemalibacaaGreatK12
import Derived.Test.YtmcjkemalibacaaGreatK11
import Derived.Test.YtmcjkemalibacaaGreatK10
set_option linter.all false
set_option maxRecDepth 20000
set_option maxHeartbeats 40000000
namespace Go.Ab.Tryz
open Classical Go.Proofs Go.Ab
def aQc (s:aM) (v:SV) (q:Int) (r:AV):Prop:=∃(s':aM) (R:Option (List bX)) (e:Int),r=.eE [.agg (aA s'),ov gP R,.v (.int .i64 e)]∧Flat (.agg (aA s'))∧((ol R).length:Int)≤70∧e≠21∧(e=0→∃v',GI s' v' q∧RG s' v'∧s'.cFg=s.cFg)
theorem aQd {s:aM} {v:SV} {q:Int} (h:GI s v q) (r:RG s v) (b:Block) (rb:RB b∧Pr b.root):∃r,aB Tryz.prog 203 [.agg (aA s),.agg (aU b)]=some r∧aQc s v q r:=by
 have hf:=h.sd.flat
 have oD:=h.sd.fl
 have hz:=Ir
 have TS:=k52 h.sd h.up h.sp
 have nO:=h.nO
 have LN:=h.LN
 have nn':=h.sd.nO
 rw[cL Tryz.func203 rfl aLs rfl];by_cases g1:Jx s v b=10
 ·by_cases g2:s.cFg.lS.vQ≤((ol v.O).length:Int)
  ·simp only[Z8,seval,TS,bt g1,h.sd.bS,g2];exact⟨_,by apply cW;rfl;all_goals simp only[aE,bK,Z8,seval,hz]<;>rfl,gC,none,11,rfl,hz,by simp[ol],by decide,fun h=>by cases h⟩
  ·have hw:=h.SS (some (ol v.O++[{ b with Ef:=false }])) (by show (((ol v.O++[{ b with Ef:=false }]).length:Nat):Int)≤s.cFg.lS.vQ;rw[List.length_append,List.length_cons,List.length_nil];omega)
   have hwr:=r.SS (some (ol v.O++[{ b with Ef:=false }])) (ov aL (some (ol v.O++[{ b with Ef:=false }]))) (fun c hc=>(List.mem_append.1 hc).elim (r.or c) fun e=>by rw[List.mem_singleton] at e;subst e;exact⟨⟨rb.1.sl,rb.1.j,rb.1.f,rb.1.pj,rb.1.pf⟩,rb.2⟩) (by simp)
   simp only[Z8,seval,TS,bt g1,h.sd.bS,g2,iM _ nn',DY _ _ _ _ nn'];exact⟨_,by apply cW;rfl;all_goals simp only[aE,bK,Z8,seval,bM,gD,bG,tJ,cY,eA,oD]<;>rfl,_,none,0,rfl,hw.sd.flat,by simp[ol],by decide,fun _=>⟨_,hw,hwr,rfl⟩⟩
 by_cases g2:Jx s v b=0
 case neg =>
  simp only[Z8,seval,TS,bf g1,bf g2];exact⟨_,by apply cW;rfl;all_goals simp only[aE,bK,Z8,seval,hz]<;>rfl,gC,none,_,rfl,hz,by simp[ol],aFn _ _ _,fun h=>absurd h g2⟩
 have XZ:=aLe h g2
 have aBL:=h.ins g2
 have aBM:=r.ins rb g2
 have hcf:=Al s v b
 have hO1:=SW s v b
 cases g3:b.Ef
 · -- not timely
  have hG:GI (sC s v b) (kU s v b) q:=aBL
  have nP:RG (sC s v b) (kU s v b):=aBM
  have hC:((sC s v b)).cFg=s.cFg:=hcf.1
  have pE:=LK hG.sd
  simp only[Z8,seval,TS,bf g1,bt g2,XZ,g3,pE];refine Nq (a:=Ap) (u4 s v q) (GC (by omega) (m:=(ol (kU s v b).O).length) ⟨(sC s v b),kU s v b,_,[b.root],66,0, ?start,.inl ⟨rfl,rfl⟩,.inl rfl,hG,nP,hC,by simp;omega,rfl⟩) ?rest
  case start =>
   rw[sE hG.sd];simp only[E8,seval,gP,List.flatMap_cons,List.flatMap_nil,List.append_nil]<;>rfl
  case rest =>
   rintro e st ⟨rfl,S0,w,X,R,a,g,hI,ha,hX,hG,nP,hC,hR⟩
   have O8:(a=4)=False:=eq_false ha
   have aFM:=hG.sd.fl
   have hfo:=hG.sd.bS
   rcases hX with rfl|⟨g',L,hL,rfl,ZM⟩
   ·rw[sE hG.sd] at hI;have AP:=hG.sd.flat
    simp only[Z8,seval,hI];exact⟨_,by apply cW;rfl;all_goals simp only[aE,bK,Z8,seval,hI,O8,AP,vF]<;>rfl,S0,some R,0,rfl,AP,by simp only[ol,Option.getD_some];omega,by decide,fun _=>⟨w,hG,nP,hC⟩⟩
   ·have hex:=fun st' hh=>yQ (O:=L) (a:=91) (g:=g') hG.sd st' hh
    have MP:mC S0 (ov aL (some L))=S0:=by rw[← hL];exact sE hG.sd
    rw[MP] at hex;simp only[Z8,seval,hI];exact⟨_,by apply cW;rfl;all_goals simp only[aE,bK,Z8,seval,hI,O8,ZM,hex,vF]<;>rfl,S0,some R,0,rfl,hG.sd.flat,by simp only[ol,Option.getD_some];omega,by decide,fun _=>⟨w,hG,nP,hC⟩⟩
 by_cases g4:b.slot=s.now
 case neg =>
  have hG:GI (sC s v b) (kU s v b) q:=aBL
  have nP:RG (sC s v b) (kU s v b):=aBM
  have hC:((sC s v b)).cFg=s.cFg:=hcf.1
  have pE:=LK hG.sd
  simp only[Z8,seval,TS,bf g1,bt g2,XZ,g3,bf g4,pE];refine Nq (a:=Ap) (u4 s v q) (GC (by omega) (m:=(ol (kU s v b).O).length) ⟨(sC s v b),kU s v b,_,[b.root],66,0, ?start,.inl ⟨rfl,rfl⟩,.inl rfl,hG,nP,hC,by simp;omega,rfl⟩) ?rest
  case start =>
   rw[sE hG.sd];simp only[E8,seval,gP,List.flatMap_cons,List.flatMap_nil,List.append_nil]<;>rfl
  case rest =>
   rintro e st ⟨rfl,S0,w,X,R,a,g,hI,ha,hX,hG,nP,hC,hR⟩
   have O8:(a=4)=False:=eq_false ha
   have aFM:=hG.sd.fl
   have hfo:=hG.sd.bS
   rcases hX with rfl|⟨g',L,hL,rfl,ZM⟩
   ·rw[sE hG.sd] at hI;have AP:=hG.sd.flat
    simp only[Z8,seval,hI];exact⟨_,by apply cW;rfl;all_goals simp only[aE,bK,Z8,seval,hI,O8,AP,vF]<;>rfl,S0,some R,0,rfl,AP,by simp only[ol,Option.getD_some];omega,by decide,fun _=>⟨w,hG,nP,hC⟩⟩
   ·have hex:=fun st' hh=>yQ (O:=L) (a:=91) (g:=g') hG.sd st' hh
    have MP:mC S0 (ov aL (some L))=S0:=by rw[← hL];exact sE hG.sd
    rw[MP] at hex;simp only[Z8,seval,hI];exact⟨_,by apply cW;rfl;all_goals simp only[aE,bK,Z8,seval,hI,O8,ZM,hex,vF]<;>rfl,S0,some R,0,rfl,hG.sd.flat,by simp only[ol,Option.getD_some];omega,by decide,fun _=>⟨w,hG,nP,hC⟩⟩
 by_cases g5:s.iK=dT
 case neg =>
  have hG:GI (sC s v b) (kU s v b) q:=aBL
  have nP:RG (sC s v b) (kU s v b):=aBM
  have hC:((sC s v b)).cFg=s.cFg:=hcf.1
  have pE:=LK hG.sd
  simp only[Z8,seval,TS,bf g1,bt g2,XZ,g3,bt g4,g5,pE];refine Nq (a:=Ap) (u4 s v q) (GC (by omega) (m:=(ol (kU s v b).O).length) ⟨(sC s v b),kU s v b,_,[b.root],66,0, ?start,.inl ⟨rfl,rfl⟩,.inl rfl,hG,nP,hC,by simp;omega,rfl⟩) ?rest
  case start =>
   rw[sE hG.sd];simp only[E8,seval,gP,List.flatMap_cons,List.flatMap_nil,List.append_nil]<;>rfl
  case rest =>
   rintro e st ⟨rfl,S0,w,X,R,a,g,hI,ha,hX,hG,nP,hC,hR⟩
   have O8:(a=4)=False:=eq_false ha
   have aFM:=hG.sd.fl
   have hfo:=hG.sd.bS
   rcases hX with rfl|⟨g',L,hL,rfl,ZM⟩
   ·rw[sE hG.sd] at hI;have AP:=hG.sd.flat
    simp only[Z8,seval,hI];exact⟨_,by apply cW;rfl;all_goals simp only[aE,bK,Z8,seval,hI,O8,AP,vF]<;>rfl,S0,some R,0,rfl,AP,by simp only[ol,Option.getD_some];omega,by decide,fun _=>⟨w,hG,nP,hC⟩⟩
   ·have hex:=fun st' hh=>yQ (O:=L) (a:=91) (g:=g') hG.sd st' hh
    have MP:mC S0 (ov aL (some L))=S0:=by rw[← hL];exact sE hG.sd
    rw[MP] at hex;simp only[Z8,seval,hI];exact⟨_,by apply cW;rfl;all_goals simp only[aE,bK,Z8,seval,hI,O8,ZM,hex,vF]<;>rfl,S0,some R,0,rfl,hG.sd.flat,by simp only[ol,Option.getD_some];omega,by decide,fun _=>⟨w,hG,nP,hC⟩⟩
 have hG:GI { sC s v b with iK:=b.root } (kU s v b) q:=aBL.iK b.root
 have nP:RG { sC s v b with iK:=b.root } (kU s v b):=aBM.iK b.root
 have hC:({ sC s v b with iK:=b.root }).cFg=s.cFg:=hcf.1
 have pE:=LK hG.sd
 simp only[Z8,seval,TS,bf g1,bt g2,XZ,g3,bt g4,g5,pE];refine Nq (a:=Ap) (u4 s v q) (GC (by omega) (m:=(ol (kU s v b).O).length) ⟨{ sC s v b with iK:=b.root },kU s v b,_,[b.root],66,0, ?start,.inl ⟨rfl,rfl⟩,.inl rfl,hG,nP,hC,by simp;omega,rfl⟩) ?rest
 case start =>
  rw[sE hG.sd];simp only[E8,seval,gP,List.flatMap_cons,List.flatMap_nil,List.append_nil]<;>rfl
 case rest =>
  rintro e st ⟨rfl,S0,w,X,R,a,g,hI,ha,hX,hG,nP,hC,hR⟩
  have O8:(a=4)=False:=eq_false ha
  have aFM:=hG.sd.fl
  have hfo:=hG.sd.bS
  rcases hX with rfl|⟨g',L,hL,rfl,ZM⟩
  ·rw[sE hG.sd] at hI;have AP:=hG.sd.flat
   simp only[Z8,seval,hI];exact⟨_,by apply cW;rfl;all_goals simp only[aE,bK,Z8,seval,hI,O8,AP,vF]<;>rfl,S0,some R,0,rfl,AP,by simp only[ol,Option.getD_some];omega,by decide,fun _=>⟨w,hG,nP,hC⟩⟩
  ·have hex:=fun st' hh=>yQ (O:=L) (a:=91) (g:=g') hG.sd st' hh
   have MP:mC S0 (ov aL (some L))=S0:=by rw[← hL];exact sE hG.sd
   rw[MP] at hex;simp only[Z8,seval,hI];exact⟨_,by apply cW;rfl;all_goals simp only[aE,bK,Z8,seval,hI,O8,ZM,hex,vF]<;>rfl,S0,some R,0,rfl,hG.sd.flat,by simp only[ol,Option.getD_some];omega,by decide,fun _=>⟨w,hG,nP,hC⟩⟩
def PfR (q m:Int) (r:AV):Prop:=∃(t':State) (e:Int),r=.eE [.agg (aP t'),.v (.int .i64 e)]∧Flat (.agg (aP t'))∧(e=0∨e=21→∃v' Q' R',TI t' v' Q' R' (q+1000) (m+256))
theorem MQ {t:State} (h:Flat (.agg (aP t))) {s':aM} (hs:Flat (.agg (aA s'))):Flat (.agg (aP { t with store:=s' })):=by
 obtain⟨_,_,_,_,_,_,_,h8,h9⟩:=(tE t).1 h
 obtain⟨h1,h2,h3,h4,h5,h6,h7⟩:=(Gr s').1 hs
 exact (tE _).2 ⟨h1,h2,h3,h4,h5,h6,h7,h8,h9⟩
theorem aQe {t:State} {v:SV} {Q R:Option (List Request)} {q m:Int} (h:TI t v Q R q m) (x:wH) (hx:oU x) (hp:x.kind=2→Pr x.block.root) (hq:q+1000≤900000) (hm:m+256≤100000) :
 ∃r,aB Tryz.prog 185 [.agg (aP t),.agg (kI x)]=some r∧PfR q m r:=by
 have hf:=h.td.flat
 have XA:=h.gi.sd.flat
 have RC:=hx.flat
 have aBN:=hx.fl
 have up:∀ {t':State} {v':SV} {Q' R':Option (List Request)} {q' m':Int},TI t' v' Q' R' q' m'→q'≤q+1000→m'≤m+256→∃v' Q' R',TI t' v' Q' R' (q+1000) (m+256):=fun g a b=>⟨_,_,_,g.mono a hq b hm⟩
 have nt:=h.nt
 have mB:=h.mB
 have lq:=h.lq
 have lr:=h.lr
 have rB:=h.aBK
 rw[cL Tryz.func185 rfl aLt rfl];by_cases k1:x.kind=1
 ·obtain⟨y,hy,s',e,rfl,YA,ne,ho⟩:=aPZ h.gi h.rg
  have k202:=kx hy (cK XA) (.eE _ (bA YA (.v _)))
  have ft:=MQ hf YA
  by_cases e0:e=0
  ·obtain⟨v',g,r,c⟩:=ho e0
   have T0:=h.toTI0.store g r c
   have T1:=T0.drop
   have T2:=T1.due hm
   have k36:=kx (c36 T0.td) (cK ft) T1.td.flat
   have k74:=kx (c74 T1.td (by have:=T1.lq;have:=T1.lr;have:=T1.aBK;omega)) (cK T1.td.flat) T2.td.flat
   have ft2:=T2.td.flat
   simp only[Z8,seval,bt k1,k202,dM,bt e0,k36,k74];exact⟨_,by apply dC;rfl;all_goals simp only[aE,bK,Z8,seval,ft2]<;>rfl,_,e,rfl,ft2,fun _=>up T2 (by omega) (by omega)⟩
  ·simp only[Z8,seval,bt k1,k202,dM,bf e0];exact⟨_,by apply dC;rfl;all_goals simp only[aE,bK,Z8,seval,ft]<;>rfl,_,e,rfl,ft,fun h=>absurd h (by omega)⟩
 by_cases k2:x.kind=2
 ·obtain⟨y,hy,s',L,e,rfl,YA,nL,ne,ho⟩:=aQd h.gi h.rg x.block ⟨hx.rb,hp k2⟩
  have k203:=kx hy (bA XA (tV _)) (.eE _ (mW YA (Gy L) (.v _)))
  have ft:=MQ hf YA
  by_cases e0:e=0
  ·obtain⟨v',g,r,c⟩:=ho e0
   have T0:=h.toTI0.store g r c
   have T1:=T0.drop
   have T2:=T1.open (ol L) (by omega) hm
   have k36:=kx (c36 T0.td) (cK ft) T1.td.flat
   have k32:∀(st:St) (d:Option Nat),eQ (aB Tryz.prog) 32 _ st d=_:=fun st d=>Gz (bA T1.td.flat (Gy L)) (c32 T1.td L (by have:=T1.lq;omega)) T2.td.flat
   have ft2:=T2.td.flat
   simp only[Z8,seval,bf k1,bt k2,k203,dM,bt e0,k36,k32];exact⟨_,by apply dC;rfl;all_goals simp only[aE,bK,Z8,seval,ft2]<;>rfl,_,e,rfl,ft2,fun _=>up T2 (by omega) (by omega)⟩
  ·simp only[Z8,seval,bf k1,bt k2,k203,dM,bf e0];exact⟨_,by apply dC;rfl;all_goals simp only[aE,bK,Z8,seval,ft]<;>rfl,_,e,rfl,ft,fun h=>absurd h (by omega)⟩
 by_cases k3:x.kind=3
 ·obtain⟨V,hV,nV⟩:=hx.Ft
  obtain⟨y,hy,s',e,rfl,YA,ne,ho⟩:=aPc h.gi h.rg x.Ft V hV (by omega)
  have k204:=kx hy (bA XA ((qE _).2 aBN.1)) (.eE _ (bA YA (.v _)))
  have ft:=MQ hf YA
  have fin:e=0∨e=21→∃v' Q' R',TI { t with store:=s' } v' Q' R' (q+1000) (m+256):=fun he=>by
   obtain⟨v',g,r,c,en⟩:=ho (by omega)
   exact up ⟨h.toTI0.store g r c,by rw[en];exact h.H2,by rw[en];exact h.H3⟩ (by omega) (by omega)
  simp only[Z8,seval,bf k1,bf k2,bt k3,k204,dM];exact⟨_,by apply dC;rfl;all_goals simp only[aE,bK,Z8,seval,ft]<;>rfl,_,e,rfl,ft,fin⟩
 by_cases k4:x.kind=4
 ·obtain⟨V,hV,nV⟩:=hx.c1
  obtain⟨W,hW,nW⟩:=hx.c2
  obtain⟨y,hy,s',e,rfl,YA,ne,ho⟩:=aPb h.gi h.rg x.oG V W hV hW nV nW hq
  have k205:=kx hy (bA XA ((mJ _).2 ⟨aBN.2.1,aBN.2.2.1⟩)) (.eE _ (bA YA (.v _)))
  have ft:=MQ hf YA
  have fin:e=0∨e=21→∃v' Q' R',TI { t with store:=s' } v' Q' R' (q+1000) (m+256):=fun he=>by
   obtain⟨v',g,r,c,en⟩:=ho (by omega)
   exact up ⟨h.toTI0.store g r c,by rw[en];exact h.H2,by rw[en];exact h.H3⟩ (by omega) (by omega)
  simp only[Z8,seval,bf k1,bf k2,bf k3,bt k4,k205,dM];exact⟨_,by apply dC;rfl;all_goals simp only[aE,bK,Z8,seval,ft]<;>rfl,_,e,rfl,ft,fin⟩
 by_cases k5:x.kind=5
 ·have nT:=h.gi.nT
  have SR:=h.gi.SR
  obtain⟨y,hy,s',e,rfl,YA,ne,ho⟩:=aOK h.gi.sd (by omega) x.table hx.N0
  have k117:=kx hy (bA XA ((jX _).2 aBN.2.2.2)) (.eE _ (bA YA (.v _)))
  have ft:=MQ hf YA
  have fin:e=0∨e=21→∃v' Q' R',TI { t with store:=s' } v' Q' R' (q+1000) (m+256):=fun he=>by
   obtain⟨o',rfl,nl,tb,sub,ne1,ne2⟩:=ho (by omega)
   have g:GI { t.store with tables:=ov aR o' } { v with T:=o' } q :=
    ⟨⟨h.gi.sd.iA,h.gi.sd.dR,h.gi.sd.gT,h.gi.sd.early,h.gi.sd.bS,h.gi.sd.tree,rfl,h.gi.sd.eV,tb,h.gi.sd.nB,h.gi.sd.nL,h.gi.sd.nQ,h.gi.sd.nE,h.gi.sd.nO,by show ((ol o').length:Int)<_;omega,h.gi.sd.nn⟩,h.gi.up,h.gi.To,h.gi.pos,h.gi.nl,h.gi.SQ,h.gi.jK,h.gi.FQ,h.gi.nB,h.gi.nO,h.gi.LN,h.gi.nE,h.gi.RE,by show ((ol o').length:Int)≤t.store.cFg.lS.qH;omega,h.gi.SR,h.gi.nQ,h.gi.K0,h.gi.dS⟩
   have r:RG { t.store with tables:=ov aR o' } { v with T:=o' }:=⟨h.rg.now,h.rg.j,h.rg.f,h.rg.nd,h.rg.or,h.rg.rt,h.rg.fe,h.rg.ds,by obtain⟨tb,h1,h2⟩:=h.rg.tb;exact⟨tb,sub h1,h2⟩,⟨h.rg.ne.q,h.rg.ne.e,h.rg.ne.o,ne1,h.rg.ne.ea,fun x hx=>(ne2 x hx).elim (h.rg.ne.tb x) fun ⟨B,h1,h2⟩=>⟨B,h1,fun e=>by have h3:=h.iA.1;rw[e] at h2;simp at h2;omega⟩⟩⟩
   exact up ⟨h.toTI0.store g r rfl,h.H2,h.H3⟩ (by omega) (by omega)
  simp only[Z8,seval,bf k1,bf k2,bf k3,bf k4,bt k5,k117,dM];exact⟨_,by apply dC;rfl;all_goals simp only[aE,bK,Z8,seval,ft]<;>rfl,_,e,rfl,ft,fin⟩
 by_cases k6:x.kind=6
 ·obtain⟨y,hy,t',e,v',Q',R',rfl,g⟩:=aQa h x.verdict
  have k206:=kx hy (bA hf (.agg _ (jM _))) (.eE _ (bA g.td.flat (.v _)))
  have ft:=g.td.flat
  simp only[Z8,seval,bf k1,bf k2,bf k3,bf k4,bf k5,bt k6,k206,dM];exact⟨_,by apply dC;rfl;all_goals simp only[aE,bK,Z8,seval,ft]<;>rfl,_,e,rfl,ft,fun _=>up g (by omega) (by omega)⟩
 simp only[Z8,seval,bf k1,bf k2,bf k3,bf k4,bf k5,bf k6];exact⟨_,by apply dC;rfl;all_goals simp only[aE,bK,Z8,seval,hf]<;>rfl,t,2,rfl,hf,fun h=>absurd h (by omega)⟩
theorem aQg {t:State} {v:SV} {Q R:Option (List Request)} {q m:Int} (h:TI t v Q R q m) (x:wH) (hx:oU x) (hp:x.kind=2→Pr x.block.root) (hq:q+1000≤900000) (hm:m+256≤100000) :
 ∃r,aB Tryz.prog 147 [.agg (aP t),.agg (kI x)]=some r∧∃(t':State) (y:AV) (e:Int) (v':SV) (Q' R':Option (List Request)),r=.eE [.agg (aP t'),y,.v (.int .i64 e)]∧Flat y∧TI t' v' Q' R' (q+1000) (m+256):=by
 have hf:=h.td.flat
 have RC:=hx.flat
 have h':=h.mono (q':=q+1000) (m':=m+256) (by omega) hq (by omega) hm
 obtain⟨y1,hy1,e1,rfl⟩:=aPw x hx
 have aBO:=kx hy1 (cK RC) (.v _)
 obtain⟨y2,hy2,t2,e2,rfl,ft2,ho⟩:=aQe h x hx hp hq hm
 have aFN:=kx hy2 (bA hf RC) (.eE _ (bA ft2 (.v _)))
 rw[cL Tryz.func147 rfl aLu rfl];cases g0:t.halted
 case true =>
  simp only[Z8,seval,g0];exact⟨_,by apply cW;rfl;all_goals simp only[aE,bK,Z8,seval,hf]<;>rfl,t,_,22,v,Q,R,rfl,.v _,h'⟩
 by_cases g1:e1=0
 case neg =>
  simp only[Z8,seval,g0,aBO,bf g1];exact⟨_,by apply cW;rfl;all_goals simp only[aE,bK,Z8,seval,hf]<;>rfl,t,_,e1,v,Q,R,rfl,.v _,h'⟩
 by_cases g2:e2=21
 ·obtain⟨v',Q',R',T⟩:=ho (.inr g2)
  simp only[Z8,seval,g0,aBO,bt g1,aFN,dM,bt g2];exact⟨_,by apply cW;rfl;all_goals simp only[aE,bK,Z8,seval,ft2]<;>rfl,t2,_,e2,v',Q',R',rfl,.v _,T⟩
 by_cases g3:e2=0
 case neg =>
  simp only[Z8,seval,g0,aBO,bt g1,aFN,dM,bf g2,bf g3];exact⟨_,by apply cW;rfl;all_goals simp only[aE,bK,Z8,seval,hf]<;>rfl,t,_,e2,v,Q,R,rfl,.v _,h'⟩
 obtain⟨v',Q',R',T⟩:=ho (.inl g3)
 obtain⟨y3,hy3,b,c,y,rfl,fy⟩:=aKA t2 ft2 T.gi
 have T':=T.emit b c
 have ft3:=T'.td.flat
 have aFO:=kx hy3 (cK ft2) (.eE _ (bA ft3 fy))
 simp only[Z8,seval,g0,aBO,bt g1,aFN,dM,bf g2,bt g3,aFO];exact⟨_,cW rfl (by simp only[bK,Z8,seval]<;>rfl) (by simp only[bK,Z8,seval]<;>rfl) (by simp only[bK,E8,seval]<;>rfl) (eB ft3) (eB fy) (eB (.v _)),_,y,0,v',Q',R',rfl,fy,T'⟩
theorem vX (n:Int):(mkRoot n)[0]=IntKind.u8.wrap n:=by
 simp[mkRoot]
theorem Hd {n:Int} (h0:0≤n) (h1:n<256):IntKind.u8.wrap n=n:=by
 simp only[IntKind.wrap,IntKind.bits,IntKind.signed];simp
 omega
theorem aEv {n:Int} (h0:1≤n) (h1:n≤98):Pr (mkRoot n):=by
 refine⟨fun e=>?_,fun e=>?_⟩
 ·have e1:IntKind.u8.wrap n=dT[0]:=by rw[← vX,e]
  rw[Hd (by omega) (by omega),show dT[0]=0 from rfl] at e1
  omega
 ·have e1:IntKind.u8.wrap n=IntKind.u8.wrap 99:=by rw[← vX,← vX,e]
  rw[Hd (by omega) (by omega),Hd (by omega) (by omega)] at e1
  omega
theorem RG.new {c:Config} {b:List Int} (h:Fe c b):RG (vT c b) (wQ c b):=by
 have hg:Pr c.dY:=by rw[h.gen];exact aEv (by omega) (by omega)
 have z:Rg 0:=XU
 refine⟨⟨by show (0:Int)≤0;omega,by show (0:Int)≤_;omega⟩,z,z,fun n hn=>?_,(fun o ho=>by cases ho),fun n hn=>?_,⟨by show (0:Int)≤0;omega, ?_⟩, ?_, ?_, ?_⟩
 ·rw[show n=⟨TB c,-1,1⟩ from List.mem_singleton.1 hn];exact⟨⟨z,z,z,z,z⟩,by show (0:Int)≤0;omega⟩
 ·rw[show n=⟨TB c,-1,1⟩ from List.mem_singleton.1 hn];exact hg
 ·show (0:Int)≤IntKind.u64.wrap (Int.tdiv 0 c.jK)
  rw[Int.zero_tdiv];decide
 ·show ([c.dY]:List bX).Nodup
  simp
 ·exact⟨⟨⟨0,c.dY⟩,ov bH (some b)⟩,List.mem_singleton.2 rfl,rfl⟩
 ·exact⟨nofun,nofun,nofun,by simp[wQ],(fun a ha=>by cases ha),fun t ht=>⟨b,by rw[show t=⟨⟨0,c.dY⟩,ov bH (some b)⟩ from List.mem_singleton.1 ht],fun e=>by have:=h.nb.1;rw[e] at this;simp at this⟩⟩
def O9 (c:Config) (b:List Int):State:={ lH with store:=vT c b,cV:=1 }
theorem TI.new {c:Config} {b:List Int} (h:Fe c b):TI (O9 c b) (wQ c b) none none 0 0:=by
 have g:=GI.new h
 have r:=RG.new h
 have hr:=h.nK
 exact⟨⟨⟨g.sd,rfl,rfl,by show ((0:Nat):Int)<_;omega,by show ((0:Nat):Int)<_;omega⟩,g,r,⟨b,h⟩,⟨by show (1:Int)≤1;omega,(fun r hr=>by cases hr),List.Pairwise.nil⟩,⟨(fun r hr=>by cases hr),List.Pairwise.nil⟩,by show (1:Int)≤1+0;omega,by show ((0:Nat):Int)≤0;omega,by show ((0:Nat):Int)≤c.lS.nK;omega,by omega,nofun,nofun⟩,(fun r hr=>by cases hr),(fun r hr=>by cases hr)⟩
theorem aQh {c:Config} {b:List Int} (h:Fe c b):∃r,aB Tryz.prog 144 [.agg (bQ c)]=some r∧∃(Lb:Bool) (last:Command) (y:AV),r=.eE [.agg (aP { O9 c b with Lb:=Lb,last:=last }),y,.v (.int .i64 0)]∧Flat y:=by
 have T:=TI.new h
 have fc:Flat (.agg (bQ c)):=(xP c).2 (by rw[h.iA];exact dU _)
 have fs:=T.gi.sd.flat
 have aFP:=kx (aKE h) (cK fc) (.eE _ (bA fs (.v _)))
 obtain⟨y3,hy3,s,l,y,rfl,fy⟩:=aKA (O9 c b) T.td.flat T.gi
 have ft3:=(T.emit s l).td.flat
 have aFO:=kx hy3 (cK T.td.flat) (.eE _ (bA ft3 fy))
 have eb:({ lH with store:=vT c b,cV:=1 }:State)=O9 c b:=rfl
 rw[cL Tryz.func144 rfl aLx rfl];simp only[Z8,seval,aFP,dM,eb,aFO];exact⟨_,cW rfl (by simp only[bK,Z8,seval]<;>rfl) (by simp only[bK,Z8,seval]<;>rfl) (by simp only[bK,E8,seval]<;>rfl) (eB ft3) (eB fy) (eB (.v _)),s,l,y,rfl,fy⟩
def Lj (l:List wH):List AV:=l.flatMap kI
theorem P0 (x:wH):xG 190 446 720 (some (1,kI x))=some (none,.row 190 446 [x].length (Lj [x])):=by simp[xG,maxLen,Lj]
theorem P1 (l:List wH) (x:wH) (s g:Nat) (h:(l.length:Int)<1000000):wX 190 446 720 (some (.row 190 446 l.length (Lj l))) s g (some (1,kI x))=some (some (s,g),.row 190 446 (l++[x]).length (Lj (l++[x]))):=by
 simp only[wX];rw[if_pos ⟨by simp,trivial,trivial,by omega,by simp only[maxLen];omega⟩]
 simp[Lj,List.flatMap_append]
theorem Qr (l:List wH) (h:∀y∈l,oU y):∀x∈Lj l,Flat x:=by
 intro x hx;obtain⟨y,hm,hy⟩:=List.mem_flatMap.1 hx
 have hf:=(h y hm).flat
 cases hf with
 | agg _ hc=>exact hc x hy
theorem aEw (n:Nat) (l:List wH) (h:∀y∈l,oU y):iX (some (.row 190 446 n (Lj l)))=some (.sl n (Lj l)):=by
 unfold iX;simp only;rw[if_pos (Qr l h)]
theorem x75 (l:List Int) (hl:(l.length:Int)≤9223372036854775807):∃r,aB Tryz.prog 75 [.sl l.length (aH l)]=some r∧∃(c:Config) (X:AV) (t:State) (v:SV) (Q R:Option (List Request)),r=.eE [.agg (bQ c),X,.agg (aP t)]∧Flat (.agg (bQ c))∧Flat X∧TI t v Q R 24000 6144:=by
 obtain⟨y1,hy1,c,b,rfl,hc⟩:=aLm l hl
 have fc:Flat (.agg (bQ c)):=(xP c).2 (by rw[hc.iA];exact dU _)
 have aBQ:∀(st:St) (d:Option Nat),eQ (aB Tryz.prog) 101 _ st d=_:=fun st d=>Gz (cK (Dm l)) hy1 fc
 obtain⟨y2,hy2,Lb,last,y,rfl,fy⟩:=aQh hc
 have T0:=(TI.new hc).emit Lb last
 have k144:=kx hy2 (cK fc) (.eE _ (mW T0.td.flat fy (.v _)))
 have k16:=Mq l hl 16 (by omega) (by omega)
 have k17:=Mq l hl 17 (by omega) (by omega)
 have n0:=(Mp l hl 16 (by omega) (by omega)).2.1
 obtain⟨n1,n2⟩:=eC (n:=25) n0 (by omega)
 obtain⟨N,hN⟩:∃N,(FD l 16).tmod 25=N:=⟨_,rfl⟩
 rw[hN] at n1 n2;rw[cG Tryz.func75 rfl aQi (by kernel_rfl) rfl]
 have body:∀(M:Int),0≤M→M≤24→∀st:St,(st.env 0=.sl l.length (aH l)∧st.env 2=.ptr 2 0 0∧st.heap 2 0=some (.cells (bQ nC))∧st.env 4=.ptr 4 0 0∧st.heap 4 0=some (.cells (aP lH))∧st.env 5=.ptr 5 0 0∧st.heap 5 0=some (.cells (bQ c))∧st.env 6=.ptr 6 0 0∧st.heap 6 0=some (.cells (aP { O9 c b with Lb:=Lb,last:=last }))∧st.env 9=.v (.slice none 0 0)∧st.env 10=.v (.int .i64 M)∧st.env 11=.v (.int .i64 0))→∃e st',vU Tryz.prog true (kD (Tryz.f75.body.getD .skip)) st=some (e,st')∧(e=.exit 0∧∃(t:State) (v:SV) (Q R:Option (List Request)),(st'.env 2=.ptr 2 0 0∧st'.heap 2 0=some (.cells (bQ nC))∧st'.env 4=.ptr 4 0 0∧st'.heap 4 0=some (.cells (aP lH))∧st'.env 5=.ptr 5 0 0∧st'.heap 5 0=some (.cells (bQ c))∧st'.env 6=.ptr 6 0 0∧st'.heap 6 0=some (.cells (aP t)))∧(st'.env 9=.v (.slice none 0 0)∨∃(L:List wH) (g:Nat),st'.env 9=.own 48 g∧st'.heap 48 g=some (.row 190 446 L.length (Lj L))∧∀y∈L,oU y)∧TI t v Q R 24000 6144):=by
  intro M hM0 hM1 st hs;suffices key:∃r,cH (vU Tryz.prog true (kD (Tryz.f75.body.getD .skip)) st) some=some r∧(r.1=.exit 0∧∃(t:State) (v:SV) (Q R:Option (List Request)),(r.2.env 2=.ptr 2 0 0∧r.2.heap 2 0=some (.cells (bQ nC))∧r.2.env 4=.ptr 4 0 0∧r.2.heap 4 0=some (.cells (aP lH))∧r.2.env 5=.ptr 5 0 0∧r.2.heap 5 0=some (.cells (bQ c))∧r.2.env 6=.ptr 6 0 0∧r.2.heap 6 0=some (.cells (aP t)))∧(r.2.env 9=.v (.slice none 0 0)∨∃(L:List wH) (g:Nat),r.2.env 9=.own 48 g∧r.2.heap 48 g=some (.row 190 446 L.length (Lj L))∧∀y∈L,oU y)∧TI t v Q R 24000 6144) by
   obtain⟨r,h,hq⟩:=key
   cases hx:vU Tryz.prog true (kD (Tryz.f75.body.getD .skip)) st with
   | none=>rw[hx] at h;cases h
   | some y=>rw[hx] at h;simp only[cN,Option.some.injEq] at h;subst h;exact⟨y.1,y.2,rfl,hq⟩
  simp only[Tryz.f75,Option.getD_some,kD];refine kX (fun m st=>∃(k:Nat) (t:State) (v:SV) (Q R:Option (List Request)),(st.env 0=.sl l.length (aH l)∧st.env 2=.ptr 2 0 0∧st.heap 2 0=some (.cells (bQ nC))∧st.env 4=.ptr 4 0 0∧st.heap 4 0=some (.cells (aP lH))∧st.env 5=.ptr 5 0 0∧st.heap 5 0=some (.cells (bQ c))∧st.env 6=.ptr 6 0 0∧st.heap 6 0=some (.cells (aP t))∧st.env 10=.v (.int .i64 M)∧st.env 11=.v (.int .i64 k))∧(st.env 9=.v (.slice none 0 0)∨∃(L:List wH) (g:Nat),(st.env 9=.own 48 g∧st.heap 48 g=some (.row 190 446 L.length (Lj L)))∧g<st.aQ 48∧(∀y∈L,oU y)∧L.length≤k)∧TI t v Q R (1000 * k) (256 * k)∧(k:Int)≤M∧m=(M-k).toNat)
   (fun e st=>e=.exit 0∧∃(t:State) (v:SV) (Q R:Option (List Request)),(st.env 2=.ptr 2 0 0∧st.heap 2 0=some (.cells (bQ nC))∧st.env 4=.ptr 4 0 0∧st.heap 4 0=some (.cells (aP lH))∧st.env 5=.ptr 5 0 0∧st.heap 5 0=some (.cells (bQ c))∧st.env 6=.ptr 6 0 0∧st.heap 6 0=some (.cells (aP t)))∧(st.env 9=.v (.slice none 0 0)∨∃(L:List wH) (g:Nat),st.env 9=.own 48 g∧st.heap 48 g=some (.row 190 446 L.length (Lj L))∧∀y∈L,oU y)∧TI t v Q R 24000 6144) M.toNat ?step ?start ?rest
  case start=>exact⟨0,_,_,_,_,⟨hs.1,hs.2.1,hs.2.2.1,hs.2.2.2.1,hs.2.2.2.2.1,hs.2.2.2.2.2.1,hs.2.2.2.2.2.2.1,hs.2.2.2.2.2.2.2.1,hs.2.2.2.2.2.2.2.2.1,hs.2.2.2.2.2.2.2.2.2.2.1,hs.2.2.2.2.2.2.2.2.2.2.2⟩,.inl hs.2.2.2.2.2.2.2.2.2.1,T0,by omega,by omega⟩
  case rest=>exact fun e st h=>⟨_,rfl,h⟩
  case step =>
   clear hs
   rintro m st ⟨k,t,v,Q,R,hI,hX,T,hk,hm⟩
   by_cases aZ:(k:Int)<M
   case neg =>
    have hX':st.env 9=.v (.slice none 0 0)∨∃(L:List wH) (g:Nat),st.env 9=.own 48 g∧st.heap 48 g=some (.row 190 446 L.length (Lj L))∧∀y∈L,oU y:=hX.imp id fun ⟨L,g,h1,_,h3,_⟩=>⟨L,g,h1.1,h1.2,h3⟩
    apply FM (.exit 0)
    ·simp only[ZG,seval,Bool.false_and,Prod.mk.injEq,Xb,hI,aZ];rfl
    ·exact⟨rfl,t,v,Q,R,by simp only[E8,seval,hI],by simpa only[E8,seval] using hX',T.mono (by omega) (by omega) (by omega) (by omega)⟩
   have hw:IntKind.i64.wrap ((k:Int)+1)=((k+1:Nat):Int):=by rw[pV _ (by omega) (by omega)];omega
   obtain⟨j,hj⟩:∃j:Int,j=18+(k:Int):=⟨_,rfl⟩
   have hwj:IntKind.i64.wrap (18+(k:Int))=j:=by rw[pV _ (by omega) (by omega),hj]
   obtain⟨n,hn⟩:∃n:Int,n=10+(k:Int):=⟨_,rfl⟩
   have hwn:IntKind.i64.wrap (10+(k:Int))=n:=by rw[pV _ (by omega) (by omega),hn]
   have kj:=Mq l hl j (by omega) (by omega)
   have j0:=(Mp l hl j (by omega) (by omega)).2.1
   have op:∀z:Int,0≤z→∃(y:wH) (t':State) (w:AV) (e:Int) (v':SV) (Q' R':Option (List Request)),(∀(st:St) (d:Option Nat),aN (aB Tryz.prog) 146 [.agg (aP t),.v (.int .i64 n),.v (.int .i64 z)] st d=some { dst:=d,val:=.agg (kI y)})∧(∀(st:St) (d:Option Nat),aN (aB Tryz.prog) 147 [.agg (aP t),.agg (kI y)] st d=some { dst:=d,val:=.eE [.agg (aP t'),w,.v (.int .i64 e)]})∧oU y∧TI t' v' Q' R' (1000 * ((k+1:Nat):Int)) (256 * ((k+1:Nat):Int)):=by
    intro z hz;obtain⟨y3,hy3,o,rfl,ho,hr⟩:=aP5 T.td T.gi T.rg T.iA (fun r hr=>by obtain⟨h1,h2,_⟩:=T.tq.all r hr;have:=T.nt;exact⟨by omega,by omega⟩) n z hz
    have hp:o.kind=2→Pr o.block.root:=fun h2=>by
     rcases hr h2 with h|⟨a,ha,h⟩
     ·rw[h];exact aEv (by omega) (by omega)
     ·rw[h];exact T.rg.rt a ha
    obtain⟨y4,hy4,t',w,e,v',Q',R',rfl,fw,T'⟩:=aQg T o ho hp (by omega) (by omega)
    exact⟨o,t',w,e,v',Q',R',kx hy3 (mW T.td.flat (.v _) (.v _)) ho.flat,kx hy4 (bA T.td.flat ho.flat) (.eE _ (mW T'.td.flat fw (.v _))),ho,T'.mono (by omega) (by omega) (by omega) (by omega)⟩
   by_cases k0:(k:Int)=0
   ·obtain⟨o,t',w,e,v',Q',R',P2,P3,ho,T'⟩:=op 0 (by omega)
    rcases hX with hX|⟨L,g,hX,hg,hL,hLk⟩
    ·apply Bh ((M-((k+1:Nat):Int)).toNat)
     ·simp only[ZG,seval,Bool.false_and,Prod.mk.injEq,Xb,hI,hX,aZ,hwj,kj,bt k0,hwn,P2,P0,P3,dM,hw];rfl
     ·exact⟨k+1,t',v',Q',R',by simp only[E8,seval,hI],.inr ⟨[o],_,⟨by simp only[E8,seval]<;>rfl,by simp only[E8,seval]<;>rfl⟩,by simp only[E8,seval]<;>omega,(fun y hy=>by rw[List.mem_singleton] at hy;rw[hy];exact ho),by simp⟩,T',by omega,rfl⟩
    ·have nL:(L.length:Int)<1000000:=by omega
     have uR:(g=st.aQ 48)=False:=eq_false (by omega)
     apply Bh ((M-((k+1:Nat):Int)).toNat)
     ·simp only[ZG,seval,Bool.false_and,Prod.mk.injEq,Xb,hI,hX,uR,aZ,hwj,kj,bt k0,hwn,P2,P1 _ _ _ _ nL,P3,dM,hw];rfl
     ·exact⟨k+1,t',v',Q',R',by simp only[E8,seval,hI],.inr ⟨L++[o],_,⟨by simp only[E8,seval]<;>rfl,by simp only[E8,seval]<;>rfl⟩,by simp only[E8,seval]<;>omega,(fun y hy=>(List.mem_append.1 hy).elim (hL y) fun h=>by rw[List.mem_singleton] at h;rw[h];exact ho),by rw[List.length_append,List.length_cons,List.length_nil];omega⟩,T',by omega,rfl⟩
   ·obtain⟨o,t',w,e,v',Q',R',P2,P3,ho,T'⟩:=op (FD l j) j0
    rcases hX with hX|⟨L,g,hX,hg,hL,hLk⟩
    ·apply Bh ((M-((k+1:Nat):Int)).toNat)
     ·simp only[ZG,seval,Bool.false_and,Prod.mk.injEq,Xb,hI,hX,aZ,hwj,kj,bf k0,hwn,P2,P0,P3,dM,hw];rfl
     ·exact⟨k+1,t',v',Q',R',by simp only[E8,seval,hI],.inr ⟨[o],_,⟨by simp only[E8,seval]<;>rfl,by simp only[E8,seval]<;>rfl⟩,by simp only[E8,seval]<;>omega,(fun y hy=>by rw[List.mem_singleton] at hy;rw[hy];exact ho),by simp⟩,T',by omega,rfl⟩
    ·have nL:(L.length:Int)<1000000:=by omega
     have uR:(g=st.aQ 48)=False:=eq_false (by omega)
     apply Bh ((M-((k+1:Nat):Int)).toNat)
     ·simp only[ZG,seval,Bool.false_and,Prod.mk.injEq,Xb,hI,hX,uR,aZ,hwj,kj,bf k0,hwn,P2,P1 _ _ _ _ nL,P3,dM,hw];rfl
     ·exact⟨k+1,t',v',Q',R',by simp only[E8,seval,hI],.inr ⟨L++[o],_,⟨by simp only[E8,seval]<;>rfl,by simp only[E8,seval]<;>rfl⟩,by simp only[E8,seval]<;>omega,(fun y hy=>(List.mem_append.1 hy).elim (hL y) fun h=>by rw[List.mem_singleton] at h;rw[h];exact ho),by rw[List.length_append,List.length_cons,List.length_nil];omega⟩,T',by omega,rfl⟩
 by_cases g1:0<(FD l 17).tmod 4
 ·simp only[ZG,seval,Bool.false_and,Prod.mk.injEq,Xb,aBQ,k144,dM,k16,hN,k17,g1];refine Iy (a:=kD (Tryz.f75.body.getD .skip)) (fun e st'=>e=.exit 0∧∃(t:State) (v:SV) (Q R:Option (List Request)),(st'.env 2=.ptr 2 0 0∧st'.heap 2 0=some (.cells (bQ nC))∧st'.env 4=.ptr 4 0 0∧st'.heap 4 0=some (.cells (aP lH))∧st'.env 5=.ptr 5 0 0∧st'.heap 5 0=some (.cells (bQ c))∧st'.env 6=.ptr 6 0 0∧st'.heap 6 0=some (.cells (aP t)))∧(st'.env 9=.v (.slice none 0 0)∨∃(L:List wH) (g:Nat),st'.env 9=.own 48 g∧st'.heap 48 g=some (.row 190 446 L.length (Lj L))∧∀y∈L,oU y)∧TI t v Q R 24000 6144) (body 24 (by omega) (by omega) _ (by simp only[E8,seval]<;>rfl)) ?rest
  rintro e st ⟨rfl,t,v,Q,R,hI,hX|⟨L,g,hX,hh,hL⟩,T⟩
  ·have ft:=T.td.flat
   simp only[ZG,seval,Bool.false_and,Prod.mk.injEq,Xb,hI,hX];exact⟨_,cW rfl (by simp only[bK,Z8,seval,hI]<;>rfl) (by simp only[bK,Z8,seval,hX]<;>rfl) (by simp only[bK,Z8,seval,hI]<;>rfl) (eB fc) (eB (.v _)) (eB ft),c,_,t,v,Q,R,rfl,fc,.v _,T⟩
  ·have ft:=T.td.flat
   have ex:=aEw L.length L hL
   simp only[ZG,seval,Bool.false_and,Prod.mk.injEq,Xb,hI,hX,hh];exact⟨_,cW rfl (by simp only[bK,Z8,seval,hI]<;>rfl) (by simp only[bK,Z8,seval,hX]<;>rfl) (by simp only[bK,Z8,seval,hI]<;>rfl) (eB fc) (by simp only[Z8,seval,hh,ex]<;>rfl) (eB ft),c,_,t,v,Q,R,rfl,fc,.sl _ _ (Qr L hL),T⟩
 ·simp only[ZG,seval,Bool.false_and,Prod.mk.injEq,Xb,aBQ,k144,dM,k16,hN,k17,g1];refine Iy (a:=kD (Tryz.f75.body.getD .skip)) (fun e st'=>e=.exit 0∧∃(t:State) (v:SV) (Q R:Option (List Request)),(st'.env 2=.ptr 2 0 0∧st'.heap 2 0=some (.cells (bQ nC))∧st'.env 4=.ptr 4 0 0∧st'.heap 4 0=some (.cells (aP lH))∧st'.env 5=.ptr 5 0 0∧st'.heap 5 0=some (.cells (bQ c))∧st'.env 6=.ptr 6 0 0∧st'.heap 6 0=some (.cells (aP t)))∧(st'.env 9=.v (.slice none 0 0)∨∃(L:List wH) (g:Nat),st'.env 9=.own 48 g∧st'.heap 48 g=some (.row 190 446 L.length (Lj L))∧∀y∈L,oU y)∧TI t v Q R 24000 6144) (body N (by omega) (by omega) _ (by simp only[E8,seval]<;>rfl)) ?LP
  rintro e st ⟨rfl,t,v,Q,R,hI,hX|⟨L,g,hX,hh,hL⟩,T⟩
  ·have ft:=T.td.flat
   simp only[ZG,seval,Bool.false_and,Prod.mk.injEq,Xb,hI,hX];exact⟨_,cW rfl (by simp only[bK,Z8,seval,hI]<;>rfl) (by simp only[bK,Z8,seval,hX]<;>rfl) (by simp only[bK,Z8,seval,hI]<;>rfl) (eB fc) (eB (.v _)) (eB ft),c,_,t,v,Q,R,rfl,fc,.v _,T⟩
  ·have ft:=T.td.flat
   have ex:=aEw L.length L hL
   simp only[ZG,seval,Bool.false_and,Prod.mk.injEq,Xb,hI,hX,hh];exact⟨_,cW rfl (by simp only[bK,Z8,seval,hI]<;>rfl) (by simp only[bK,Z8,seval,hX]<;>rfl) (by simp only[bK,Z8,seval,hI]<;>rfl) (eB fc) (by simp only[Z8,seval,hh,ex]<;>rfl) (eB ft),c,_,t,v,Q,R,rfl,fc,.sl _ _ (Qr L hL),T⟩
theorem x24 (l:List Int) (hl:(l.length:Int)≤9223372036854775807):∃(t:State) (v:SV) (Q R:Option (List Request)),aB Tryz.prog 24 [.sl l.length (aH l)]=some (.agg (aP t))∧TI t v Q R 24000 6144:=by
 suffices h:∃r,aB Tryz.prog 24 [.sl l.length (aH l)]=some r∧∃(t:State) (v:SV) (Q R:Option (List Request)),r=.agg (aP t)∧TI t v Q R 24000 6144 by
  obtain⟨r,h,t,v,Q,R,rfl,T⟩:=h
  exact⟨t,v,Q,R,h,T⟩
 obtain⟨y,hy,c,X,t,v,Q,R,rfl,fc,fX,T⟩:=x75 l hl
 have ft:=T.td.flat
 have k75:=kx hy (cK (Dm l)) (.eE _ (mW fc fX ft))
 rw[cL Tryz.func24 rfl aQj rfl];simp only[Z8,seval,k75,dM];exact⟨_,fI rfl (by simp only[E8,seval,ft]<;>rfl) (by simp only[Z8,seval,ft]<;>rfl) (by simp only[eA,and_self,ft]),t,v,Q,R,rfl,T⟩
theorem P4 {s:aM} (h:1≤s.cFg.jK∧s.cFg.jK≤64) {e x:Int} (e0:0≤e) (he:e≤mO s x) (hx:Rg x):wN s e=(e * s.cFg.jK,0)∧e * s.cFg.jK≤x:=by
 have h1:mO s x=x / s.cFg.jK:=by
  unfold mO;rw[Int.tdiv_eq_ediv_of_nonneg hx.1];have:=Int.ediv_le_self s.cFg.jK hx.1
  have:=hx.2
  exact zP _ (Int.ediv_nonneg hx.1 (by omega)) (by omega)
 rw[h1] at he;have hm:e * s.cFg.jK≤x:=(Int.le_ediv_iff_mul_le (by omega)).1 he
 have h0:0≤e * s.cFg.jK:=Int.mul_nonneg e0 (by omega)
 have hb:=hx.2
 refine⟨?_,hm⟩
 unfold wN Kp AH;rw[if_pos h];have ht:Int.tdiv 18446744073709551615 s.cFg.jK=18446744073709551615 / s.cFg.jK:=Int.tdiv_eq_ediv_of_nonneg (by omega)
 have hq:=Int.ediv_le_self s.cFg.jK (show (0:Int)≤18446744073709551615 by omega)
 have hq0:=Int.ediv_nonneg (show (0:Int)≤18446744073709551615 by omega) (show 0≤s.cFg.jK by omega)
 rw[ht,zP _ hq0 (by omega),if_neg (fun k=>by have:=(Int.ediv_lt_iff_lt_mul (by omega)).1 k.2;omega),zP _ h0 (by omega)]
theorem DZ (n:Node) (r:bX):aJ [n] r=if n.block.root=r then 0 else -1:=by
 unfold aJ;by_cases h:n.block.root=r<;>simp[List.findIdx?_cons,h]
theorem aLy {a b:Int} (a0:0≤a) (a1:a<256) (b0:0≤b) (b1:b<256) (h:a≠b):mkRoot a≠mkRoot b:=fun e=>by
 have e1:IntKind.u8.wrap a=IntKind.u8.wrap b:=by rw[← vX,← vX,e]
 rw[Hd a0 a1,Hd b0 b1] at e1;exact h e1
theorem GI.now {s:aM} {v:SV} {q:Int} (h:GI s v q) (n:Int):GI { s with now:=n } v q :=
 ⟨⟨h.sd.iA,h.sd.dR,h.sd.gT,h.sd.early,h.sd.bS,h.sd.tree,h.sd.tables,h.sd.eV,h.sd.tB,h.sd.nB,h.sd.nL,h.sd.nQ,h.sd.nE,h.sd.nO,h.sd.nT,h.sd.nn⟩,h.up,h.To,h.pos,h.nl,h.SQ,h.jK,h.FQ,h.nB,h.nO,h.LN,h.nE,h.RE,h.nT,h.SR,h.nQ,h.K0,h.dS⟩
theorem RG.O7 {s:aM} {v:SV} (r:RG s v) (hs:1≤s.cFg.jK) {n:Int} (h0:s.now≤n) (h1:n≤1099511627776):RG { s with now:=n } v :=
 ⟨⟨by have:=r.now.1;show 0≤n;omega,h1⟩,r.j,r.f,fun a ha=>⟨(r.nd a ha).1,by have:=(r.nd a ha).2;show a.block.slot≤n;omega⟩,r.or,r.rt,⟨r.fe.1,Int.le_trans r.fe.2 (show mO s s.now≤mO s n from MG hs r.now.1 h0 (by omega))⟩,r.ds,r.tb,r.ne⟩
theorem MR {c:Config} {b:List Int} (h:Fe c b):aJ (wQ c b).ns c.dY=0∧aJ (wQ c b).ns (mkRoot 9)=-1:=by
 have e:(wQ c b).ns=[⟨TB c,-1,1⟩]:=rfl
 rw[e,DZ,DZ,if_pos (show (TB c).root=c.dY from rfl),if_neg (show ¬(TB c).root=mkRoot 9 by show ¬c.dY=mkRoot 9;rw[h.gen];exact aLy (by omega) (by omega) (by omega) (by omega) (by omega))]
 exact⟨rfl,rfl⟩
end Go.Ab.Tryz
namespace Go.Ab.Tryz
open Classical Go.Proofs Go.Ab
open Classical Go.Proofs Go.Ab
end Go.Ab.Tryz
namespace Go.Ab.Tryz
open Classical Go.Proofs Go.Ab
def uo {α:Type} (e sz:Nat) (c:List α→List AV):Option (List α)→AV
 | none=>.v (.slice none 0 0)
 | some l=>.uniq e sz l.length (c l)
def rl {α:Type} (e sz:Nat) (c:List α→List AV):Option (List α)→List mV
 | none=>[]
 | some l=>[.row e sz l.length (c l)]
def rv {α:Type} (d k:Nat):Option (List α)→AV
 | none=>.v (.slice none 0 0)
 | some _=>.own d k
def RH (d:Nat) (es:List mV):Option (Nat × List mV):=if es=[] then none else some (d,es)
theorem P5 (st:St) (d:Nat):st.news d []=st:=by
 unfold St.news;cases st with
 | mk env heap aQ =>
   simp only[List.length_nil,Nat.not_lt_zero,and_false,if_false,Nat.add_zero,St.mk.injEq,true_and];funext s
   split
   ·rename_i h;rw[h]
   ·rfl
theorem u9 (x:Option Nat) (v:AV) (d:Nat) (es:List mV) (st:St):({ dst:=x,val:=v,new:=RH d es }:qW).apply st=(st.news d es).put x v:=by
 unfold RH;by_cases h:es=[]
 ·rw[if_pos h,h,P5];rfl
 ·rw[if_neg h];rfl
theorem P6 (st:St) (t d:Nat) (es:List mV):(st.news d es).env t=st.env t:=rfl
theorem P7 (st:St) (t d:Nat) (es:List mV):(st.news d es).aQ t=if t=d then st.aQ d+es.length else st.aQ t:=rfl
theorem xV (st:St) (s g d:Nat) (es:List mV):(st.news d es).heap s g=if s=d∧st.aQ d≤g∧g-st.aQ d<es.length then es[g-st.aQ d]? else st.heap s g:=rfl
theorem Eh {α:Type} {call:Nat→List AV→Option AV} {g e sz d:Nat} {args:List AV} {c:List α→List AV} {L:Option (List α)} {st:St} (hf:∀x∈args,Flat x) (h:call g args=some (uo e sz c L)) :
 aN call g args st (some d)=some { dst:=some d,val:=rv d (st.aQ d) L,new:=RH d (rl e sz c L)}:=by
 cases L with
 | none =>
   simp only[aN,if_pos hf,h,cN,uo,iP,if_pos (Flat.v _),rv,rl,RH];rfl
 | some l=>rw[jA hf h];simp only[rv,rl,RH,List.cons_ne_nil,if_false]
theorem qU {α:Type} {st:St} {d k e sz:Nat} {c:List α→List AV} {L:Option (List α)} (hh:∀l,L=some l→st.heap d k=some (.row e sz l.length (c l))) (hf:∀l,L=some l→∀x∈c l,Flat x):kA st (rv d k L)=some (uo e sz c L):=by
 cases L with
 | none=>exact if_pos (Flat.v _)
 | some l =>
   have hn:¬Flat (.own d k):=by intro h;cases h
   simp only[rv,uo,kA,if_neg hn,hh l rfl,if_pos (hf l rfl)]
theorem YB {α:Type} {c:List α→List AV} {z:Nat} (hc:∀l,(c l).length=l.length * z) (hz:0<z) {l:List α} (h:l≠[]):c l≠[]:=by
 intro he;have h1:=hc l
 rw[he] at h1;have h2:0<l.length:=List.length_pos_iff.mpr h
 have:=Nat.mul_pos h2 hz
 simp only[List.length_nil] at h1;omega
theorem aQk (L:Option (List Int)) (h:L≠some []) (hn:((ol L).length:Int)<1000000):aB Tryz.prog 160 [ov bH L]=some (uo 23 1 bH L):=by
 cases L with
 | none =>
   unfold ov;rw[cL Tryz.func160 rfl aEx rfl];simp only[Z8,seval];exact bP rfl (by simp only[E8,seval]<;>rfl) (.v _)
 | some l =>
   have hl:l≠[]:=fun h2=>h (by rw[h2])
   have gR:bH l≠[]:=YB (z:=1) (fun l=>by simp[Qs]) (by omega) hl
   have ha:=fun s g=>Mw (e:=23) (sz:=1) (by_:=8) (s:=s) (g:=g) (n:=l.length) (cs:=bH l) (by simp[Qs]) (by simp only[ol,Option.getD_some] at hn;omega) (by simp only[ol,Option.getD_some] at hn;unfold maxLen;omega)
   unfold ov;rw[cL Tryz.func160 rfl aEx rfl];simp only[Z8,seval,gR,ha];exact sU rfl (by simp only[E8,seval];rfl) (by simp only[E8,seval]) (iD _)
theorem aLz (L:Option (List Int)) (h:L≠some []) (hn:((ol L).length:Int)<1000000) (st:St) (d:Nat):aN (aB Tryz.prog) 160 [ov bH L] st (some d)=some { dst:=some d,val:=rv d (st.aQ d) L,new:=RH d (rl 23 1 bH L)}:=Eh (cK (dU L)) (aQk L h hn)
theorem aQl (L:Option (List iV)) (h:L≠some []) (hn:((ol L).length:Int)<1000000):aB Tryz.prog 190 [ov bW L]=some (uo 100 34 bW L):=by
 cases L with
 | none =>
   unfold ov;rw[cL Tryz.func190 rfl aEy rfl];simp only[Z8,seval];exact bP rfl (by simp only[E8,seval]<;>rfl) (.v _)
 | some l =>
   have hl:l≠[]:=fun h2=>h (by rw[h2])
   have gR:bW l≠[]:=YB (z:=34) (fun l=>by simp) (by omega) hl
   have ha:=fun s g=>Mw (e:=100) (sz:=34) (by_:=48) (s:=s) (g:=g) (n:=l.length) (cs:=bW l) (by simp) (by simp only[ol,Option.getD_some] at hn;omega) (by simp only[ol,Option.getD_some] at hn;unfold maxLen;omega)
   unfold ov;rw[cL Tryz.func190 rfl aEy rfl];simp only[Z8,seval,gR,ha];exact sU rfl (by simp only[E8,seval];rfl) (by simp only[E8,seval]) (qG _)
theorem aQm (L:Option (List iV)) (h:L≠some []) (hn:((ol L).length:Int)<1000000) (st:St) (d:Nat):aN (aB Tryz.prog) 190 [ov bW L] st (some d)=some { dst:=some d,val:=rv d (st.aQ d) L,new:=RH d (rl 100 34 bW L)}:=Eh (cK (qF L)) (aQl L h hn)
theorem aQn (L:Option (List Int)) (h:L≠some []) (hn:((ol L).length:Int)<1000000):aB Tryz.prog 191 [ov aH L]=some (uo 3 1 aH L):=by
 cases L with
 | none =>
   unfold ov;rw[cL Tryz.func191 rfl aEz rfl];simp only[Z8,seval];exact bP rfl (by simp only[E8,seval]<;>rfl) (.v _)
 | some l =>
   have hl:l≠[]:=fun h2=>h (by rw[h2])
   have gR:aH l≠[]:=YB (z:=1) (fun l=>by simp[Iz]) (by omega) hl
   have ha:=fun s g=>Mw (e:=3) (sz:=1) (by_:=8) (s:=s) (g:=g) (n:=l.length) (cs:=aH l) (by simp[Iz]) (by simp only[ol,Option.getD_some] at hn;omega) (by simp only[ol,Option.getD_some] at hn;unfold maxLen;omega)
   unfold ov;rw[cL Tryz.func191 rfl aEz rfl];simp only[Z8,seval,gR,ha];exact sU rfl (by simp only[E8,seval];rfl) (by simp only[E8,seval]) (gB _)
theorem aLA (L:Option (List Int)) (h:L≠some []) (hn:((ol L).length:Int)<1000000) (st:St) (d:Nat):aN (aB Tryz.prog) 191 [ov aH L] st (some d)=some { dst:=some d,val:=rv d (st.aQ d) L,new:=RH d (rl 3 1 aH L)}:=Eh (cK (bE L)) (aQn L h hn)
theorem aQo (L:Option (List Block)) (h:L≠some []) (hn:((ol L).length:Int)<1000000):aB Tryz.prog 164 [ov aL L]=some (uo 74 238 aL L):=by
 cases L with
 | none =>
   unfold ov;rw[cL Tryz.func164 rfl aEA rfl];simp only[Z8,seval];exact bP rfl (by simp only[E8,seval]<;>rfl) (.v _)
 | some l =>
   have hl:l≠[]:=fun h2=>h (by rw[h2])
   have gR:aL l≠[]:=YB (z:=238) (fun l=>by simp) (by omega) hl
   have ha:=fun s g=>Mw (e:=74) (sz:=238) (by_:=336) (s:=s) (g:=g) (n:=l.length) (cs:=aL l) (by simp) (by simp only[ol,Option.getD_some] at hn;omega) (by simp only[ol,Option.getD_some] at hn;unfold maxLen;omega)
   unfold ov;rw[cL Tryz.func164 rfl aEA rfl];simp only[Z8,seval,gR,ha];exact sU rfl (by simp only[E8,seval];rfl) (by simp only[E8,seval]) (qO _)
theorem aQp (L:Option (List Block)) (h:L≠some []) (hn:((ol L).length:Int)<1000000) (st:St) (d:Nat):aN (aB Tryz.prog) 164 [ov aL L] st (some d)=some { dst:=some d,val:=rv d (st.aQ d) L,new:=RH d (rl 74 238 aL L)}:=Eh (cK (Dt L)) (aQo L h hn)
theorem vY {α:Type} {st:St} {d k e sz:Nat} {c:List α→List AV} {L:Option (List α)} (hh:∀l,L=some l→st.heap d k=some (.row e sz l.length (c l))) (hf:∀l,L=some l→∀x∈c l,Flat x):dA st (rv d k L)=some (ov c L):=by
 cases L with
 | none=>exact if_pos (Flat.v _)
 | some l =>
   have hn:¬Flat (.own d k):=by intro h;cases h
   simp only[rv,ov,dA,if_neg hn,hh l rfl,if_pos (hf l rfl)]
theorem P8 {α:Type} (d k:Nat) (L:Option (List α)):(rv d k L).cells=[rv d k L]:=by cases L<;>rfl
theorem aBR {α:Type} (d k:Nat) (L:Option (List α)):(rv d k L).jI=true:=by cases L<;>rfl
def NW:=aj (aj (aj @u9 @P6) (aj @P7 @xV)) (aj @P8 @aBR)
theorem aQq (a:oY) (V:Option (List Int)) (ha:a.dX=ov aH V) (h:V≠some []) (hn:((ol V).length:Int)<1000000):aB Tryz.prog 163 [.agg (eH a)]=some (.agg (eH a)):=by
 rw[cL Tryz.func163 rfl aLB rfl];simp only[Z8,seval,ha,aLA V h hn,NW];refine eG rfl (by simp only[E8,seval,NW]<;>rfl) (cs:=eH { a with dX:=rv 5 0 V }) (by simp only[Z8,seval,NW]<;>rfl) ?_
 rw[bM,kJ,vY (e:=3) (sz:=1) (c:=aH) (L:=V) ?h (fun l _=>gB l),cN,cN,← ha]
 case h =>
  intro l hl;subst hl;simp only[E8,seval,xV,rl,List.length_cons,Nat.lt_add_left_iff_pos,Nat.zero_lt_succ,if_true]
end Go.Ab.Tryz
namespace Go.Ab
open Classical
theorem Nr [Ext] {P:Program} {call:Nat→List AV→Option AV} {ops:Array Oper} {d:Option Nat} {T:Nat} {pos:String} {eU:Array Edge} {st:St} (t:Nat) (args:Array Operand) (sQ:Array Nat) (g:Nat) (h:st.env t=.v (.func (.func g) #[] #[])):cC P call ops ⟨d,.call ⟨.value (.tmp t),args,sQ⟩,T,pos,eU,none⟩ st=cH (aN call g (args.toList.map st.ev) st d) fun e=>some (e.apply st):=by
 rw[eD];simp only[dN,iU,mY,St.ev,h,EX,and_self,if_true,List.append_nil];cases aN call g (args.toList.map st.ev) st d<;>rfl
end Go.Ab
namespace Go.Ab.Tryz
open Classical Go.Proofs Go.Ab
theorem aQr (a:Table) (V:Option (List Int)) (ha:a.iA=ov bH V) (h:V≠some []) (hn:((ol V).length:Int)<1000000):aB Tryz.prog 194 [.agg (bZ a)]=some (.agg (bZ a)):=by
 rw[cL Tryz.func194 rfl aLC rfl];simp only[Z8,seval,ha,aLz V h hn,NW];refine eG rfl (by simp only[E8,seval,NW]<;>rfl) (cs:=bZ { a with iA:=rv 5 0 V }) (by simp only[Z8,seval,NW]<;>rfl) ?_
 rw[bM,sO,vY (e:=23) (sz:=1) (c:=bH) (L:=V) ?h (fun l _=>iD l),cN,cN,← ha]
 case h =>
  intro l hl;subst hl;simp only[E8,seval,xV,rl,List.length_cons,Nat.lt_add_left_iff_pos,Nat.zero_lt_succ,if_true]
theorem YC {α:Type} (z:α) (l:List α) (k:Nat) (h:k<l.length):l.take k++[gx z l (k:Int)]=l.take (k+1):=by
 rw[List.take_succ_eq_append_getElem h];congr 2
 simp[gx,h]
theorem aQs (E:Option (List oY)) (h:E≠some []) (hn:((ol E).length:Int)<1000000) (hE:∀a∈ol E,∃V,a.dX=ov aH (some V)∧V≠[]) (hA:∀a∈ol E,Ce a) :
 aB Tryz.prog 162 [ov dO E,.v (.func (.func 163) #[] #[])]=some (uo 87 67 dO E):=by
 have oD:∀y∈ol E,Flat y.dX:=fun y m=>(hA y m).fl
 have kg:∀k:Nat,k<(ol E).length→∀(st:St) (d:Option Nat),aN (aB Tryz.prog) 163 [.agg (eH (gx Hc (ol E) (k:Int)))] st d=some { dst:=d,val:=.agg (eH (gx Hc (ol E) (k:Int)))}:=by
  intro k hk st d;have hm:gx Hc (ol E) (k:Int)∈ol E:=by
   have:gx Hc (ol E) (k:Int)=(ol E)[k]:=by simp[gx,hk]
   rw[this];exact List.getElem_mem hk
  obtain⟨V,hV,hV2⟩:=hE _ hm
  obtain⟨V',hV',Fa⟩:=hA _ hm
  have hfa:Flat (.agg (eH (gx Hc (ol E) (k:Int)))):=(qE _).2 (hA _ hm).fl
  have e0:((ol (some V)).length:Int)<1000000:=by
   have h0:ov aH (some V)=ov aH V':=by rw[← hV,← hV']
   cases V' with
   | none=>cases h0
   | some W =>
     simp only[ov,AV.sl.injEq] at h0;simp only[ol,Option.getD_some] at Fa ⊢
     omega
  exact kx (aQq _ (some V) hV (by simpa using hV2) e0) (cK hfa) hfa st d
 have hu:([ov dO E,.v (.func (.func 163) #[] #[])]:List AV).any sZ=false:=by cases E<;>rfl
 rw[cL Tryz.func162 rfl aLE hu];simp only[Z8,seval];refine jP (fun m st=>∃k:Nat,(st.env 8=ov dO E∧st.env 9=.v (.int .i64 (ol E).length)∧st.env 10=.v (.int .i64 k)∧st.env 1=.v (.func (.func 163) #[] #[]))∧((k=0∧st.env 5=.v (.slice none 0 0))∨(0<k∧∃j,st.env 5=.own 19 j∧st.heap 19 j=some (.row 87 67 ((ol E).take k).length (dO ((ol E).take k)))))∧k≤(ol E).length∧m=(ol E).length-k)
  (fun e st=>e=.exit 0∧((ol E=[]∧st.env 5=.v (.slice none 0 0))∨(ol E≠[]∧∃j,st.env 5=.own 19 j∧st.heap 19 j=some (.row 87 67 (ol E).length (dO (ol E)))))) (ol E).length ?step ?start ?rest
 case step =>
  rintro m st ⟨k,hI,hR,hk,hm⟩
  by_cases aZ:(k:Int)<(ol E).length
  ·have q0:(0:Int)≤k:=by omega
   have hw:IntKind.i64.wrap ((k:Int)+1)=((k+1:Nat):Int):=by rw[pV _ (by omega) (by omega)];omega
   have ht:=YC Hc (ol E) k (by omega)
   have kk:=kg k (by omega)
   rcases hR with ⟨vM,h5⟩|⟨vM,j,h5,h6⟩
   ·have ht':[gx Hc (ol E) (k:Int)]=(ol E).take (k+1):=by rw[← ht,show (ol E).take k=[] by rw[vM,List.take_zero],List.nil_append]
    apply oN ((ol E).length-(k+1))
    ·simp only[Z8,seval,hI,h5,aZ,q0,kk,Nr 15 _ _ 163,GG,hw];rfl
    ·exact⟨k+1,⟨by simp only[E8,seval,hI],by simp only[E8,seval,hI],by simp only[E8,seval],by simp only[E8,seval,hI]⟩,.inr ⟨by omega,_,by simp only[E8,seval]<;>rfl,by rw[← ht'];simp only[E8,seval]<;>rfl⟩,by omega,rfl⟩
   ·have ao:=fun s g=>Uv ((ol E).take k) (gx Hc (ol E) (k:Int)) s g (by rw[List.length_take];omega)
    apply oN ((ol E).length-(k+1))
    ·simp only[Z8,seval,hI,h5,h6,aZ,q0,kk,Nr 15 _ _ 163,ao,hw];rfl
    ·exact⟨k+1,⟨by simp only[E8,seval,hI],by simp only[E8,seval,hI],by simp only[E8,seval],by simp only[E8,seval,hI]⟩,.inr ⟨by omega,_,by simp only[E8,seval]<;>rfl,by rw[← ht];simp only[E8,seval]<;>rfl⟩,by omega,rfl⟩
  ·have Ez:k=(ol E).length:=by omega
   have hF:(ol E=[]∧st.env 5=.v (.slice none 0 0))∨(ol E≠[]∧∃j,st.env 5=.own 19 j∧st.heap 19 j=some (.row 87 67 (ol E).length (dO (ol E)))):=by
    rcases hR with ⟨vM,h5⟩|⟨vM,j,h5,h6⟩
    ·exact .inl ⟨List.eq_nil_of_length_eq_zero (by omega),h5⟩
    ·exact .inr ⟨by intro h0;rw[h0] at Ez;simp at Ez;omega,j,h5,by rw[h6,Ez,List.take_length]⟩
   apply oT (.exit 0)
   ·simp only[Z8,seval,hI,aZ];rfl
   ·exact⟨rfl,by simp only[E8,seval];exact hF⟩
 case start=>exact⟨0,by simp only[E8,seval]<;>exact⟨rfl,rfl,rfl,rfl⟩,.inl ⟨rfl,by simp only[E8,seval]<;>rfl⟩,by omega,by omega⟩
 case rest =>
  rintro e st ⟨rfl,hR⟩
  rcases hR with ⟨h0,h5⟩|⟨h0,j,h5,h6⟩
  ·simp only[Z8,seval,h5];cases E with
   | none=>exact bP rfl (by simp only[E8,seval]<;>rfl) (.v _)
   | some l=>exact absurd (show (some l:Option (List oY))=some [] by rw[show l=[] from h0]) h
  ·simp only[Z8,seval,h5];cases E with
   | none=>exact absurd rfl h0
   | some l=>exact sU rfl (by simp only[E8,seval];rfl) (by simp only[E8,seval];exact h6) (uS _ oD)
theorem aQw (E:Option (List oY)) (h:E≠some []) (hn:((ol E).length:Int)<1000000) (hE:∀a∈ol E,∃V,a.dX=ov aH (some V)∧V≠[]) (hA:∀a∈ol E,Ce a) (st:St) (d:Nat) :
 aN (aB Tryz.prog) 162 [ov dO E,.v (.func (.func 163) #[] #[])] st (some d)=some { dst:=some d,val:=rv d (st.aQ d) E,new:=RH d (rl 87 67 dO E)} :=
 Eh (fun x m=>by
  rcases List.mem_cons.1 m with rfl|m
  ·exact Wa E fun y m=>(hA y m).fl
  ·rw[List.mem_singleton.1 m];exact .v _) (aQs E h hn hE hA)
theorem aQx (E:Option (List Table)) (h:E≠some []) (hn:((ol E).length:Int)<1000000) (hE:∀a∈ol E,∃V,a.iA=ov bH (some V)∧V≠[]) (hA:∀a∈ol E,rK a) :
 aB Tryz.prog 193 [ov aR E,.v (.func (.func 194) #[] #[])]=some (uo 118 34 aR E):=by
 have oD:∀y∈ol E,Flat y.iA:=fun y m=>(hA y m).fl
 have kg:∀k:Nat,k<(ol E).length→∀(st:St) (d:Option Nat),aN (aB Tryz.prog) 194 [.agg (bZ (gx iT (ol E) (k:Int)))] st d=some { dst:=d,val:=.agg (bZ (gx iT (ol E) (k:Int)))}:=by
  intro k hk st d;have hm:gx iT (ol E) (k:Int)∈ol E:=by
   have:gx iT (ol E) (k:Int)=(ol E)[k]:=by simp[gx,hk]
   rw[this];exact List.getElem_mem hk
  obtain⟨V,hV,hV2⟩:=hE _ hm
  obtain⟨V',hV',Fa⟩:=hA _ hm
  have hfa:Flat (.agg (bZ (gx iT (ol E) (k:Int)))):=(jX _).2 (hA _ hm).fl
  have e0:((ol (some V)).length:Int)<1000000:=by
   have h0:ov bH (some V)=ov bH V':=by rw[← hV,← hV']
   cases V' with
   | none=>cases h0
   | some W =>
     simp only[ov,AV.sl.injEq] at h0;simp only[ol,Option.getD_some] at Fa ⊢
     omega
  exact kx (aQr _ (some V) hV (by simpa using hV2) e0) (cK hfa) hfa st d
 have hu:([ov aR E,.v (.func (.func 194) #[] #[])]:List AV).any sZ=false:=by cases E<;>rfl
 rw[cL Tryz.func193 rfl aLF hu];simp only[Z8,seval];refine jP (fun m st=>∃k:Nat,(st.env 8=ov aR E∧st.env 9=.v (.int .i64 (ol E).length)∧st.env 10=.v (.int .i64 k)∧st.env 1=.v (.func (.func 194) #[] #[]))∧((k=0∧st.env 5=.v (.slice none 0 0))∨(0<k∧∃j,st.env 5=.own 19 j∧st.heap 19 j=some (.row 118 34 ((ol E).take k).length (aR ((ol E).take k)))))∧k≤(ol E).length∧m=(ol E).length-k)
  (fun e st=>e=.exit 0∧((ol E=[]∧st.env 5=.v (.slice none 0 0))∨(ol E≠[]∧∃j,st.env 5=.own 19 j∧st.heap 19 j=some (.row 118 34 (ol E).length (aR (ol E)))))) (ol E).length ?step ?start ?rest
 case step =>
  rintro m st ⟨k,hI,hR,hk,hm⟩
  by_cases aZ:(k:Int)<(ol E).length
  ·have q0:(0:Int)≤k:=by omega
   have hw:IntKind.i64.wrap ((k:Int)+1)=((k+1:Nat):Int):=by rw[pV _ (by omega) (by omega)];omega
   have ht:=YC iT (ol E) k (by omega)
   have kk:=kg k (by omega)
   rcases hR with ⟨vM,h5⟩|⟨vM,j,h5,h6⟩
   ·have ht':[gx iT (ol E) (k:Int)]=(ol E).take (k+1):=by rw[← ht,show (ol E).take k=[] by rw[vM,List.take_zero],List.nil_append]
    apply oN ((ol E).length-(k+1))
    ·simp only[Z8,seval,hI,h5,aZ,q0,kk,Nr 15 _ _ 194,EA,hw];rfl
    ·exact⟨k+1,⟨by simp only[E8,seval,hI],by simp only[E8,seval,hI],by simp only[E8,seval],by simp only[E8,seval,hI]⟩,.inr ⟨by omega,_,by simp only[E8,seval]<;>rfl,by rw[← ht'];simp only[E8,seval]<;>rfl⟩,by omega,rfl⟩
   ·have ao:=fun s g=>Qi ((ol E).take k) (gx iT (ol E) (k:Int)) s g (by rw[List.length_take];omega)
    apply oN ((ol E).length-(k+1))
    ·simp only[Z8,seval,hI,h5,h6,aZ,q0,kk,Nr 15 _ _ 194,ao,hw];rfl
    ·exact⟨k+1,⟨by simp only[E8,seval,hI],by simp only[E8,seval,hI],by simp only[E8,seval],by simp only[E8,seval,hI]⟩,.inr ⟨by omega,_,by simp only[E8,seval]<;>rfl,by rw[← ht];simp only[E8,seval]<;>rfl⟩,by omega,rfl⟩
  ·have Ez:k=(ol E).length:=by omega
   have hF:(ol E=[]∧st.env 5=.v (.slice none 0 0))∨(ol E≠[]∧∃j,st.env 5=.own 19 j∧st.heap 19 j=some (.row 118 34 (ol E).length (aR (ol E)))):=by
    rcases hR with ⟨vM,h5⟩|⟨vM,j,h5,h6⟩
    ·exact .inl ⟨List.eq_nil_of_length_eq_zero (by omega),h5⟩
    ·exact .inr ⟨by intro h0;rw[h0] at Ez;simp at Ez;omega,j,h5,by rw[h6,Ez,List.take_length]⟩
   apply oT (.exit 0)
   ·simp only[Z8,seval,hI,aZ];rfl
   ·exact⟨rfl,by simp only[E8,seval];exact hF⟩
 case start=>exact⟨0,by simp only[E8,seval]<;>exact⟨rfl,rfl,rfl,rfl⟩,.inl ⟨rfl,by simp only[E8,seval]<;>rfl⟩,by omega,by omega⟩
 case rest =>
  rintro e st ⟨rfl,hR⟩
  rcases hR with ⟨h0,h5⟩|⟨h0,j,h5,h6⟩
  ·simp only[Z8,seval,h5];cases E with
   | none=>exact bP rfl (by simp only[E8,seval]<;>rfl) (.v _)
   | some l=>exact absurd (show (some l:Option (List Table))=some [] by rw[show l=[] from h0]) h
  ·simp only[Z8,seval,h5];cases E with
   | none=>exact absurd rfl h0
   | some l=>exact sU rfl (by simp only[E8,seval];rfl) (by simp only[E8,seval];exact h6) (mK _ oD)
theorem aQy (E:Option (List Table)) (h:E≠some []) (hn:((ol E).length:Int)<1000000) (hE:∀a∈ol E,∃V,a.iA=ov bH (some V)∧V≠[]) (hA:∀a∈ol E,rK a) (st:St) (d:Nat) :
 aN (aB Tryz.prog) 193 [ov aR E,.v (.func (.func 194) #[] #[])] st (some d)=some { dst:=some d,val:=rv d (st.aQ d) E,new:=RH d (rl 118 34 aR E)} :=
 Eh (fun x m=>by
  rcases List.mem_cons.1 m with rfl|m
  ·exact lG E fun y m=>(hA y m).fl
  ·rw[List.mem_singleton.1 m];exact .v _) (aQx E h hn hE hA)
theorem MS (f:Nat→AV→AV × List mV) (c:Nat) (xs ys:List AV):pU f c (xs++ys)=((pU f c xs).1++(pU f (c+(pU f c xs).2.length) ys).1,(pU f c xs).2++(pU f (c+(pU f c xs).2.length) ys).2):=by
 induction xs generalizing c with
 | nil=>simp[pU]
 | cons x xs ih=>simp only[List.cons_append,pU,ih,List.length_append,Nat.add_assoc,List.append_assoc]
theorem Ja (d c:Nat) {x:AV} (h:Flat x):xY d c x=(x,[]):=by cases h<;>rfl
theorem xW (d c:Nat) {xs:List AV} (h:∀x∈xs,Flat x):pU (xY d) c xs=(xs,[]):=by
 induction xs generalizing c with
 | nil=>rfl
 | cons x xs ih=>simp only[pU,Ja d c (h x (by simp)),List.length_nil,Nat.add_zero,ih c fun y m=>h y (by simp[m]),List.nil_append]
theorem GN {α:Type} (d c e sz:Nat) (cs:List α→List AV) (L:Option (List α)):pU (xY d) c [uo e sz cs L]=([rv d c L],rl e sz cs L):=by cases L<;>rfl
theorem YD {call:Nat→List AV→Option AV} {g d:Nat} {args cs:List AV} {st:St} (hf:∀x∈args,Flat x) (h:call g args=some (.agg cs)) (hn:Flat (.agg cs)∨(pU (xY d) (st.aQ d) cs).2≠[]) :
 aN call g args st (some d)=some { dst:=some d,val:=.agg (pU (xY d) (st.aQ d) cs).1,new:=RH d (pU (xY d) (st.aQ d) cs).2 }:=by
 unfold aN;rw[if_pos hf,h,cN];unfold iP;by_cases hF:Flat (.agg cs)
 ·have hc:∀x∈cs,Flat x:=by cases hF with|agg _ h=>exact h
  rw[if_pos hF,xW d _ hc];rfl
 ·rw[if_neg hF];have h2:=hn.resolve_left hF
  simp only[RH,if_neg h2];rfl
noncomputable def AQ (st:St) (cs:List AV):Option (List AV):=bY (cs.map (kA st))
theorem MT (st:St) (a b:List AV):AQ st (a++b)=cH (AQ st a) fun x=>cH (AQ st b) fun y=>some (x++y):=by
 unfold AQ;induction a with
 | nil=>simp[bY,cH];cases bY (b.map (kA st))<;>rfl
 | cons c a ih =>
   simp only[List.cons_append,List.map_cons];cases kA st c with
   | none=>rfl
   | some c' =>
     simp only[bY,ih];cases bY (a.map (kA st))<;>simp[cH]<;>cases bY (b.map (kA st))<;>rfl
theorem Cq {st:St} {cs:List AV} (h:∀c∈cs,Flat c):AQ st cs=some cs:=by
 unfold AQ;induction cs with
 | nil=>rfl
 | cons c cs ih =>
   have h1:kA st c=some c:=if_pos (h c (by simp))
   simp only[List.map_cons,h1,bY,ih fun x hx=>h x (by simp[hx]),Option.map_some]
theorem tM {st:St} {x y:AV} (h:kA st x=some y):AQ st [x]=some [y]:=by simp only[AQ,List.map_cons,List.map_nil,h,bY,Option.map_some]
theorem EB {st:St} {cs ys:List AV} (h:AQ st cs=some ys):By st (.agg cs)=some (.agg ys):=by
 show (bY (cs.map (kA st))).map AV.agg=_
 rw[show bY (cs.map (kA st))=some ys from h];rfl
theorem MU {x:AV} (h:Flat x):gK x=[]:=by cases h<;>rfl
theorem lJ {cs:List AV} (h:∀c∈cs,Flat c):cs.flatMap gK=[]:=by
 induction cs with
 | nil=>rfl
 | cons c cs ih=>rw[List.flatMap_cons,MU (h c (by simp)),ih fun x hx=>h x (by simp[hx]),List.nil_append]
theorem EC {α:Type} (d k:Nat) (L:Option (List α)):gK (rv d k L)=if L.isSome then [(d,k)] else []:=by cases L<;>rfl
theorem P9 (st:St) (g:Nat):st.ev (.func g)=.v (.func (.func g) #[] #[]):=rfl
theorem aQz (T:Option (List Table)) (h:T≠some []) (hn:((ol T).length:Int)<1000000) (hE:∀a∈ol T,∃V,a.iA=ov bH (some V)∧V≠[]) (hA:∀a∈ol T,rK a):aB Tryz.prog 166 [ov aR T]=some (uo 118 34 aR T):=by
 have oD:∀y∈ol T,Flat y.iA:=fun y m=>(hA y m).fl
 rw[cL Tryz.func166 rfl aLG (by cases T<;>rfl)]
 simp only[Z8,seval,P9,aQy T h hn hE hA,NW];cases T with
 | none=>exact bP rfl (by simp only[E8,seval]<;>rfl) (.v _)
 | some l=>exact sU rfl (by simp only[E8,seval]<;>rfl) (by simp only[E8,seval,xV,rl,List.length_cons,Nat.lt_add_left_iff_pos,Nat.zero_lt_succ,if_true]<;>rfl) (mK _ oD)
theorem aQA (T:Option (List Table)) (h:T≠some []) (hn:((ol T).length:Int)<1000000) (hE:∀a∈ol T,∃V,a.iA=ov bH (some V)∧V≠[]) (hA:∀a∈ol T,rK a) (st:St) (d:Nat) :
 aN (aB Tryz.prog) 166 [ov aR T] st (some d)=some { dst:=some d,val:=rv d (st.aQ d) T,new:=RH d (rl 118 34 aR T)}:=Eh (cK (lG T fun y m=>(hA y m).fl)) (aQz T h hn hE hA)
theorem aQB (L:Option (List iV)) (Q:Option (List Int)) (h1:L≠some []) (h2:Q≠some []) (n1:((ol L).length:Int)<1000000) (n2:((ol Q).length:Int)<1000000) :
 aB Tryz.prog 161 [.agg (eW ⟨ov bW L,ov aH Q⟩)]=some (.agg (eW ⟨uo 100 34 bW L,uo 3 1 aH Q⟩)):=by
 rw[cL Tryz.func161 rfl aLH rfl];simp only[Z8,seval,aQm L h1 n1,aLA Q h2 n2,NW];refine Vr rfl (.inl rfl) rfl (x:=.agg (eW ⟨rv 5 0 L,rv 8 0 Q⟩)) (by simp only[bK,Z8,seval,NW]) ?_ (EB ?_)
 ·simp only[lF,iQ,eW,List.flatMap_append,List.flatMap_cons,List.flatMap_nil,List.append_nil,EC];cases L<;>cases Q<;>simp
 ·unfold eW;rw[MT,tM (qU (e:=100) (sz:=34) (c:=bW) ?_ fun l _=>qG l),cN,tM (qU (e:=3) (sz:=1) (c:=aH) ?_ fun l _=>gB l),cN]
  ·intro l hl;subst hl;simp only[E8,seval,xV,rl,List.length_cons,Nat.lt_add_left_iff_pos,Nat.zero_lt_succ,if_true]<;>rfl
  ·intro l hl;subst hl;simp only[E8,seval,xV,rl,List.length_cons,Nat.lt_add_left_iff_pos,Nat.zero_lt_succ,if_true]<;>rfl
theorem Xc (d c:Nat) (L:Option (List iV)) (Q:Option (List Int)):pU (xY d) c (eW ⟨uo 100 34 bW L,uo 3 1 aH Q⟩)=(eW ⟨rv d c L,rv d (c+(rl 100 34 bW L).length) Q⟩,rl 100 34 bW L++rl 3 1 aH Q):=by
 unfold eW;rw[MS,GN,GN]
theorem aQC (L:Option (List iV)) (Q:Option (List Int)) (h1:L≠some []) (h2:Q≠some []) (n1:((ol L).length:Int)<1000000) (n2:((ol Q).length:Int)<1000000) (st:St) (d:Nat) :
 aN (aB Tryz.prog) 161 [.agg (eW ⟨ov bW L,ov aH Q⟩)] st (some d)=some { dst:=some d,val:=.agg (eW ⟨rv d (st.aQ d) L,rv d (st.aQ d+(rl 100 34 bW L).length) Q⟩),new:=RH d (rl 100 34 bW L++rl 3 1 aH Q)}:=by
 rw[YD (cK (.agg _ (pZ _ (qF L) (bE Q)))) (aQB L Q h1 h2 n1 n2) ?_,Xc];rw[Xc];cases L with
 | some l=>exact .inr (by simp[rl])
 | none =>
   cases Q with
   | some q=>exact .inr (by simp[rl])
   | none=>exact .inl (.agg _ (pZ _ (.v _) (.v _)))
def v7 (s:aM) (b l q e o n t:AV):aM:={ s with cFg:={ s.cFg with iA:=b },eZ:=⟨l,q⟩,dZ:=⟨e,o⟩,tree:=⟨n⟩,tables:=t }
theorem TT {st:St} (s:aM) {b l q e o n t b' l' q' e' o' n' t':AV} (h1:kA st b=some b') (h2:kA st l=some l') (h3:kA st q=some q') (h4:kA st e=some e') (h5:kA st o=some o') (h6:kA st n=some n') (h7:kA st t=some t') :
 AQ st (aA (v7 s b l q e o n t))=some (aA (v7 s b' l' q' e' o' n' t')):=by
 simp only[v7,aA,bQ,eW,jQ,mD,MT,tM h1,tM h2,tM h3,tM h4,tM h5,tM h6,tM h7,Cq (tN _),Cq (eM _),Cq (iE _),Cq (dH _),Cq (kO _),cN]
theorem AR (s:aM) (b l q e o n t:AV):(aA (v7 s b l q e o n t)).flatMap gK=gK b++(gK l++(gK q++(gK e++(gK o++(gK n++gK t))))):=by
 simp only[v7,aA,bQ,eW,jQ,mD,List.flatMap_append,List.flatMap_cons,List.flatMap_nil,List.append_nil,lJ (tN _),lJ (eM _),lJ (iE _),lJ (dH _),lJ (kO _),List.nil_append,List.append_assoc]
theorem Ar {α:Type} (e sz:Nat) (c:List α→List AV) (l:List α):rl e sz c (some l)=[.row e sz l.length (c l)]:=rfl
theorem aQD {s:aM} {v:SV} (hs:SD s v) (gR:NEv v) (hB:v.B≠some []) (hL:v.L≠some []) (ht:0<v.ns.length) :
 aB Tryz.prog 109 [.agg (aA s)]=some (.agg (aA (v7 s (uo 23 1 bH v.B) (uo 100 34 bW v.L) (uo 3 1 aH v.Q) (uo 87 67 dO v.E) (uo 74 238 aL v.O) (.uniq 76 240 v.ns.length (cF v.ns)) (uo 118 34 aR v.T)))):=by
 have hv:s.eZ=⟨ov bW v.L,ov aH v.Q⟩:=by
  have h1:=hs.dR
  have h2:=hs.gT
  cases hc:s.eZ with
  | mk a b=>rw[hc] at h1 h2;simp only at h1 h2;rw[h1,h2]
 rw[cL Tryz.func109 rfl aLI rfl];simp only[Z8,seval,hs.iA,hv,hs.early,hs.bS,hs.tree,hs.tables,P9,NW,aLz v.B hB hs.nB,aQC v.L v.Q hL gR.q hs.nL hs.nQ,aQw v.E gR.e hs.nE gR.ea hs.eV,aQp v.O gR.o hs.nO,aN3 v.ns ht hs.nn,aQA v.T gR.t hs.nT gR.tb hs.tB];refine Vr rfl (.inl rfl) rfl (x:=.agg (aA (v7 s (rv 6 0 v.B) (rv 11 0 v.L) (rv 11 (rl 100 34 bW v.L).length v.Q) (rv 16 0 v.E) (rv 22 0 v.O) (.own 27 0) (rv 31 0 v.T)))) ?x1 ?x2 (EB (TT s ?b1 ?l1 ?q1 ?e1 ?o1 ?n1 ?t1))
 case x1=>simp only[bK,Z8,seval,NW,v7]
 case x2 =>
  show ((aA _).flatMap gK).Nodup
  rw[AR];simp only[EC,show ∀a b,gK (.own a b)=[(a,b)] from fun _ _=>rfl]
  cases v.B<;>cases hvl:v.L<;>cases v.Q<;>cases v.E<;>cases v.O<;>cases v.T<;>simp[rl]
 case b1=>exact qU (fun l hl=>by simp only[E8,seval,NW,hl,Ar,List.length_cons,List.length_nil,Nat.lt_add_left_iff_pos,Nat.zero_lt_succ,if_true]<;>rfl) fun l _=>iD l
 case l1 =>
  refine qU (fun l hl=>?_) fun l _=>qG l
  simp only[E8,seval,NW,hl,Ar];simp
 case q1 =>
  refine qU (fun l hl=>?_) fun l _=>gB l
  simp only[E8,seval,NW,hl,Ar];simp
 case e1=>exact qU (fun l hl=>by simp only[E8,seval,NW,hl,Ar,List.length_cons,List.length_nil,Nat.lt_add_left_iff_pos,Nat.zero_lt_succ,if_true]<;>rfl) fun l hl=>uS l fun y m=>(hs.eV y (by rw[hl];exact m)).fl
 case o1=>exact qU (fun l hl=>by simp only[E8,seval,NW,hl,Ar,List.length_cons,List.length_nil,Nat.lt_add_left_iff_pos,Nat.zero_lt_succ,if_true]<;>rfl) fun l _=>qO l
 case n1=>exact qU (L:=some v.ns) (fun l hl=>by cases hl;simp only[E8,seval,NW,Ar,List.length_cons,List.length_nil,Nat.lt_add_left_iff_pos,Nat.zero_lt_succ,if_true]<;>rfl) fun l _=>kN l
 case t1=>exact qU (fun l hl=>by simp only[E8,seval,NW,hl,Ar,List.length_cons,List.length_nil,Nat.lt_add_left_iff_pos,Nat.zero_lt_succ,if_true]<;>rfl) fun l hl=>mK l fun y m=>(hs.tB y (by rw[hl];exact m)).fl
theorem Q0 (d c e sz n:Nat) (cs:List AV):pU (xY d) c [.uniq e sz n cs]=([.own d c],[.row e sz n cs]):=rfl
def Sq (v:SV):List mV:=rl 23 1 bH v.B++(rl 100 34 bW v.L++(rl 3 1 aH v.Q++(rl 87 67 dO v.E++(rl 74 238 aL v.O++([.row 76 240 v.ns.length (cF v.ns)]++rl 118 34 aR v.T)))))
def nB (v:SV):Nat:=(rl 23 1 bH v.B).length
def nL (v:SV):Nat:=nB v+(rl 100 34 bW v.L).length
def nQ (v:SV):Nat:=nL v+(rl 3 1 aH v.Q).length
def nE (v:SV):Nat:=nQ v+(rl 87 67 dO v.E).length
def nO (v:SV):Nat:=nE v+(rl 74 238 aL v.O).length
def cpS (s:aM) (v:SV) (d c:Nat):aM:=v7 s (rv d c v.B) (rv d (c+nB v) v.L) (rv d (c+nL v) v.Q) (rv d (c+nQ v) v.E) (rv d (c+nE v) v.O) (.own d (c+nO v)) (rv d (c+nO v+1) v.T)
theorem Xd (s:aM) (v:SV) (d c:Nat):pU (xY d) c (aA (v7 s (uo 23 1 bH v.B) (uo 100 34 bW v.L) (uo 3 1 aH v.Q) (uo 87 67 dO v.E) (uo 74 238 aL v.O) (.uniq 76 240 v.ns.length (cF v.ns)) (uo 118 34 aR v.T)))=(aA (cpS s v d c),Sq v):=by
 simp only[v7,cpS,aA,bQ,eW,jQ,mD,MS,GN,Q0,xW d _ (tN _),xW d _ (eM _),xW d _ (iE _),xW d _ (dH _),xW d _ (kO _),List.nil_append,List.length_nil,Nat.add_zero,List.append_assoc,List.length_append,List.length_cons,Sq,nO,nE,nQ,nL,nB,Nat.add_assoc,List.append_nil]
theorem aQE {s:aM} {v:SV} (hs:SD s v) (gR:NEv v) (hB:v.B≠some []) (hL:v.L≠some []) (ht:0<v.ns.length) (st:St) (d:Nat) :
 aN (aB Tryz.prog) 109 [.agg (aA s)] st (some d)=some { dst:=some d,val:=.agg (aA (cpS s v d (st.aQ d))),new:=some (d,Sq v)}:=by
 have h0:Sq v≠[]:=by simp[Sq]
 rw[YD (cK hs.flat) (aQD hs gR hB hL ht) (by rw[Xd];exact .inr h0),Xd]
 simp only[RH,if_neg h0]
theorem Q1 (x:Option Nat) (y:AV) (d:Nat) (v:SV) (st:St):({ dst:=x,val:=y,new:=some (d,Sq v)}:qW).apply st=(st.news d (Sq v)).put x y:=rfl
theorem GO {α:Type} (d k:Nat) (l:List α):rv d k (some l)=.own d k:=rfl
theorem mT {α:Type} (a b:List α) (n i:Nat) (h:n=a.length+i):(a++b)[n]? = b[i]?:=by
 rw[h,List.getElem?_append_right (by omega)]
 congr 1
 omega
theorem aQF (v:SV) (l:List Int) (h:v.B=some l):(Sq v)[0]? = some (.row 23 1 l.length (bH l)):=by simp[Sq,h,rl]
theorem aQG (v:SV) (l:List iV) (h:v.L=some l):(Sq v)[nB v]? = some (.row 100 34 l.length (bW l)):=by
 unfold Sq;rw[mT _ _ _ 0 (by simp[nB]),h];rfl
theorem aQH (v:SV) (l:List Int) (h:v.Q=some l):(Sq v)[nL v]? = some (.row 3 1 l.length (aH l)):=by
 unfold Sq;rw[mT _ _ _ _ (show nL v=_+_ from rfl),mT _ _ _ 0 (by simp),h];rfl
theorem aQI (v:SV) (l:List oY) (h:v.E=some l):(Sq v)[nQ v]? = some (.row 87 67 l.length (dO l)):=by
 unfold Sq;rw[mT _ _ _ ((rl 100 34 bW v.L).length+(rl 3 1 aH v.Q).length) (by simp[nQ,nL,nB,Nat.add_assoc]),mT _ _ _ _ rfl,mT _ _ _ 0 (by simp),h];rfl
theorem aQJ (v:SV) (l:List Block) (h:v.O=some l):(Sq v)[nE v]? = some (.row 74 238 l.length (aL l)):=by
 unfold Sq;rw[mT _ _ _ ((rl 100 34 bW v.L).length+((rl 3 1 aH v.Q).length+(rl 87 67 dO v.E).length)) (by simp[nE,nQ,nL,nB,Nat.add_assoc]),mT _ _ _ _ rfl,mT _ _ _ _ rfl,mT _ _ _ 0 (by simp),h];rfl
theorem aQK (v:SV):(Sq v)[nO v]? = some (.row 76 240 v.ns.length (cF v.ns)):=by
 unfold Sq;rw[mT _ _ _ ((rl 100 34 bW v.L).length+((rl 3 1 aH v.Q).length+((rl 87 67 dO v.E).length+(rl 74 238 aL v.O).length))) (by simp[nO,nE,nQ,nL,nB,Nat.add_assoc]),mT _ _ _ _ rfl,mT _ _ _ _ rfl,mT _ _ _ _ rfl,mT _ _ _ 0 (by simp)];rfl
theorem aQL (v:SV) (l:List Table) (h:v.T=some l):(Sq v)[nO v+1]? = some (.row 118 34 l.length (aR l)):=by
 unfold Sq;rw[mT _ _ _ ((rl 100 34 bW v.L).length+((rl 3 1 aH v.Q).length+((rl 87 67 dO v.E).length+((rl 74 238 aL v.O).length+1)))) (by simp[nO,nE,nQ,nL,nB,Nat.add_assoc]),mT _ _ _ _ rfl,mT _ _ _ _ rfl,mT _ _ _ _ rfl,mT _ _ _ _ rfl,mT _ _ _ 0 (by simp),h];rfl
theorem c43 {s:aM} {v:SV} (hs:SD s v) (gR:NEv v) (hB:v.B≠some []) (L:List iV) (hvL:v.L=some L) (O1:L≠[]) (ht:0<v.ns.length) (a:oY) (V:Option (List Int)) (ha:a.dX=ov aH V) (hV:((ol V).length:Int)<1000000) (hr:∀x∈ol V,0≤x∧x<(ol v.L).length) :
 aB Tryz.prog 43 [.agg (aA s),.agg (eH a)]=some (.agg (aA (Eb s v a (ol V)))):=by
 have hol:ol v.L=L:=by rw[hvL];rfl
 rw[hol] at hr;have hnL:=hs.nL
 rw[hol] at hnL;rw[cL Tryz.func43 rfl aQN rfl];simp only[Z8,seval,ha,Q1,aQE hs gR hB (by rw[hvL];simpa using O1) ht,NW]
 obtain⟨S1,hS1⟩:∃S1,S1=cpS s v 11 0:=⟨_,rfl⟩
 have hla:S1.eZ.dR=.own 11 (nB v):=by rw[hS1];simp only[cpS,v7,hvL,GO,Nat.zero_add]
 rw[← hS1];refine jP (fun m st=>∃(k:Nat) (l:List iV),(st.env 5=.ptr 5 0 0∧st.heap 5 0=some (.cells (aA S1))∧st.env 6=.ptr 6 0 0∧st.heap 6 0=some (.cells (jC ⟨true,a.target.aI,a.root⟩))∧st.env 4=.ptr 4 0 0∧st.heap 4 0=some (.cells (aA gC))∧st.env 19=ov aH V∧st.env 20=.v (.int .i64 (ol V).length)∧st.env 21=.v (.int .i64 k)∧st.heap 11 (nB v)=some (.row 100 34 l.length (bW l)))∧(∀j,j≠nB v→st.heap 11 j=(Sq v)[j]?)∧(pC L a.target.aI a.root ((ol V).take k)).1=l∧l.length=L.length∧k≤(ol V).length∧m=(ol V).length-k)
  (fun ex st=>ex=.exit 0∧∃(l:List iV),(st.env 5=.ptr 5 0 0∧st.heap 5 0=some (.cells (aA S1))∧st.env 4=.ptr 4 0 0∧st.heap 4 0=some (.cells (aA gC))∧st.heap 11 (nB v)=some (.row 100 34 l.length (bW l)))∧(∀j,j≠nB v→st.heap 11 j=(Sq v)[j]?)∧(pC L a.target.aI a.root (ol V)).1=l∧l.length=L.length) (ol V).length ?step ?start ?rest
 case step =>
  rintro m st ⟨k,l,hI,hH,hc,hl,hk,hm⟩
  by_cases aZ:(k:Int)<(ol V).length
  ·have q0:(0:Int)≤k:=by omega
   have hw:IntKind.i64.wrap ((k:Int)+1)=((k+1:Nat):Int):=by rw[pV _ (by omega) (by omega)];omega
   have rH:=congrArg Prod.fst (Wi L a.target.aI a.root (ol V) k (by omega))
   unfold Cg at rH;rw[hc] at rH;have hx:=hr _ (tI (z:=(0:Int)) q0 aZ)
   obtain⟨x,ex⟩:∃x,gx (0:Int) (ol V) (k:Int)=x:=⟨_,rfl⟩
   rw[ex] at hx rH;have x0:0≤x:=hx.1
   have x1:x<(l.length:Int):=by rw[hl];exact hx.2
   have x2:x.toNat<l.length:=by omega
   have x3:x.toNat * 34+34≤l.length * 34:=by omega
   have ld:=FP (T:=100) (n:=l.length) (k:=34) x0 x1 J9 (by decide) (by decide)
   have hj:∀j,j≠nB v→(j=nB v)=False:=fun j h=>eq_false h
   by_cases h1:(gx gI l x).has=true
   ·by_cases h2:(gx gI l x).aI<a.target.aI
    ·rw[if_pos (.inr h2)] at rH;apply oN ((ol V).length-(k+1))
     ·simp only[Z8,seval,hI,hla,aZ,q0,ex,x0,x1,x2,x3,ld,h1,h2,Ng _ _ _ x2,hw];rfl
     ·exact⟨k+1,_,by simp only[E8,seval,hI,List.length_set]<;>exact⟨rfl,rfl⟩,fun j h=>by simp only[E8,seval,hj j h,hH j h],rH,by rw[List.length_set,hl],by omega,rfl⟩
    ·rw[if_neg (by simp only[h1,h2,Bool.true_eq_false,or_self,not_false_eq_true])] at rH
     apply oN ((ol V).length-(k+1))
     ·simp only[Z8,seval,hI,hla,aZ,q0,ex,x0,x1,x2,x3,ld,h1,h2,hw];rfl
     ·exact⟨k+1,l,by simp only[E8,seval,hI],fun j h=>by simp only[E8,seval,hj j h,hH j h],by rw[rH,hc],hl,by omega,rfl⟩
   ·have Sf:(gx gI l x).has=false:=by simpa using h1
    rw[if_pos (.inl Sf)] at rH;apply oN ((ol V).length-(k+1))
    ·simp only[Z8,seval,hI,hla,aZ,q0,ex,x0,x1,x2,x3,ld,Sf,Ng _ _ _ x2,hw];rfl
    ·exact⟨k+1,_,by simp only[E8,seval,hI,List.length_set]<;>exact⟨rfl,rfl⟩,fun j h=>by simp only[E8,seval,hj j h,hH j h],rH,by rw[List.length_set,hl],by omega,rfl⟩
  ·have Ez:k=(ol V).length:=by omega
   rw[Ez,List.take_length] at hc;apply oT (.exit 0)
   ·simp only[Z8,seval,hI,aZ];rfl
   ·exact⟨rfl,l,by simp only[E8,seval,hI],fun j h=>by simp only[E8,seval,hH j h],hc,hl⟩
 case start =>
  have Xe:∀j,(if j<(Sq v).length then (Sq v)[j]? else none)=(Sq v)[j]?:=by
   intro j;split
   ·rfl
   ·rw[List.getElem?_eq_none (by omega)]
  refine⟨0,L,⟨?_, ?_, ?_, ?_, ?_, ?_, ?_, ?_, ?_, ?_⟩,fun j h=>?_,rfl,rfl,by omega,by omega⟩
  ·simp only[E8,seval,NW]
  ·simp only[E8,seval,NW]<;>rfl
  ·simp only[E8,seval,NW]
  ·simp only[E8,seval,NW]<;>rfl
  ·simp only[E8,seval,NW]
  ·simp only[E8,seval,NW]<;>rfl
  ·simp only[E8,seval,NW]
  ·simp only[E8,seval,NW]
  ·simp only[E8,seval,NW]<;>rfl
  ·simp only[E8,seval,NW,true_and,Nat.zero_le,Nat.sub_zero,Xe];exact aQG v L hvL
  ·simp only[E8,seval,NW,true_and,Nat.zero_le,Nat.sub_zero,Xe]
 case rest =>
  rintro ex st ⟨rfl,l,hI,hH,hc,hl⟩
  simp only[Z8,seval,hI];have cB:∀x,v.B=some x→(0:Nat)≠nB v:=fun x h=>by simp[nB,h,rl]
  have cL:nB v<nL v:=by simp only[nL,hvL,Ar,List.length_cons];omega
  have cQ:nL v≤nQ v:=by unfold nQ;omega
  have cE:nQ v≤nE v:=by unfold nE;omega
  have cO:nE v≤nO v:=by unfold nO;omega
  refine eG rfl (by simp only[E8,seval,hI]<;>rfl) (cs:=aA S1) (by simp only[Z8,seval,hI]<;>rfl) ?_
  rw[bM,gD];rw[hS1];simp only[cpS,v7,Nat.zero_add];rw[vY (e:=23) (sz:=1) (c:=bH) (fun x h=>by simp only[E8,seval];rw[hH _ (cB x h),aQF v x h]) (fun x _=>iD x),cN]
  rw[hvL,GO,bG];rw[show ∀(z:Option mV),z=st.heap 11 (nB v)→iX z=some (.sl l.length (bW l)) from fun z h=>by rw[h,hI.2.2.2.2];exact Nh _ _]
  rw[cN];rw[vY (e:=3) (sz:=1) (c:=aH) (fun x h=>by simp only[E8,seval];rw[hH _ (by omega),aQH v x h]) (fun x h=>gB x),cN]
  rw[vY (e:=87) (sz:=67) (c:=dO) (fun x h=>by simp only[E8,seval];rw[hH _ (by omega),aQI v x h]) (fun x h=>uS x fun y m=>(hs.eV y (by rw[h];exact m)).fl),cN]
  rw[vY (e:=74) (sz:=238) (c:=aL) (fun x h=>by simp only[E8,seval];rw[hH _ (by omega),aQJ v x h]) (fun x h=>qO x),cN]
  rw[← GO 11 (nO v) v.ns,vY (e:=76) (sz:=240) (c:=cF) (fun x h=>by cases h;simp only[E8,seval];rw[hH _ (by omega),aQK v]) (fun x h=>kN x),cN]
  rw[vY (e:=118) (sz:=34) (c:=aR) (fun x h=>by simp only[E8,seval];rw[hH _ (by omega),aQL v x h]) (fun x h=>mK x fun y m=>(hs.tB y (by rw[h];exact m)).fl),cN]
  have hn:ov cF (some v.ns)=s.tree.nodes:=by rw[hs.tree];rfl
  have hf:AV.sl l.length (bW l)=ov bW (some (pC (ol v.L) a.target.aI a.root (ol V)).1):=by rw[hol,hc];rfl
  rw[cN,hn,hf,← hs.iA,← hs.gT,← hs.early,← hs.bS,← hs.tables]
  ·rfl
  ·simp only[E8,seval]
theorem k43 {s:aM} {v:SV} (hs:SD s v) (gR:NEv v) (hB:v.B≠some []) (L:List iV) (hvL:v.L=some L) (O1:L≠[]) (ht:0<v.ns.length) (a:oY) (V:Option (List Int)) (ha:a.dX=ov aH V) (hV:((ol V).length:Int)<1000000) (hr:∀x∈ol V,0≤x∧x<(ol v.L).length) (hf:Flat (.agg (aA (Eb s v a (ol V))))) (st:St) (d:Option Nat) :
 aN (aB Tryz.prog) 43 [.agg (aA s),.agg (eH a)] st d=some { dst:=d,val:=.agg (aA (Eb s v a (ol V)))} :=
 bF (bA hs.flat ((qE a).2 (by rw[ha];exact bE V))) (c43 hs gR hB L hvL O1 ht a V ha hV hr) hf
theorem c93 (o:Option (List Int)) (hn:((ol o).length:Int)<1000000) (n:Int):aB Tryz.prog 93 [ov aH o,.v (.int .i64 n)]=some (.v (.int .i64 (Dy (ol o) n))):=by
 rw[cL Tryz.func93 rfl aQP (by cases o<;>rfl)]
 refine jB ?_
 by_cases h0:ol o=[]
 ·have hv:Dy (ol o) n=2:=if_pos h0
  have hl:(ol o).length=0:=by rw[h0];rfl
  simp only[Z8,seval,hl];exact⟨_,bP rfl (by simp only[E8,seval,hv]<;>rfl) (by first|exact .v _|simp only[eA,hv]),rfl⟩
 have hl:=bf (x:=((ol o).length:Int)) (y:=0) (by have:=List.length_pos_iff.2 h0;omega)
 simp only[Z8,seval,hl];refine cJ (fun m st=>∃k:Nat,(st.env 0=ov aH o∧st.env 1=.v (.int .i64 n)∧st.env 10=ov aH o∧st.env 11=.v (.int .i64 (ol o).length)∧st.env 12=.v (.int .i64 k))∧(∀j:Nat,j<k→¬Dx (ol o) n j)∧k≤(ol o).length∧m=(ol o).length-k)
  (fun e st=>(e=.ret∧∃k:Nat,k<(ol o).length∧Dx (ol o) n k∧(∀j:Nat,j<k→¬Dx (ol o) n j)∧st.env 4=.v (.int .i64 (if gx (0:Int) (ol o) k<0∨n≤gx (0:Int) (ol o) k then 3 else 8)))∨(e=.exit 0∧∀j:Nat,j<(ol o).length→¬Dx (ol o) n j)) (ol o).length ?step ?start ?rest
 case step =>
  rintro m st ⟨k,hI,hj,hk,hm⟩
  by_cases aZ:(k:Int)<(ol o).length
  ·have q0:(0:Int)≤k:=by omega
   have hw:IntKind.i64.wrap ((k:Int)+1)=((k+1:Nat):Int):=by rw[pV _ (by omega) (by omega)];omega
   by_cases h1:gx (0:Int) (ol o) k<0
   ·apply oT (.ret)
    ·simp only[Z8,seval,hI,aZ,q0,h1];rfl
    ·exact .inl ⟨rfl,k,by omega,.inl h1,hj,by simp only[E8,seval,h1,true_or]⟩
   by_cases h2:n≤gx (0:Int) (ol o) k
   ·apply oT (.ret)
    ·simp only[Z8,seval,hI,aZ,q0,h1,h2];rfl
    ·exact .inl ⟨rfl,k,by omega,.inr (.inl h2),hj,by simp only[E8,seval,h2,or_true]⟩
   by_cases h3:(0:Int)<k
   ·have q1:(0:Int)≤(k:Int)-1:=by omega
    have q2:(k:Int)-1<(ol o).length:=by omega
    have DA:IntKind.i64.wrap ((k:Int)-1)=(k:Int)-1:=by rw[pV _ (by omega) (by omega)]
    by_cases h4:gx (0:Int) (ol o) k≤gx (0:Int) (ol o) ((k:Int)-1)
    ·apply oT (.ret)
     ·simp only[Z8,seval,hI,aZ,q0,q1,q2,DA,h1,h2,h3,h4];rfl
     ·exact .inl ⟨rfl,k,by omega,.inr (.inr ⟨by omega,h4⟩),hj,by simp only[E8,seval,h1,h2,or_self]⟩
    ·apply oN ((ol o).length-(k+1))
     ·simp only[Z8,seval,hI,aZ,q0,q1,q2,DA,h1,h2,h3,h4,hw];rfl
     ·exact⟨k+1,by simp only[E8,seval,hI],fun j h=>(Nat.lt_succ_iff_lt_or_eq.1 h).elim (hj j) fun e=>by subst e;unfold Dx;simp only[h1,h2,h4,and_false,or_self,not_false_eq_true],by omega,rfl⟩
   ·have h5:¬(0<k):=by omega
    apply oN ((ol o).length-(k+1))
    ·simp only[Z8,seval,hI,aZ,q0,h1,h2,h3,hw];rfl
    ·exact⟨k+1,by simp only[E8,seval,hI],fun j h=>(Nat.lt_succ_iff_lt_or_eq.1 h).elim (hj j) fun e=>by subst e;unfold Dx;simp only[h1,h2,h5,false_and,or_self,not_false_eq_true],by omega,rfl⟩
  ·apply oT (.exit 0)
   ·simp only[Z8,seval,hI,aZ];rfl
   ·exact .inr ⟨rfl,fun j h=>hj j (by omega)⟩
 case start=>exact⟨0,by simp only[E8,seval]<;>exact⟨rfl,rfl,rfl,rfl,rfl⟩,fun j h=>by omega,by omega,by omega⟩
 case rest =>
  rintro e st (⟨rfl,k,hk,hh,hj,h⟩|⟨rfl,hj⟩)
  ·have hv:Dy (ol o) n=if gx (0:Int) (ol o) k<0∨n≤gx (0:Int) (ol o) k then 3 else 8:=by
    unfold Dy;rw[if_neg h0,Iq hh hj _ hk,if_neg (by omega)]
   rw[← hv] at h;simp only[Z8,seval];exact⟨_,bP rfl (by simp only[E8,seval,h]<;>rfl) (by first|exact .v _|simp only[eA,h]),rfl⟩
  ·have hv:Dy (ol o) n=0:=by
    unfold Dy;rw[if_neg h0,sM _ hj,if_pos (by omega)]
   simp only[Z8,seval];exact⟨_,bP rfl (by simp only[E8,seval,hv]<;>rfl) (by first|exact .v _|simp only[eA,hv]),rfl⟩
theorem k93 (o:Option (List Int)) (hn:((ol o).length:Int)<1000000) (n:Int) (st:St) (d:Option Nat):aN (aB Tryz.prog) 93 [ov aH o,.v (.int .i64 n)] st d=some { dst:=d,val:=.v (.int .i64 (Dy (ol o) n))}:=bF (bA (bE o) (.v _)) (c93 o hn n) (.v _)
theorem Xf (x:Int):(x != x)=false:=by simp
theorem beI (x:Int):(x == x)=true:=by simp
theorem aQQ (o:Option (List Int)) (hn:((ol o).length:Int)<1000000):aB Tryz.prog 103 [ov bH o,ov bH o]=some (.v (.bool true)):=by
 rw[cL Tryz.func103 rfl aEg (by cases o<;>rfl)]
 refine jB ?_
 simp only[Z8,seval,Xf];refine cJ (fun m st=>∃k:Nat,(st.env 0=ov bH o∧st.env 1=ov bH o∧st.env 5=.v (.int .i64 k))∧k≤(ol o).length∧m=(ol o).length-k)
  (fun e st=>e=.exit 0) (ol o).length ?step ?start ?rest
 case step =>
  rintro m st ⟨k,hI,hk,hm⟩
  by_cases aZ:(k:Int)<(ol o).length
  ·have q0:(0:Int)≤k:=by omega
   have hw:IntKind.i64.wrap ((k:Int)+1)=((k+1:Nat):Int):=by rw[pV _ (by omega) (by omega)];omega
   apply oN ((ol o).length-(k+1))
   ·simp only[Z8,seval,hI,aZ,q0,Xf,hw];rfl
   ·exact⟨k+1,by simp only[E8,seval,hI],by omega,rfl⟩
  ·apply oT (.exit 0)
   ·simp only[Z8,seval,hI,aZ];rfl
   ·exact rfl
 case start=>exact⟨0,by simp only[E8,seval]<;>exact⟨rfl,rfl,rfl⟩,by omega,by omega⟩
 case rest =>
  rintro e st rfl
  simp only[Z8,seval];exact⟨_,bP rfl (by simp only[E8,seval]<;>rfl) (by first|exact .v _|simp only[eA]),rfl⟩
theorem aBz (o:Option (List Int)) (hn:((ol o).length:Int)<1000000) (st:St) (d:Option Nat):aN (aB Tryz.prog) 103 [ov bH o,ov bH o] st d=some { dst:=d,val:=.v (.bool true)}:=bF (bA (dU o) (dU o)) (aQQ o hn) (.v _)
theorem aQR (o:Option (List iV)) (hn:((ol o).length:Int)<1000000):aB Tryz.prog 104 [ov bW o,ov bW o]=some (.v (.bool true)):=by
 rw[cL Tryz.func104 rfl aLJ (by cases o<;>rfl)]
 refine jB ?_
 simp only[Z8,seval,Xf];refine cJ (fun m st=>∃k:Nat,(st.env 0=ov bW o∧st.env 1=ov bW o∧st.env 5=.v (.int .i64 k))∧k≤(ol o).length∧m=(ol o).length-k)
  (fun e st=>e=.exit 0) (ol o).length ?step ?start ?rest
 case step =>
  rintro m st ⟨k,hI,hk,hm⟩
  by_cases aZ:(k:Int)<(ol o).length
  ·have q0:(0:Int)≤k:=by omega
   have hw:IntKind.i64.wrap ((k:Int)+1)=((k+1:Nat):Int):=by rw[pV _ (by omega) (by omega)];omega
   apply oN ((ol o).length-(k+1))
   ·simp only[Z8,seval,hI,aZ,q0,Xf,hw];rfl
   ·exact⟨k+1,by simp only[E8,seval,hI],by omega,rfl⟩
  ·apply oT (.exit 0)
   ·simp only[Z8,seval,hI,aZ];rfl
   ·exact rfl
 case start=>exact⟨0,by simp only[E8,seval]<;>exact⟨rfl,rfl,rfl⟩,by omega,by omega⟩
 case rest =>
  rintro e st rfl
  simp only[Z8,seval];exact⟨_,bP rfl (by simp only[E8,seval]<;>rfl) (by first|exact .v _|simp only[eA]),rfl⟩
theorem aQS (o:Option (List iV)) (hn:((ol o).length:Int)<1000000) (st:St) (d:Option Nat):aN (aB Tryz.prog) 104 [ov bW o,ov bW o] st d=some { dst:=d,val:=.v (.bool true)}:=bF (bA (qF o) (qF o)) (aQR o hn) (.v _)
theorem aLK (o:Option (List Int)) (hn:((ol o).length:Int)<1000000):aB Tryz.prog 105 [ov aH o,ov aH o]=some (.v (.bool true)):=by
 rw[cL Tryz.func105 rfl aEf (by cases o<;>rfl)]
 refine jB ?_
 simp only[Z8,seval,Xf];refine cJ (fun m st=>∃k:Nat,(st.env 0=ov aH o∧st.env 1=ov aH o∧st.env 5=.v (.int .i64 k))∧k≤(ol o).length∧m=(ol o).length-k)
  (fun e st=>e=.exit 0) (ol o).length ?step ?start ?rest
 case step =>
  rintro m st ⟨k,hI,hk,hm⟩
  by_cases aZ:(k:Int)<(ol o).length
  ·have q0:(0:Int)≤k:=by omega
   have hw:IntKind.i64.wrap ((k:Int)+1)=((k+1:Nat):Int):=by rw[pV _ (by omega) (by omega)];omega
   apply oN ((ol o).length-(k+1))
   ·simp only[Z8,seval,hI,aZ,q0,Xf,hw];rfl
   ·exact⟨k+1,by simp only[E8,seval,hI],by omega,rfl⟩
  ·apply oT (.exit 0)
   ·simp only[Z8,seval,hI,aZ];rfl
   ·exact rfl
 case start=>exact⟨0,by simp only[E8,seval]<;>exact⟨rfl,rfl,rfl⟩,by omega,by omega⟩
 case rest =>
  rintro e st rfl
  simp only[Z8,seval];exact⟨_,bP rfl (by simp only[E8,seval]<;>rfl) (by first|exact .v _|simp only[eA]),rfl⟩
theorem aEC (o:Option (List Int)) (hn:((ol o).length:Int)<1000000) (st:St) (d:Option Nat):aN (aB Tryz.prog) 105 [ov aH o,ov aH o] st d=some { dst:=d,val:=.v (.bool true)}:=bF (bA (bE o) (bE o)) (aLK o hn) (.v _)
theorem aQT (a:oY) (V:Option (List Int)) (ha:a.dX=ov aH V) (hn:((ol V).length:Int)<1000000):aB Tryz.prog 108 [.agg (eH a),.agg (eH a)]=some (.v (.bool true)):=by
 rw[cL Tryz.func108 rfl aEh rfl];refine jB ?_
 simp only[Z8,seval,ha,beI,aEC V hn];exact⟨_,bP rfl (by simp only[E8,seval]<;>rfl) (by first|exact .v _|simp only[eA]),rfl⟩
theorem aQU (a:oY) (h:Ce a) (st:St) (d:Option Nat):aN (aB Tryz.prog) 108 [.agg (eH a),.agg (eH a)] st d=some { dst:=d,val:=.v (.bool true)}:=by
 obtain⟨V,ha,hl⟩:=h
 have hf:Flat (.agg (eH a)):=(qE a).2 (by rw[ha];exact bE V)
 exact bF (bA hf hf) (aQT a V ha hl) (.v _)
theorem aQV (a:Table) (V:Option (List Int)) (ha:a.iA=ov bH V) (hn:((ol V).length:Int)<1000000):aB Tryz.prog 159 [.agg (bZ a),.agg (bZ a)]=some (.v (.bool true)):=by
 rw[cL Tryz.func159 rfl aEi rfl];refine jB ?_
 simp only[Z8,seval,ha,beI,aBz V hn];exact⟨_,bP rfl (by simp only[E8,seval]<;>rfl) (by first|exact .v _|simp only[eA]),rfl⟩
theorem aQW (a:Table) (h:rK a) (st:St) (d:Option Nat):aN (aB Tryz.prog) 159 [.agg (bZ a),.agg (bZ a)] st d=some { dst:=d,val:=.v (.bool true)}:=by
 obtain⟨V,ha,hl⟩:=h
 have hf:Flat (.agg (bZ a)):=(jX a).2 (by rw[ha];exact dU V)
 exact bF (bA hf hf) (aQV a V ha hl) (.v _)
theorem aQX (o:Option (List Table)) (hn:((ol o).length:Int)<1000000) (hA:∀a∈ol o,rK a):aB Tryz.prog 107 [ov aR o,ov aR o]=some (.v (.bool true)):=by
 rw[cL Tryz.func107 rfl aLL (by cases o<;>rfl)]
 refine jB ?_
 simp only[Z8,seval,Xf,beI];refine cJ (fun m st=>∃k:Nat,(st.env 0=ov aR o∧st.env 1=ov aR o∧st.env 5=.v (.int .i64 k))∧k≤(ol o).length∧m=(ol o).length-k)
  (fun e st=>e=.exit 0) ((ol o).length) ?step ?start ?rest
 case step =>
  rintro m st ⟨k,hI,hk,hm⟩
  by_cases aZ:(k:Int)<((ol o).length:Nat)
  ·have q0:(0:Int)≤k:=by omega
   have hw:IntKind.i64.wrap ((k:Int)+1)=((k+1:Nat):Int):=by rw[pV _ (by omega) (by omega)];omega
   have kk:=aQW _ (hA _ (tI (z:=iT) q0 aZ))
   apply oN ((ol o).length-(k+1))
   ·simp only[Z8,seval,hI,aZ,q0,kk,Xf,hw,beI];rfl
   ·exact⟨k+1,by simp only[E8,seval,hI],by omega,rfl⟩
  ·apply oT (.exit 0)
   ·simp only[Z8,seval,hI,aZ,beI];rfl
   ·exact rfl
 case start=>exact⟨0,by simp only[E8,seval]<;>exact⟨rfl,rfl,rfl⟩,by omega,by omega⟩
 case rest =>
  rintro e st rfl
  simp only[Z8,seval];exact⟨_,bP rfl (by simp only[E8,seval]<;>rfl) (by first|exact .v _|simp only[eA]),rfl⟩
theorem aQY (o:Option (List Table)) (hn:((ol o).length:Int)<1000000) (hA:∀a∈ol o,rK a) (st:St) (d:Option Nat):aN (aB Tryz.prog) 107 [ov aR o,ov aR o] st d=some { dst:=d,val:=.v (.bool true)} :=
 bF (bA (lG o fun y m=>(hA y m).fl) (lG o fun y m=>(hA y m).fl)) (aQX o hn hA) (.v _)
theorem aLM:aF 4 77 (some 54)=[]:=rfl
theorem x42 {s:aM} {v:SV} (hs:SD s v):∃r,aB Tryz.prog 42 [.agg (aA s),.agg (aA s)]=some r∧r=.v (.bool true):=by
 have oD:=hs.flat
 rw[cG Tryz.func42 rfl aQZ (by kernel_rfl) rfl]
 have kB:=aBz v.B hs.nB
 have kL:=aQS v.L hs.nL
 have kQ:=aEC v.Q hs.nQ
 have kn:=aNS v.ns v.ns hs.nn
 have kT:=aQY v.T hs.nT hs.tB
 simp only[ZG,seval,Bool.false_and,Prod.mk.injEq,TU,aLM,hs.iA,hs.dR,hs.gT,hs.early,hs.bS,hs.tree,hs.tables,Xf,beI,kB,kL,kQ,kn,kT,decide_true,Bool.not_true,iF,iG];refine kX (fun m st=>∃k:Nat,(st.env 2=.ptr 2 0 0∧st.heap 2 0=some (.cells (aA s))∧st.env 3=.ptr 3 0 0∧st.heap 3 0=some (.cells (aA s))∧st.env 7=.v (.int .i64 k))∧k≤(ol v.E).length∧m=(ol v.E).length-k)
  (fun e st=>e=.exit 0∧(st.env 2=.ptr 2 0 0∧st.heap 2 0=some (.cells (aA s))∧st.env 3=.ptr 3 0 0∧st.heap 3 0=some (.cells (aA s)))) (ol v.E).length ?step ?start ?rest
 case step =>
  rintro m st ⟨k,hI,hk,hm⟩
  have hn:=hs.nE
  by_cases aZ:(k:Int)<(ol v.E).length
  ·have q0:(0:Int)≤k:=by omega
   have hw:IntKind.i64.wrap ((k:Int)+1)=((k+1:Nat):Int):=by rw[pV _ (by omega) (by omega)];omega
   have kk:=aQU _ (hs.eV _ (tI (z:=Hc) q0 aZ))
   apply Bh ((ol v.E).length-(k+1))
   ·simp only[ZG,seval,Bool.false_and,Prod.mk.injEq,TU,hs.early,hI,aZ,q0,kk,Xf,Bool.not_true,hw];rfl
   ·exact⟨k+1,by simp only[E8,seval,hI],by omega,rfl⟩
  ·apply FM (.exit 0)
   ·simp only[ZG,seval,Bool.false_and,Prod.mk.injEq,TU,hs.early,hI,aZ];rfl
   ·exact⟨rfl,by simp only[E8,seval,hI]⟩
 case start=>exact⟨0,by simp only[E8,seval]<;>exact⟨rfl,rfl,rfl,rfl,rfl⟩,by omega,by omega⟩
 case rest =>
  rintro e st ⟨rfl,hI⟩
  simp only[ZG,seval,Bool.false_and,Prod.mk.injEq,TU,hI];refine kX (fun m st=>∃k:Nat,(st.env 2=.ptr 2 0 0∧st.heap 2 0=some (.cells (aA s))∧st.env 3=.ptr 3 0 0∧st.heap 3 0=some (.cells (aA s))∧st.env 8=.v (.int .i64 k))∧k≤(ol v.O).length∧m=(ol v.O).length-k)
   (fun e st=>e=.exit 2) (ol v.O).length ?K9 ?SX ?LP
  case K9 =>
   rintro m st ⟨k,hI,hk,hm⟩
   have hn:=hs.nO
   by_cases aZ:(k:Int)<(ol v.O).length
   ·have q0:(0:Int)≤k:=by omega
    have hw:IntKind.i64.wrap ((k:Int)+1)=((k+1:Nat):Int):=by rw[pV _ (by omega) (by omega)];omega
    apply Bh ((ol v.O).length-(k+1))
    ·simp only[ZG,seval,Bool.false_and,Prod.mk.injEq,TU,hs.bS,hI,aZ,q0,Xf,decide_true,Bool.not_true,hw];rfl
    ·exact⟨k+1,by simp only[E8,seval,hI],by omega,rfl⟩
   ·apply FM (.exit 2)
    ·simp only[ZG,seval,Bool.false_and,Prod.mk.injEq,TU,hs.bS,hI,aZ];rfl
    ·exact rfl
  case SX=>exact⟨0,by simp only[E8,seval,hI]<;>exact⟨rfl,rfl,rfl,rfl,rfl⟩,by omega,by omega⟩
  case LP =>
   rintro e st rfl
   simp only[ZG,seval,Bool.false_and,Prod.mk.injEq,TU];exact⟨_,bP rfl (by simp only[E8,seval]<;>rfl) (by first|exact .v _|simp only[eA]),rfl⟩
theorem k42 {s:aM} {v:SV} (hs:SD s v) (st:St) (d:Option Nat):aN (aB Tryz.prog) 42 [.agg (aA s),.agg (aA s)] st d=some { dst:=d,val:=.v (.bool true)}:=by
 obtain⟨r,h,e⟩:=x42 hs
 subst e;exact bF (bA hs.flat hs.flat) h (.v _)
theorem TV {s:aM} (h:1≤s.cFg.jK∧s.cFg.jK≤64) {x:Int} (hx:Rg x):Rg (mO s x):=by
 have h1:mO s x=x / s.cFg.jK:=by
  unfold mO;rw[Int.tdiv_eq_ediv_of_nonneg hx.1];exact zP _ (Int.ediv_nonneg hx.1 (by omega)) (Int.lt_of_le_of_lt (Int.ediv_le_self _ hx.1) hx.2)
 rw[h1];exact⟨Int.ediv_nonneg hx.1 (by omega),Int.lt_of_le_of_lt (Int.ediv_le_self _ hx.1) hx.2⟩
theorem c38 {s:aM} {v:SV} (hs:SD s v) (hu:fZ v.ns) (h0:(nd v.ns 0).up=-1) (hp:1≤s.cFg.jK∧s.cFg.jK≤64) (Ec:Rg s.now) (a:oY) (Qt:Rg a.slot) (o:Option (List Int)) (hV:a.dX=ov aH o) (hl:((ol o).length:Int)<1000000) :
 aB Tryz.prog 38 [.agg (aA s),.agg (eH a)]=some (.eE [.v (.bool (qY s v a (ol o)).1),.v (.int .i64 (qY s v a (ol o)).2)]):=by
 have hf:=hs.flat
 have r1:=dJ v.ns a.root
 have eS:=TV hp Qt
 have eN:=TV hp Ec
 have GP:=k93 o hl
 rw[cL Tryz.func38 rfl aQ0 rfl];refine jB ?_
 by_cases g1:Dy (ol o) (ol v.B).length=0
 case neg =>
  have hv:qY s v a (ol o)=(false,Dy (ol o) (ol v.B).length):=by simp only[qY,ne_eq,g1,not_false_eq_true,if_true]
  simp only[Z8,seval,hV,hs.iA,GP,bf g1];exact⟨_,dC rfl rfl rfl (by simp only[E8,seval]<;>rfl) (by simp only[E8,seval]<;>rfl),by rw[hv]⟩
 have Kw:uO s a→qY s v a (ol o)=(false,18):=fun g=>by simp only[qY,ne_eq,g1,not_true_eq_false,if_false,g,if_true]
 by_cases g2:a.target.aI=mO s a.slot
 case neg =>
  have hv:=Kw (.inl g2)
  simp only[Z8,seval,hV,hs.iA,GP,bt g1,k94 hp,dM,bf g2];exact⟨_,dC rfl rfl rfl (by simp only[E8,seval]<;>rfl) (by simp only[E8,seval]<;>rfl),by rw[hv]⟩
 by_cases g3:mO s s.now<mO s a.slot
 ·have hb:uO s a:=by
   refine .inr ⟨by omega, ?_⟩
   by_cases g:mO s s.now=0
   ·exact .inl g
   ·refine .inr ?_
    rw[zP _ (by have:=eN.1;omega) (by have:=eN.2;omega)]
    omega
  have hv:=Kw hb
  simp only[Z8,seval,hV,hs.iA,GP,bt g1,k94 hp,dM,bt g2,g3];exact⟨_,dC rfl rfl rfl (by simp only[E8,seval]<;>rfl) (by simp only[E8,seval]<;>rfl),by rw[hv]⟩
 have hw:IntKind.u64.wrap (mO s s.now-mO s a.slot)=mO s s.now-mO s a.slot:=zP _ (by omega) (by have:=eN.2;have:=eS.1;omega)
 by_cases g4:1<mO s s.now-mO s a.slot
 ·have hb:uO s a:=by
   refine .inr ⟨by omega,.inr ?_⟩
   rw[zP _ (by have:=eS.1;omega) (by have:=eN.2;omega)]
   omega
  have hv:=Kw hb
  simp only[Z8,seval,hV,hs.iA,GP,bt g1,k94 hp,dM,bt g2,g3,hw,g4];exact⟨_,dC rfl rfl rfl (by simp only[E8,seval]<;>rfl) (by simp only[E8,seval]<;>rfl),by rw[hv]⟩
 have gb:¬uO s a:=by
  rintro (h|⟨h1,h2⟩)
  ·exact h g2
  ·rcases h2 with h2|h2
   ·have:=eS.1;omega
   ·by_cases g:mO s s.now=0
    ·have:=eS.1;omega
    ·rw[zP _ (by have:=eN.1;omega) (by have:=eN.2;omega)] at h2
     omega
 by_cases g6:aJ v.ns a.root<0
 ·have hv:qY s v a (ol o)=(false,10):=by simp only[qY,ne_eq,g1,not_true_eq_false,if_false,gb,g6,if_true]
  simp only[Z8,seval,hV,hs.iA,GP,bt g1,k94 hp,dM,bt g2,g3,hw,g4,hs.tree,k89 _ _ hs.nn,g6];exact⟨_,dC rfl rfl rfl (by simp only[E8,seval]<;>rfl) (by simp only[E8,seval]<;>rfl),by rw[hv]⟩
 by_cases g7:aJ v.ns a.target.root<0
 ·have hv:qY s v a (ol o)=(false,10):=by simp only[qY,ne_eq,g1,not_true_eq_false,if_false,gb,g6,g7,if_true]
  simp only[Z8,seval,hV,hs.iA,GP,bt g1,k94 hp,dM,bt g2,g3,hw,g4,hs.tree,k89 _ _ hs.nn,g6,g7];exact⟨_,dC rfl rfl rfl (by simp only[E8,seval]<;>rfl) (by simp only[E8,seval]<;>rfl),by rw[hv]⟩
 have q0:0≤aJ v.ns a.root:=by omega
 by_cases g8:a.slot<(nd v.ns (aJ v.ns a.root)).block.slot
 ·have hv:qY s v a (ol o)=(false,14):=by simp only[qY,ne_eq,g1,not_true_eq_false,if_false,gb,g6,g7,g8,if_true]
  simp only[Z8,seval,hV,hs.iA,GP,bt g1,k94 hp,dM,bt g2,g3,hw,g4,hs.tree,k89 _ _ hs.nn,g6,g7,q0,r1,g8];exact⟨_,dC rfl rfl rfl (by simp only[E8,seval]<;>rfl) (by simp only[E8,seval]<;>rfl),by rw[hv]⟩
 have rH:Kp (mO s a.slot) s.cFg.jK=wN s a.target.aI:=by rw[g2];rfl
 by_cases g9:Dh v.ns (aJ v.ns a.root) (wN s a.target.aI).1=aJ v.ns a.target.root
 ·have hv:qY s v a (ol o)=(decide (s.now≤a.slot),0):=by simp only[qY,ne_eq,g1,not_true_eq_false,if_false,gb,g6,g7,g8,g9]
  simp only[Z8,seval,hV,hs.iA,GP,bt g1,k94 hp,dM,bt g2,g3,hw,g4,hs.tree,k89 _ _ hs.nn,g6,g7,q0,r1,g8,k95 eS,rH,k96 _ hu h0,bt g9];exact⟨_,dC rfl rfl rfl (by simp only[E8,seval]<;>rfl) (by simp only[E8,seval]<;>rfl),by rw[hv]⟩
 ·have hv:qY s v a (ol o)=(false,19):=by simp only[qY,ne_eq,g1,not_true_eq_false,if_false,gb,g6,g7,g8,g9,not_false_eq_true,if_true]
  simp only[Z8,seval,hV,hs.iA,GP,bt g1,k94 hp,dM,bt g2,g3,hw,g4,hs.tree,k89 _ _ hs.nn,g6,g7,q0,r1,g8,k95 eS,rH,k96 _ hu h0,bf g9];exact⟨_,dC rfl rfl rfl (by simp only[E8,seval]<;>rfl) (by simp only[E8,seval]<;>rfl),by rw[hv]⟩
theorem k38 {s:aM} {v:SV} (hs:SD s v) (hu:fZ v.ns) (h0:(nd v.ns 0).up=-1) (hp:1≤s.cFg.jK∧s.cFg.jK≤64) (Ec:Rg s.now) (a:oY) (Qt:Rg a.slot) (o:Option (List Int)) (hV:a.dX=ov aH o) (hl:((ol o).length:Int)<1000000) (st:St) (d:Option Nat) :
 aN (aB Tryz.prog) 38 [.agg (aA s),.agg (eH a)] st d=some { dst:=d,val:=.eE [.v (.bool (qY s v a (ol o)).1),.v (.int .i64 (qY s v a (ol o)).2)]} :=
 bF (bA hs.flat ((qE a).2 (by rw[hV];exact bE o))) (c38 hs hu h0 hp Ec a Qt o hV hl) (.eE _ (bA (.v _) (.v _)))
theorem vl0 {n:Int} (h:1≤n):Dy [0] n=0:=by
 unfold Dy;rw[if_neg (by simp),sM _ (fun j hj=>?_),if_pos (by omega)]
 have:j=0:=by simpa using hj
 subst this;unfold Dx;simp[gx]
 omega
theorem Ns (s:aM):mO s 0=0:=by unfold mO;rw[Int.zero_tdiv];exact zP _ (by omega) (by omega)
noncomputable def Bn (c:Config) (e:Int):oY:=⟨0,c.dY,⟨e,c.dY⟩,ov aH (some [0])⟩
theorem aBS {s:aM} (h:1≤s.cFg.jK∧s.cFg.jK≤64):mO s 1=0∨mO s 1=1:=by
 have h1:mO s 1=1 / s.cFg.jK:=by
  unfold mO;rw[Int.tdiv_eq_ediv_of_nonneg (by omega)]
  exact zP _ (Int.ediv_nonneg (by omega) (by omega)) (Int.lt_of_le_of_lt (Int.ediv_le_self _ (by omega)) (by omega))
 rw[h1];have h2:(1:Int) / s.cFg.jK≤1:=Int.ediv_le_self _ (by omega)
 have h3:(0:Int)≤1 / s.cFg.jK:=Int.ediv_nonneg (by omega) (by omega)
 omega
theorem aLO {c:Config} {b:List Int} (h:Fe c b) (n:Int) (hn:n=0∨n=1):qY { vT c b with now:=n } (wQ c b) (Bn c 0) [0]=(decide (n≤0),0):=by
 have hB:((ol (wQ c b).B).length:Int)=b.length:=rfl
 have h1:Dy [0] (ol (wQ c b).B).length=0:=vl0 (by rw[hB];have:=h.nb;omega)
 have hp:1≤({ vT c b with now:=n }:aM).cFg.jK∧({ vT c b with now:=n }:aM).cFg.jK≤64:=h.jK
 have h2:¬uO { vT c b with now:=n } (Bn c 0):=by
  rintro (h2|⟨h2,h3⟩)
  ·exact h2 (Ns _).symm
  ·have e1:mO { vT c b with now:=n } ({ vT c b with now:=n }:aM).now=0∨mO { vT c b with now:=n } ({ vT c b with now:=n }:aM).now=1:=by
    show mO _ n=0∨mO _ n=1
    rcases hn with rfl|rfl
    ·exact .inl (Ns _)
    ·exact aBS hp
   rcases e1 with e1|e1
   ·exact h2 e1.symm
   ·rw[e1] at h3;rcases h3 with h3|h3
    ·omega
    ·exact h3 (by rw[zP _ (by omega) (by omega)];rfl)
 have h3:aJ (wQ c b).ns (Bn c 0).root=0:=(MR h).1
 have h4:aJ (wQ c b).ns (Bn c 0).target.root=0:=(MR h).1
 have g:=GI.new h
 have h5:(nd (wQ c b).ns 0).block.slot=0:=rfl
 have h6:Dh (wQ c b).ns 0 (wN { vT c b with now:=n } (Bn c 0).target.aI).1=0:=by
  refine FE g.up ⟨by omega,by show (0:Int)<((1:Nat):Int);omega⟩ ?_
  rw[h5];show (0:Int)≤(wN _ 0).1
  rw[(P4 (x:=0) hp (e:=0) (by omega) (by rw[Ns];omega) ⟨by omega,by omega⟩).1]
  show (0:Int)≤0 * _
  omega
 unfold qY;rw[if_neg (by rw[h1];simp),if_neg h2,h3,if_neg (by omega),h4,if_neg (by omega),if_neg (by rw[h5];show ¬(0:Int)<0;omega),if_neg (by rw[h6];simp)]
 rfl
theorem aQ2 {c:Config} {b:List Int} (h:Fe c b) (n:Int):qY { vT c b with now:=n } (wQ c b) (Bn c 1) [0]=(false,18):=by
 have hB:((ol (wQ c b).B).length:Int)=b.length:=rfl
 have h1:Dy [0] (ol (wQ c b).B).length=0:=vl0 (by rw[hB];have:=h.nb;omega)
 have h2:uO { vT c b with now:=n } (Bn c 1):=.inl (by show (1:Int)≠mO _ 0;rw[Ns];omega)
 unfold qY;rw[if_neg (by rw[h1];simp),if_pos h2]
theorem He {g:Nat} {s:aM} (hf:Flat (.agg (aA s))) (a:oY) {L:List Int} {r:AV} (h:aB Tryz.prog g [.agg (aA s),.agg (eH { a with dX:=ov aH (some L)})]=some r) (hr:Gh r) (hR:Flat r) (st:St) (d:Option Nat) (x k:Nat) (hh:st.heap x k=some (.row 3 1 L.length (aH L))) :
 aN (aB Tryz.prog) g [.agg (aA s),.agg (eH { a with dX:=.own x k })] st d=some { dst:=d,val:=r }:=by
 refine v8 ⟨.agg (eH { a with dX:=.own x k }),by simp,fun hF=>?_⟩ ?_ h hr hR
 ·cases hF with
  | agg _ h=>exact mI x k (h _ (by simp[eH]))
 ·simp only[List.map_cons,List.map_nil,eB hf,bM,kJ,bG,hh,iZ,cN,bY,Option.map_some];rfl
theorem aQ3 {c:Config} {b:List Int} (h:Fe c b):∃L:List iV,(pC (ol (wQ c b).L) 0 c.dY [0]).1=L∧(gx gI L 0).has=true∧(0:Int)<L.length:=by
 refine⟨_,rfl, ?_, ?_⟩
 ·have e1:(pC (ol (wQ c b).L) 0 c.dY [0]).1=(List.replicate b.length gI).set 0 ⟨true,0,c.dY⟩:=by
   show (Cg 0 c.dY (List.replicate b.length gI,0) 0).1=_
   unfold Cg;rw[if_pos]
   ·rfl
   ·left
    have:=h.nb
    simp[gx,gI]
    cases hb:b.length with
    | zero=>omega
    | succ n=>simp[List.replicate_succ,gI]
  rw[e1];have:=h.nb
  cases hb:b.length with
  | zero=>omega
  | succ n=>rfl
 ·rw[Ch];show (0:Int)<((List.replicate b.length gI).length:Nat)
  rw[List.length_replicate];have:=h.nb
  omega
theorem aBT {g:Nat} {s:aM} (hf:Flat (.agg (aA s))) (a:oY) {L:List Int} {r:AV} (h:aB Tryz.prog g [.agg (aA s),.agg (eH { a with dX:=ov aH (some L)})]=some r) (hR:Flat r) (st:St) (d:Option Nat) (x k:Nat) (hh:st.heap x k=some (.row 3 1 L.length (aH L))) :
 eQ (aB Tryz.prog) g [.agg (aA s),.agg (eH { a with dX:=.own x k })] st d=some { dst:=d,val:=r,dP:=some (x,k,none)}:=by
 have hc:∀y∈aA s,Flat y:=by cases hf with|agg _ h=>exact h
 have e1:([.agg (aA s),.agg (eH { a with dX:=.own x k })]:List AV).flatMap iQ=[(x,k)]:=by
  simp only[List.flatMap_cons,List.flatMap_nil,List.append_nil];show (aA s).flatMap gK++(eH { a with dX:=.own x k }).flatMap gK=_
  rw[lJ hc];simp only[eH,List.flatMap_append,lJ (eM _),lJ (dH _),lJ (cT _),List.flatMap_cons,List.flatMap_nil,List.nil_append,List.append_nil];rfl
 have e2:∀y∈([.agg (aA s),.agg (eH { a with dX:=.own x k })]:List AV),JY y:=by
  intro y hy;rcases List.mem_cons.1 hy with rfl|hy
  ·exact .inl hf
  ·rw[List.mem_singleton.1 hy];refine .inr (.inr ⟨_,rfl,fun c hc=>?_⟩)
   simp only[eH,List.mem_append,List.mem_singleton] at hc;rcases hc with hc|hc|hc|hc
   ·exact .inl (eM _ _ hc)
   ·exact .inl (dH _ _ hc)
   ·exact .inl (cT _ _ hc)
   ·exact .inr ⟨x,k,hc⟩
 rw[It (s:=x) (k:=k) e1 e2];have e3:bY (([.agg (aA s),.agg (eH { a with dX:=.own x k })]:List AV).map (fV st))=some [.agg (aA s),.agg (eH { a with dX:=ov aH (some L)})]:=by
  simp only[List.map_cons,List.map_nil,eB hf,bM,kJ,bG,hh,iZ,cN,bY,Option.map_some];rfl
 rw[e3];exact DR h hR
theorem c41:aB Tryz.prog 41 []=some (.v (.bool true)):=by
 obtain⟨y,hy,c,b,rfl,hc⟩:=aLm [3] (by decide)
 have fc:Flat (.agg (bQ c)):=(xP c).2 (by rw[hc.iA];exact dU _)
 have aBQ:∀(st:St) (a g:Nat) (d:Option Nat),st.heap a g=some (.row 3 1 1 [.v (.int .i64 3)])→eQ (aB Tryz.prog) 101 [.own a g] st d=some { dst:=d,val:=.agg (bQ c),dP:=some (a,g,none)}:=fun st a g d hh=>by
  rw[It (s:=a) (k:=g) rfl (by intro y hy;simp only[List.mem_cons,List.not_mem_nil,or_false] at hy;subst hy;exact .inr (.inl ⟨a,g,rfl⟩)),List.map_cons,List.map_nil,Iu (L:=[3]) hh,bR,gU]
  exact DR hy fc
 have g0:=GI.new hc
 have r0:=RG.new hc
 have fs:=g0.sd.flat
 have aFP:=kx (aKE hc) (cK fc) (.eE _ (bA fs (.v _)))
 have g1:=g0.now 1
 have n0:((ol (some [0]:Option (List Int))).length:Int)<1000000:=by decide
 have fr:∀x y:Value,Flat (.eE [.v x,.v y]):=fun x y=>.eE _ (bA (.v _) (.v _))
 have fR:∀(x:Bool) (y:Int),Gh (.eE [.v (.bool x),.v (.int .i64 y)]):=fun x y z hz=>by
  rcases List.mem_cons.1 hz with rfl|hz
  ·exact gE.v _
  ·rw[List.mem_singleton.1 hz];exact gE.v _
 have ka:∀(st:St) (d:Option Nat) (x k:Nat),st.heap x k=some (.row 3 1 1 [.v (.int .i64 0)])→aN (aB Tryz.prog) 38 [.agg (aA (vT c b)),.agg (eH ⟨0,c.dY,⟨0,c.dY⟩,.own x k⟩)] st d=some { dst:=d,val:=.eE [.v (.bool true),.v (.int .i64 0)]}:=fun st d x k hh=>by
  have h:=c38 g0.sd g0.up g0.To hc.jK ⟨by show (0:Int)≤0;omega,by show (0:Int)<_;omega⟩ (Bn c 0) ⟨by show (0:Int)≤0;omega,by show (0:Int)<_;omega⟩ (some [0]) rfl n0
  rw[show qY (vT c b) (wQ c b) (Bn c 0) (ol (some [0]))=(decide ((0:Int)≤0),0) from aLO hc 0 (.inl rfl)] at h
  exact He fs (Bn c 0) (L:=[0]) h (fR _ _) (fr _ _) st d x k hh
 have kb:∀(st:St) (d:Option Nat) (x k:Nat),st.heap x k=some (.row 3 1 1 [.v (.int .i64 0)])→aN (aB Tryz.prog) 38 [.agg (aA { vT c b with now:=1 }),.agg (eH ⟨0,c.dY,⟨0,c.dY⟩,.own x k⟩)] st d=some { dst:=d,val:=.eE [.v (.bool false),.v (.int .i64 0)]}:=fun st d x k hh=>by
  have h:=c38 g1.sd g1.up g1.To hc.jK ⟨by show (0:Int)≤1;omega,by show (1:Int)<_;omega⟩ (Bn c 0) ⟨by show (0:Int)≤0;omega,by show (0:Int)<_;omega⟩ (some [0]) rfl n0
  rw[show qY { vT c b with now:=1 } (wQ c b) (Bn c 0) (ol (some [0]))=(decide ((1:Int)≤0),0) from aLO hc 1 (.inr rfl)] at h
  exact He g1.sd.flat (Bn c 0) (L:=[0]) h (fR _ _) (fr _ _) st d x k hh
 have kc:∀(st:St) (d:Option Nat) (x k:Nat),st.heap x k=some (.row 3 1 1 [.v (.int .i64 0)])→aN (aB Tryz.prog) 38 [.agg (aA { vT c b with now:=1 }),.agg (eH ⟨0,c.dY,⟨1,c.dY⟩,.own x k⟩)] st d=some { dst:=d,val:=.eE [.v (.bool false),.v (.int .i64 18)]}:=fun st d x k hh=>by
  have h:=c38 g1.sd g1.up g1.To hc.jK ⟨by show (0:Int)≤1;omega,by show (1:Int)<_;omega⟩ (Bn c 1) ⟨by show (0:Int)≤0;omega,by show (0:Int)<_;omega⟩ (some [0]) rfl n0
  rw[show qY { vT c b with now:=1 } (wQ c b) (Bn c 1) (ol (some [0]))=(false,18) from aQ2 hc 1] at h
  exact He g1.sd.flat (Bn c 1) (L:=[0]) h (fR _ _) (fr _ _) st d x k hh
 obtain⟨L,hL,hh,hp⟩:=aQ3 hc
 have fk:Flat (.agg (aA (Eb { vT c b with now:=1 } (wQ c b) (Bn c 0) [0]))):=(g1.cast (Bn c 0) [0]).sd.flat
 obtain⟨S3,hS3⟩:∃S3,Eb { vT c b with now:=1 } (wQ c b) (Bn c 0) [0]=S3:=⟨_,rfl⟩
 have hS3L:S3.eZ.dR=ov bW (some L):=by rw[← hS3,← hL];rfl
 have kd:∀(st:St) (d:Option Nat) (x k:Nat),st.heap x k=some (.row 3 1 1 [.v (.int .i64 0)])→eQ (aB Tryz.prog) 43 [.agg (aA { vT c b with now:=1 }),.agg (eH ⟨0,c.dY,⟨0,c.dY⟩,.own x k⟩)] st d=some { dst:=d,val:=.agg (aA S3),dP:=some (x,k,none)}:=fun st d x k h5=>by
  have hb:=hc.nb
  have h:=c43 g1.sd r0.ne (by show (some b:Option (List Int))≠some [];intro e;cases e;simp at hb) (List.replicate b.length gI) rfl (by intro e;have:=congrArg List.length e;rw[List.length_replicate] at this;simp only[List.length_nil] at this;omega) g1.pos (Bn c 0) (some [0]) rfl n0 (fun x hx=>by
   rw[show x=0 by simpa [ol] using hx]
   refine⟨by omega, ?_⟩
   show (0:Int)<((List.replicate b.length gI).length:Nat)
   rw[List.length_replicate];omega)
  rw[show ol (some [0]:Option (List Int))=[0] from rfl,hS3] at h
  have fk:=fk
  rw[hS3] at fk;exact aBT g1.sd.flat (Bn c 0) (L:=[0]) h fk st d x k h5
 rw[cL Tryz.func41 rfl aQ5 rfl];refine jB ?_
 simp only[Z8,seval,aBQ,aFP,dM,show Hc.slot=0 from rfl,show iB.aI=0 from rfl,ka,kb,kc,kd,hS3L,hh,hp,rW,beI,decide_true,beq_self_eq_true,Bool.true_and,Bool.and_self];exact⟨_,bP rfl (by simp only[E8,seval]<;>rfl) (by first|exact .v _|simp only[eA]),rfl⟩
end Go.Ab.Tryz
