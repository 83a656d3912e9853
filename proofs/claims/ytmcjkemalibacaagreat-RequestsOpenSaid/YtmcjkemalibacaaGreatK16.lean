/-
  Part 16 of the proof: an evaluator of programs, its soundness, and what functions of this program compute.
-/
import Derived.Test.YtmcjkemalibacaaGreatK14
import Derived.Test.YtmcjkemalibacaaGreatK15
import Derived.Test.YtmcjkemalibacaaGreatK13
import Derived.Test.YtmcjkemalibacaaGreatK12
import Derived.Test.YtmcjkemalibacaaGreatK11
import Derived.Test.YtmcjkemalibacaaGreatK10
set_option linter.all false
set_option maxRecDepth 20000
set_option maxHeartbeats 40000000
namespace Go.Ab.Tryz
open Classical Go.Proofs Go.Ab
def aQP (s:aN) (v:SV) (q:Int) (r:AV):Prop:=∃(s':aN) (R:Option (List cA)) (e:Int),r=.eG [.agg (aB s'),ov dV R,.v (.int .i64 e)]∧Flat (.agg (aB s'))∧((ol R).length:Int)≤70∧e≠21∧(e=0→∃v',GI s' v' q∧RG s' v'∧s'.cFg=s.cFg)
theorem aQQ {s:aN} {v:SV} {q:Int} (h:GI s v q) (r:RG s v) (b:Block) (rb:RB b∧Pr b.root):∃r,aC Tryz.prog 203 [.agg (aB s),.agg (aT b)]=some r∧aQP s v q r:=by
 have hf:=h.sd.flat
 have kE:=h.sd.fl
 have hz:=Ka
 have WL:=k52 h.sd h.up h.sp
 have nO:=h.nO
 have OJ:=h.OJ
 have nn':=h.sd.nO
 rw[cL Tryz.func203 rfl aLL rfl];by_cases g1:Md s v b=10
 ·by_cases g2:s.cFg.mD.wY≤((ol v.O).length:Int)
  ·simp only[Z8,seval,WL,bt g1,h.sd.bV,g2];exact⟨_,by apply gO;rfl;all_goals simp only[aI,bT,Z8,seval,hz]<;>rfl,gP,none,11,rfl,hz,by simp[ol],by decide,fun h=>by cases h⟩
  ·have hw:=h.VQ (some (ol v.O++[{ b with Co:=false }])) (by show (((ol v.O++[{ b with Co:=false }]).length:Nat):Int)≤s.cFg.mD.wY;rw[List.length_append,List.length_cons,List.length_nil];omega)
   have hwr:=r.VQ (some (ol v.O++[{ b with Co:=false }])) (ov aH (some (ol v.O++[{ b with Co:=false }]))) (fun c hc=>(List.mem_append.1 hc).elim (r.or c) fun e=>by rw[List.mem_singleton] at e;subst e;exact⟨⟨rb.1.sl,rb.1.j,rb.1.f,rb.1.pj,rb.1.pf⟩,rb.2⟩) (by simp)
   simp only[Z8,seval,WL,bt g1,h.sd.bV,g2,iQ _ nn',HA _ _ _ _ nn'];exact⟨_,by apply gO;rfl;all_goals simp only[aI,bT,Z8,seval,bP,gJ,bA,uH,bY,dU,kE]<;>rfl,_,none,0,rfl,hw.sd.flat,by simp[ol],by decide,fun _=>⟨_,hw,hwr,rfl⟩⟩
 by_cases g2:Md s v b=0
 case neg =>
  simp only[Z8,seval,WL,bf g1,bf g2];exact⟨_,by apply gO;rfl;all_goals simp only[aI,bT,Z8,seval,hz]<;>rfl,gP,none,_,rfl,hz,by simp[ol],aFL _ _ _,fun h=>absurd h g2⟩
 have p5:=aLx h g2
 have aCt:=h.ins g2
 have aCu:=r.ins rb g2
 have hcf:=Bt s v b
 have hO1:=VS s v b
 cases g3:b.Co
 · -- not timely
  have hG:GI (tF s v b) (lF s v b) q:=aCt
  have oK:RG (tF s v b) (lF s v b):=aCu
  have hC:((tF s v b)).cFg=s.cFg:=hcf.1
  have pP:=OG hG.sd
  simp only[Z8,seval,WL,bf g1,bt g2,p5,g3,pP];refine Qj (a:=Bv) (F7 s v q) (JE (by omega) (m:=(ol (lF s v b).O).length) ⟨(tF s v b),lF s v b,_,[b.root],66,0, ?start,.inl ⟨rfl,rfl⟩,.inl rfl,hG,oK,hC,by simp;omega,rfl⟩) ?rest
  case start =>
   rw[tH hG.sd];simp only[E8,seval,dV,List.flatMap_cons,List.flatMap_nil,List.append_nil]<;>rfl
  case rest =>
   rintro e st ⟨rfl,S0,w,X,R,a,g,hI,ha,hX,hG,oK,hC,hR⟩
   have V1:(a=4)=False:=eq_false ha
   have aGc:=hG.sd.fl
   have hfo:=hG.sd.bV
   rcases hX with rfl|⟨g',L,hL,rfl,B8⟩
   ·rw[tH hG.sd] at hI;have DO:=hG.sd.flat
    simp only[Z8,seval,hI];exact⟨_,by apply gO;rfl;all_goals simp only[aI,bT,Z8,seval,hI,V1,DO,wP]<;>rfl,S0,some R,0,rfl,DO,by simp only[ol,Option.getD_some];omega,by decide,fun _=>⟨w,hG,oK,hC⟩⟩
   ·have hex:=fun st' hh=>zV (O:=L) (a:=91) (g:=g') hG.sd st' hh
    have PH:mS S0 (ov aH (some L))=S0:=by rw[← hL];exact tH hG.sd
    rw[PH] at hex;simp only[Z8,seval,hI];exact⟨_,by apply gO;rfl;all_goals simp only[aI,bT,Z8,seval,hI,V1,B8,hex,wP]<;>rfl,S0,some R,0,rfl,hG.sd.flat,by simp only[ol,Option.getD_some];omega,by decide,fun _=>⟨w,hG,oK,hC⟩⟩
 by_cases g4:b.slot=s.now
 case neg =>
  have hG:GI (tF s v b) (lF s v b) q:=aCt
  have oK:RG (tF s v b) (lF s v b):=aCu
  have hC:((tF s v b)).cFg=s.cFg:=hcf.1
  have pP:=OG hG.sd
  simp only[Z8,seval,WL,bf g1,bt g2,p5,g3,bf g4,pP];refine Qj (a:=Bv) (F7 s v q) (JE (by omega) (m:=(ol (lF s v b).O).length) ⟨(tF s v b),lF s v b,_,[b.root],66,0, ?start,.inl ⟨rfl,rfl⟩,.inl rfl,hG,oK,hC,by simp;omega,rfl⟩) ?rest
  case start =>
   rw[tH hG.sd];simp only[E8,seval,dV,List.flatMap_cons,List.flatMap_nil,List.append_nil]<;>rfl
  case rest =>
   rintro e st ⟨rfl,S0,w,X,R,a,g,hI,ha,hX,hG,oK,hC,hR⟩
   have V1:(a=4)=False:=eq_false ha
   have aGc:=hG.sd.fl
   have hfo:=hG.sd.bV
   rcases hX with rfl|⟨g',L,hL,rfl,B8⟩
   ·rw[tH hG.sd] at hI;have DO:=hG.sd.flat
    simp only[Z8,seval,hI];exact⟨_,by apply gO;rfl;all_goals simp only[aI,bT,Z8,seval,hI,V1,DO,wP]<;>rfl,S0,some R,0,rfl,DO,by simp only[ol,Option.getD_some];omega,by decide,fun _=>⟨w,hG,oK,hC⟩⟩
   ·have hex:=fun st' hh=>zV (O:=L) (a:=91) (g:=g') hG.sd st' hh
    have PH:mS S0 (ov aH (some L))=S0:=by rw[← hL];exact tH hG.sd
    rw[PH] at hex;simp only[Z8,seval,hI];exact⟨_,by apply gO;rfl;all_goals simp only[aI,bT,Z8,seval,hI,V1,B8,hex,wP]<;>rfl,S0,some R,0,rfl,hG.sd.flat,by simp only[ol,Option.getD_some];omega,by decide,fun _=>⟨w,hG,oK,hC⟩⟩
 by_cases g5:s.iG=dE
 case neg =>
  have hG:GI (tF s v b) (lF s v b) q:=aCt
  have oK:RG (tF s v b) (lF s v b):=aCu
  have hC:((tF s v b)).cFg=s.cFg:=hcf.1
  have pP:=OG hG.sd
  simp only[Z8,seval,WL,bf g1,bt g2,p5,g3,bt g4,g5,pP];refine Qj (a:=Bv) (F7 s v q) (JE (by omega) (m:=(ol (lF s v b).O).length) ⟨(tF s v b),lF s v b,_,[b.root],66,0, ?start,.inl ⟨rfl,rfl⟩,.inl rfl,hG,oK,hC,by simp;omega,rfl⟩) ?rest
  case start =>
   rw[tH hG.sd];simp only[E8,seval,dV,List.flatMap_cons,List.flatMap_nil,List.append_nil]<;>rfl
  case rest =>
   rintro e st ⟨rfl,S0,w,X,R,a,g,hI,ha,hX,hG,oK,hC,hR⟩
   have V1:(a=4)=False:=eq_false ha
   have aGc:=hG.sd.fl
   have hfo:=hG.sd.bV
   rcases hX with rfl|⟨g',L,hL,rfl,B8⟩
   ·rw[tH hG.sd] at hI;have DO:=hG.sd.flat
    simp only[Z8,seval,hI];exact⟨_,by apply gO;rfl;all_goals simp only[aI,bT,Z8,seval,hI,V1,DO,wP]<;>rfl,S0,some R,0,rfl,DO,by simp only[ol,Option.getD_some];omega,by decide,fun _=>⟨w,hG,oK,hC⟩⟩
   ·have hex:=fun st' hh=>zV (O:=L) (a:=91) (g:=g') hG.sd st' hh
    have PH:mS S0 (ov aH (some L))=S0:=by rw[← hL];exact tH hG.sd
    rw[PH] at hex;simp only[Z8,seval,hI];exact⟨_,by apply gO;rfl;all_goals simp only[aI,bT,Z8,seval,hI,V1,B8,hex,wP]<;>rfl,S0,some R,0,rfl,hG.sd.flat,by simp only[ol,Option.getD_some];omega,by decide,fun _=>⟨w,hG,oK,hC⟩⟩
 have hG:GI { tF s v b with iG:=b.root } (lF s v b) q:=aCt.iG b.root
 have oK:RG { tF s v b with iG:=b.root } (lF s v b):=aCu.iG b.root
 have hC:({ tF s v b with iG:=b.root }).cFg=s.cFg:=hcf.1
 have pP:=OG hG.sd
 simp only[Z8,seval,WL,bf g1,bt g2,p5,g3,bt g4,g5,pP];refine Qj (a:=Bv) (F7 s v q) (JE (by omega) (m:=(ol (lF s v b).O).length) ⟨{ tF s v b with iG:=b.root },lF s v b,_,[b.root],66,0, ?start,.inl ⟨rfl,rfl⟩,.inl rfl,hG,oK,hC,by simp;omega,rfl⟩) ?rest
 case start =>
  rw[tH hG.sd];simp only[E8,seval,dV,List.flatMap_cons,List.flatMap_nil,List.append_nil]<;>rfl
 case rest =>
  rintro e st ⟨rfl,S0,w,X,R,a,g,hI,ha,hX,hG,oK,hC,hR⟩
  have V1:(a=4)=False:=eq_false ha
  have aGc:=hG.sd.fl
  have hfo:=hG.sd.bV
  rcases hX with rfl|⟨g',L,hL,rfl,B8⟩
  ·rw[tH hG.sd] at hI;have DO:=hG.sd.flat
   simp only[Z8,seval,hI];exact⟨_,by apply gO;rfl;all_goals simp only[aI,bT,Z8,seval,hI,V1,DO,wP]<;>rfl,S0,some R,0,rfl,DO,by simp only[ol,Option.getD_some];omega,by decide,fun _=>⟨w,hG,oK,hC⟩⟩
  ·have hex:=fun st' hh=>zV (O:=L) (a:=91) (g:=g') hG.sd st' hh
   have PH:mS S0 (ov aH (some L))=S0:=by rw[← hL];exact tH hG.sd
   rw[PH] at hex;simp only[Z8,seval,hI];exact⟨_,by apply gO;rfl;all_goals simp only[aI,bT,Z8,seval,hI,V1,B8,hex,wP]<;>rfl,S0,some R,0,rfl,hG.sd.flat,by simp only[ol,Option.getD_some];omega,by decide,fun _=>⟨w,hG,oK,hC⟩⟩
def PfR (q m:Int) (r:AV):Prop:=∃(t':State) (e:Int),r=.eG [.agg (aF t'),.v (.int .i64 e)]∧Flat (.agg (aF t'))∧(e=0∨e=21→∃v' Q' R',TI t' v' Q' R' (q+1000) (m+256))
theorem PI {t:State} (h:Flat (.agg (aF t))) {s':aN} (hs:Flat (.agg (aB s'))):Flat (.agg (aF { t with store:=s' })):=by
 obtain⟨_,_,_,_,_,_,_,h8,h9⟩:=(oG t).1 h
 obtain⟨h1,h2,h3,h4,h5,h6,h7⟩:=(Ig s').1 hs
 exact (oG _).2 ⟨h1,h2,h3,h4,h5,h6,h7,h8,h9⟩
theorem aQR {t:State} {v:SV} {Q R:Option (List Request)} {q m:Int} (h:TI t v Q R q m) (x:xL) (hx:pG x) (hp:x.kind=2→Pr x.block.root) (hq:q+1000≤900000) (hm:m+256≤100000) :
 ∃r,aC Tryz.prog 185 [.agg (aF t),.agg (kY x)]=some r∧PfR q m r:=by
 have hf:=h.td.flat
 have ZQ:=h.gi.sd.flat
 have IQ:=hx.flat
 have aCv:=hx.fl
 have up:∀ {t':State} {v':SV} {Q' R':Option (List Request)} {q' m':Int},TI t' v' Q' R' q' m'→q'≤q+1000→m'≤m+256→∃v' Q' R',TI t' v' Q' R' (q+1000) (m+256):=fun g a b=>⟨_,_,_,g.mono a hq b hm⟩
 have nt:=h.nt
 have mB:=h.mB
 have lq:=h.lq
 have lr:=h.lr
 have rB:=h.aCr
 rw[cL Tryz.func185 rfl aLM rfl];by_cases k1:x.kind=1
 ·obtain⟨y,hy,s',e,rfl,p6,ne,ho⟩:=aQB h.gi h.rg
  have k202:=kx hy (cU ZQ) (.eG _ (bG p6 (.v _)))
  have ft:=PI hf p6
  by_cases e0:e=0
  ·obtain⟨v',g,r,c⟩:=ho e0
   have T0:=h.toTI0.store g r c
   have T1:=T0.drop
   have T2:=T1.due hm
   have k36:=kx (c36 T0.td) (cU ft) T1.td.flat
   have k74:=kx (c74 T1.td (by have:=T1.lq;have:=T1.lr;have:=T1.aCr;omega)) (cU T1.td.flat) T2.td.flat
   have MY:=T2.td.flat
   simp only[Z8,seval,bt k1,k202,dY,bt e0,k36,k74];exact⟨_,by apply dO;rfl;all_goals simp only[aI,bT,Z8,seval,MY]<;>rfl,_,e,rfl,MY,fun _=>up T2 (by omega) (by omega)⟩
  ·simp only[Z8,seval,bt k1,k202,dY,bf e0];exact⟨_,by apply dO;rfl;all_goals simp only[aI,bT,Z8,seval,ft]<;>rfl,_,e,rfl,ft,fun h=>absurd h (by omega)⟩
 by_cases k2:x.kind=2
 ·obtain⟨y,hy,s',L,e,rfl,p6,nL,ne,ho⟩:=aQQ h.gi h.rg x.block ⟨hx.rb,hp k2⟩
  have k203:=kx hy (bG ZQ (vC _)) (.eG _ (nA p6 (Iq L) (.v _)))
  have ft:=PI hf p6
  by_cases e0:e=0
  ·obtain⟨v',g,r,c⟩:=ho e0
   have T0:=h.toTI0.store g r c
   have T1:=T0.drop
   have T2:=T1.open (ol L) (by omega) hm
   have k36:=kx (c36 T0.td) (cU ft) T1.td.flat
   have k32:∀(st:St) (d:Option Nat),eI (aC Tryz.prog) 32 _ st d=_:=fun st d=>Ir (bG T1.td.flat (Iq L)) (c32 T1.td L (by have:=T1.lq;omega)) T2.td.flat
   have MY:=T2.td.flat
   simp only[Z8,seval,bf k1,bt k2,k203,dY,bt e0,k36,k32];exact⟨_,by apply dO;rfl;all_goals simp only[aI,bT,Z8,seval,MY]<;>rfl,_,e,rfl,MY,fun _=>up T2 (by omega) (by omega)⟩
  ·simp only[Z8,seval,bf k1,bt k2,k203,dY,bf e0];exact⟨_,by apply dO;rfl;all_goals simp only[aI,bT,Z8,seval,ft]<;>rfl,_,e,rfl,ft,fun h=>absurd h (by omega)⟩
 by_cases k3:x.kind=3
 ·obtain⟨V,hV,nV⟩:=hx.Hl
  obtain⟨y,hy,s',e,rfl,p6,ne,ho⟩:=aPL h.gi h.rg x.Hl V hV (by omega)
  have k204:=kx hy (bG ZQ ((zP _).2 aCv.1)) (.eG _ (bG p6 (.v _)))
  have ft:=PI hf p6
  have fin:e=0∨e=21→∃v' Q' R',TI { t with store:=s' } v' Q' R' (q+1000) (m+256):=fun he=>by
   obtain⟨v',g,r,c,en⟩:=ho (by omega)
   exact up ⟨h.toTI0.store g r c,by rw[en];exact h.O0,by rw[en];exact h.O1⟩ (by omega) (by omega)
  simp only[Z8,seval,bf k1,bf k2,bt k3,k204,dY];exact⟨_,by apply dO;rfl;all_goals simp only[aI,bT,Z8,seval,ft]<;>rfl,_,e,rfl,ft,fin⟩
 by_cases k4:x.kind=4
 ·obtain⟨V,hV,nV⟩:=hx.c1
  obtain⟨W,hW,nW⟩:=hx.c2
  obtain⟨y,hy,s',e,rfl,p6,ne,ho⟩:=aPK h.gi h.rg x.oU V W hV hW nV nW hq
  have k205:=kx hy (bG ZQ ((nD _).2 ⟨aCv.2.1,aCv.2.2.1⟩)) (.eG _ (bG p6 (.v _)))
  have ft:=PI hf p6
  have fin:e=0∨e=21→∃v' Q' R',TI { t with store:=s' } v' Q' R' (q+1000) (m+256):=fun he=>by
   obtain⟨v',g,r,c,en⟩:=ho (by omega)
   exact up ⟨h.toTI0.store g r c,by rw[en];exact h.O0,by rw[en];exact h.O1⟩ (by omega) (by omega)
  simp only[Z8,seval,bf k1,bf k2,bf k3,bt k4,k205,dY];exact⟨_,by apply dO;rfl;all_goals simp only[aI,bT,Z8,seval,ft]<;>rfl,_,e,rfl,ft,fin⟩
 by_cases k5:x.kind=5
 ·have nT:=h.gi.nT
  have VP:=h.gi.VP
  obtain⟨y,hy,s',e,rfl,p6,ne,ho⟩:=aPn h.gi.sd (by omega) x.table hx.T6
  have k117:=kx hy (bG ZQ ((kF _).2 aCv.2.2.2)) (.eG _ (bG p6 (.v _)))
  have ft:=PI hf p6
  have fin:e=0∨e=21→∃v' Q' R',TI { t with store:=s' } v' Q' R' (q+1000) (m+256):=fun he=>by
   obtain⟨o',rfl,nl,tb,sub,ne1,ne2⟩:=ho (by omega)
   have g:GI { t.store with tables:=ov aR o' } { v with T:=o' } q :=
    ⟨⟨h.gi.sd.jO,h.gi.sd.dT,h.gi.sd.iB,h.gi.sd.early,h.gi.sd.bV,h.gi.sd.tree,rfl,h.gi.sd.eV,tb,h.gi.sd.nB,h.gi.sd.nL,h.gi.sd.nQ,h.gi.sd.nE,h.gi.sd.nO,by show ((ol o').length:Int)<_;omega,h.gi.sd.nn⟩,h.gi.up,h.gi.NM,h.gi.pos,h.gi.nl,h.gi.VO,h.gi.qW,h.gi.OI,h.gi.nB,h.gi.nO,h.gi.OJ,h.gi.nE,h.gi.UF,by show ((ol o').length:Int)≤t.store.cFg.mD.qX;omega,h.gi.VP,h.gi.nQ,h.gi.Q5,h.gi.gW⟩
   have r:RG { t.store with tables:=ov aR o' } { v with T:=o' }:=⟨h.rg.now,h.rg.j,h.rg.f,h.rg.nd,h.rg.or,h.rg.rt,h.rg.fe,h.rg.ds,by obtain⟨tb,h1,h2⟩:=h.rg.tb;exact⟨tb,sub h1,h2⟩,⟨h.rg.ne.q,h.rg.ne.e,h.rg.ne.o,ne1,h.rg.ne.ea,fun x hx=>(ne2 x hx).elim (h.rg.ne.tb x) fun ⟨B,h1,h2⟩=>⟨B,h1,fun e=>by have h3:=h.jO.1;rw[e] at h2;simp at h2;omega⟩⟩⟩
   exact up ⟨h.toTI0.store g r rfl,h.O0,h.O1⟩ (by omega) (by omega)
  simp only[Z8,seval,bf k1,bf k2,bf k3,bf k4,bt k5,k117,dY];exact⟨_,by apply dO;rfl;all_goals simp only[aI,bT,Z8,seval,ft]<;>rfl,_,e,rfl,ft,fin⟩
 by_cases k6:x.kind=6
 ·obtain⟨y,hy,t',e,v',Q',R',rfl,g⟩:=aQN h x.verdict
  have k206:=kx hy (bG hf (.agg _ (gM _))) (.eG _ (bG g.td.flat (.v _)))
  have ft:=g.td.flat
  simp only[Z8,seval,bf k1,bf k2,bf k3,bf k4,bf k5,bt k6,k206,dY];exact⟨_,by apply dO;rfl;all_goals simp only[aI,bT,Z8,seval,ft]<;>rfl,_,e,rfl,ft,fun _=>up g (by omega) (by omega)⟩
 simp only[Z8,seval,bf k1,bf k2,bf k3,bf k4,bf k5,bf k6];exact⟨_,by apply dO;rfl;all_goals simp only[aI,bT,Z8,seval,hf]<;>rfl,t,2,rfl,hf,fun h=>absurd h (by omega)⟩
theorem aQT {t:State} {v:SV} {Q R:Option (List Request)} {q m:Int} (h:TI t v Q R q m) (x:xL) (hx:pG x) (hp:x.kind=2→Pr x.block.root) (hq:q+1000≤900000) (hm:m+256≤100000) :
 ∃r,aC Tryz.prog 147 [.agg (aF t),.agg (kY x)]=some r∧∃(t':State) (y:AV) (e:Int) (v':SV) (Q' R':Option (List Request)),r=.eG [.agg (aF t'),y,.v (.int .i64 e)]∧Flat y∧TI t' v' Q' R' (q+1000) (m+256):=by
 have hf:=h.td.flat
 have IQ:=hx.flat
 have h':=h.mono (q':=q+1000) (m':=m+256) (by omega) hq (by omega) hm
 obtain⟨y1,hy1,e1,rfl⟩:=aP7 x hx
 have aCw:=kx hy1 (cU IQ) (.v _)
 obtain⟨y2,hy2,t2,e2,rfl,MY,ho⟩:=aQR h x hx hp hq hm
 have aGd:=kx hy2 (bG hf IQ) (.eG _ (bG MY (.v _)))
 rw[cL Tryz.func147 rfl aLO rfl];cases g0:t.halted
 case true =>
  simp only[Z8,seval,g0];exact⟨_,by apply gO;rfl;all_goals simp only[aI,bT,Z8,seval,hf]<;>rfl,t,_,22,v,Q,R,rfl,.v _,h'⟩
 by_cases g1:e1=0
 case neg =>
  simp only[Z8,seval,g0,aCw,bf g1];exact⟨_,by apply gO;rfl;all_goals simp only[aI,bT,Z8,seval,hf]<;>rfl,t,_,e1,v,Q,R,rfl,.v _,h'⟩
 by_cases g2:e2=21
 ·obtain⟨v',Q',R',T⟩:=ho (.inr g2)
  simp only[Z8,seval,g0,aCw,bt g1,aGd,dY,bt g2];exact⟨_,by apply gO;rfl;all_goals simp only[aI,bT,Z8,seval,MY]<;>rfl,t2,_,e2,v',Q',R',rfl,.v _,T⟩
 by_cases g3:e2=0
 case neg =>
  simp only[Z8,seval,g0,aCw,bt g1,aGd,dY,bf g2,bf g3];exact⟨_,by apply gO;rfl;all_goals simp only[aI,bT,Z8,seval,hf]<;>rfl,t,_,e2,v,Q,R,rfl,.v _,h'⟩
 obtain⟨v',Q',R',T⟩:=ho (.inl g3)
 obtain⟨y3,hy3,b,c,y,rfl,fy⟩:=aKU t2 MY T.gi
 have T':=T.emit b c
 have ft3:=T'.td.flat
 have aGe:=kx hy3 (cU MY) (.eG _ (bG ft3 fy))
 simp only[Z8,seval,g0,aCw,bt g1,aGd,dY,bf g2,bt g3,aGe];exact⟨_,gO rfl (by simp only[bT,Z8,seval]<;>rfl) (by simp only[bT,Z8,seval]<;>rfl) (by simp only[bT,E8,seval]<;>rfl) (dM ft3) (dM fy) (dM (.v _)),_,y,0,v',Q',R',rfl,fy,T'⟩
theorem tR (n:Int):(mkRoot n)[0]=IntKind.u8.wrap n:=by
 simp[mkRoot]
theorem Iu {n:Int} (h0:0≤n) (h1:n<256):IntKind.u8.wrap n=n:=by
 simp only[IntKind.wrap,IntKind.bits,IntKind.signed];simp
 omega
theorem aEQ {n:Int} (h0:1≤n) (h1:n≤98):Pr (mkRoot n):=by
 refine⟨fun e=>?_,fun e=>?_⟩
 ·have e1:IntKind.u8.wrap n=dE[0]:=by rw[← tR,e]
  rw[Iu (by omega) (by omega),show dE[0]=0 from rfl] at e1
  omega
 ·have e1:IntKind.u8.wrap n=IntKind.u8.wrap 99:=by rw[← tR,← tR,e]
  rw[Iu (by omega) (by omega),Iu (by omega) (by omega)] at e1
  omega
theorem RG.new {c:Config} {b:List Int} (h:Qe c b):RG (VY c b) (Wa c b):=by
 have hg:Pr c.dX:=by rw[h.gen];exact aEQ (by omega) (by omega)
 have z:Rg 0:=o8
 refine⟨⟨by show (0:Int)≤0;omega,by show (0:Int)≤_;omega⟩,z,z,fun n hn=>?_,(fun o ho=>by cases ho),fun n hn=>?_,⟨by show (0:Int)≤0;omega, ?_⟩, ?_, ?_, ?_⟩
 ·rw[show n=⟨IZ c,-1,1⟩ from List.mem_singleton.1 hn];exact⟨⟨z,z,z,z,z⟩,by show (0:Int)≤0;omega⟩
 ·rw[show n=⟨IZ c,-1,1⟩ from List.mem_singleton.1 hn];exact hg
 ·show (0:Int)≤IntKind.u64.wrap (Int.tdiv 0 c.qW)
  rw[Int.zero_tdiv];decide
 ·show ([c.dX]:List cA).Nodup
  simp
 ·exact⟨⟨⟨0,c.dX⟩,ov bE (some b)⟩,List.mem_singleton.2 rfl,rfl⟩
 ·exact⟨nofun,nofun,nofun,by simp[Wa],(fun a ha=>by cases ha),fun t ht=>⟨b,by rw[show t=⟨⟨0,c.dX⟩,ov bE (some b)⟩ from List.mem_singleton.1 ht],fun e=>by have:=h.nb.1;rw[e] at this;simp at this⟩⟩
def G1 (c:Config) (b:List Int):State:={ iW with store:=VY c b,bB:=1 }
theorem TI.new {c:Config} {b:List Int} (h:Qe c b):TI (G1 c b) (Wa c b) none none 0 0:=by
 have g:=GI.new h
 have r:=RG.new h
 have hr:=h.oJ
 exact⟨⟨⟨g.sd,rfl,rfl,by show ((0:Nat):Int)<_;omega,by show ((0:Nat):Int)<_;omega⟩,g,r,⟨b,h⟩,⟨by show (1:Int)≤1;omega,(fun r hr=>by cases hr),List.Pairwise.nil⟩,⟨(fun r hr=>by cases hr),List.Pairwise.nil⟩,by show (1:Int)≤1+0;omega,by show ((0:Nat):Int)≤0;omega,by show ((0:Nat):Int)≤c.mD.oJ;omega,by omega,nofun,nofun⟩,(fun r hr=>by cases hr),(fun r hr=>by cases hr)⟩
theorem aLR {c:Config} {b:List Int} (h:Qe c b):∃r,aC Tryz.prog 144 [.agg (bR c)]=some r∧∃(zX:Bool) (last:Command) (y:AV),r=.eG [.agg (aF { G1 c b with zX:=zX,last:=last }),y,.v (.int .i64 0)]∧Flat y:=by
 have T:=TI.new h
 have fc:Flat (.agg (bR c)):=(yU c).2 (by rw[h.jO];exact dP _)
 have fs:=T.gi.sd.flat
 have k102:=kx (aPQ h) (cU fc) (.eG _ (bG fs (.v _)))
 obtain⟨y3,hy3,s,l,y,rfl,fy⟩:=aKU (G1 c b) T.td.flat T.gi
 have ft3:=(T.emit s l).td.flat
 have aGe:=kx hy3 (cU T.td.flat) (.eG _ (bG ft3 fy))
 have eb:({ iW with store:=VY c b,bB:=1 }:State)=G1 c b:=rfl
 rw[cL Tryz.func144 rfl aLS rfl];simp only[Z8,seval,k102,dY,eb,aGe];exact⟨_,gO rfl (by simp only[bT,Z8,seval]<;>rfl) (by simp only[bT,Z8,seval]<;>rfl) (by simp only[bT,E8,seval]<;>rfl) (dM ft3) (dM fy) (dM (.v _)),s,l,y,rfl,fy⟩
def Nq (l:List xL):List AV:=l.flatMap kY
theorem V5 (x:xL):xM 190 446 720 (some (1,kY x))=some (none,.row 190 446 [x].length (Nq [x])):=by simp[xM,maxLen,Nq]
theorem V6 (l:List xL) (x:xL) (s g:Nat) (h:(l.length:Int)<1000000):xY 190 446 720 (some (.row 190 446 l.length (Nq l))) s g (some (1,kY x))=some (some (s,g),.row 190 446 (l++[x]).length (Nq (l++[x]))):=by
 simp only[xY];rw[if_pos ⟨by simp,trivial,trivial,by omega,by simp only[maxLen];omega⟩]
 simp[Nq,List.flatMap_append]
theorem Tb (l:List xL) (h:∀y∈l,pG y):∀x∈Nq l,Flat x:=by
 intro x hx;obtain⟨y,hm,hy⟩:=List.mem_flatMap.1 hx
 have hf:=(h y hm).flat
 cases hf with
 | agg _ hc=>exact hc x hy
theorem aER (n:Nat) (l:List xL) (h:∀y∈l,pG y):jH (some (.row 190 446 n (Nq l)))=some (.sl n (Nq l)):=by
 unfold jH;simp only;rw[if_pos (Tb l h)]
theorem x75 (l:List Int) (hl:(l.length:Int)≤9223372036854775807):∃r,aC Tryz.prog 75 [.sl l.length (aJ l)]=some r∧∃(c:Config) (X:AV) (t:State) (v:SV) (Q R:Option (List Request)),r=.eG [.agg (bR c),X,.agg (aF t)]∧Flat (.agg (bR c))∧Flat X∧TI t v Q R 24000 6144:=by
 obtain⟨y1,hy1,c,b,rfl,hc⟩:=aLG l hl
 have fc:Flat (.agg (bR c)):=(yU c).2 (by rw[hc.jO];exact dP _)
 have aCx:∀(st:St) (d:Option Nat),eI (aC Tryz.prog) 101 _ st d=_:=fun st d=>Ir (cU (Sl l)) hy1 fc
 obtain⟨y2,hy2,zX,last,y,rfl,fy⟩:=aLR hc
 have T0:=(TI.new hc).emit zX last
 have V7:=kx hy2 (cU fc) (.eG _ (nA T0.td.flat fy (.v _)))
 have k16:=Pl l hl 16 (by omega) (by omega)
 have k17:=Pl l hl 17 (by omega) (by omega)
 have n0:=(Pk l hl 16 (by omega) (by omega)).2.1
 obtain⟨n1,n2⟩:=eA (n:=25) n0 (by omega)
 obtain⟨N,hN⟩:∃N,(ID l 16).tmod 25=N:=⟨_,rfl⟩
 rw[hN] at n1 n2;rw[cG Tryz.func75 rfl aQV (by kernel_rfl) rfl]
 have body:∀(M:Int),0≤M→M≤24→∀st:St,(st.env 0=.sl l.length (aJ l)∧st.env 2=.ptr 2 0 0∧st.heap 2 0=some (.cells (bR nH))∧st.env 4=.ptr 4 0 0∧st.heap 4 0=some (.cells (aF iW))∧st.env 5=.ptr 5 0 0∧st.heap 5 0=some (.cells (bR c))∧st.env 6=.ptr 6 0 0∧st.heap 6 0=some (.cells (aF { G1 c b with zX:=zX,last:=last }))∧st.env 9=.v (.slice none 0 0)∧st.env 10=.v (.int .i64 M)∧st.env 11=.v (.int .i64 0))→∃e st',wQ Tryz.prog true (kP (Tryz.f75.body.getD .skip)) st=some (e,st')∧(e=.exit 0∧∃(t:State) (v:SV) (Q R:Option (List Request)),(st'.env 2=.ptr 2 0 0∧st'.heap 2 0=some (.cells (bR nH))∧st'.env 4=.ptr 4 0 0∧st'.heap 4 0=some (.cells (aF iW))∧st'.env 5=.ptr 5 0 0∧st'.heap 5 0=some (.cells (bR c))∧st'.env 6=.ptr 6 0 0∧st'.heap 6 0=some (.cells (aF t)))∧(st'.env 9=.v (.slice none 0 0)∨∃(L:List xL) (g:Nat),st'.env 9=.own 48 g∧st'.heap 48 g=some (.row 190 446 L.length (Nq L))∧∀y∈L,pG y)∧TI t v Q R 24000 6144):=by
  intro M hM0 hM1 st hs;suffices key:∃r,cH (wQ Tryz.prog true (kP (Tryz.f75.body.getD .skip)) st) some=some r∧(r.1=.exit 0∧∃(t:State) (v:SV) (Q R:Option (List Request)),(r.2.env 2=.ptr 2 0 0∧r.2.heap 2 0=some (.cells (bR nH))∧r.2.env 4=.ptr 4 0 0∧r.2.heap 4 0=some (.cells (aF iW))∧r.2.env 5=.ptr 5 0 0∧r.2.heap 5 0=some (.cells (bR c))∧r.2.env 6=.ptr 6 0 0∧r.2.heap 6 0=some (.cells (aF t)))∧(r.2.env 9=.v (.slice none 0 0)∨∃(L:List xL) (g:Nat),r.2.env 9=.own 48 g∧r.2.heap 48 g=some (.row 190 446 L.length (Nq L))∧∀y∈L,pG y)∧TI t v Q R 24000 6144) by
   obtain⟨r,h,hq⟩:=key
   cases hx:wQ Tryz.prog true (kP (Tryz.f75.body.getD .skip)) st with
   | none=>rw[hx] at h;cases h
   | some y=>rw[hx] at h;simp only[cK,Option.some.injEq] at h;subst h;exact⟨y.1,y.2,rfl,hq⟩
  simp only[Tryz.f75,Option.getD_some,kP];refine mE (fun m st=>∃(k:Nat) (t:State) (v:SV) (Q R:Option (List Request)),(st.env 0=.sl l.length (aJ l)∧st.env 2=.ptr 2 0 0∧st.heap 2 0=some (.cells (bR nH))∧st.env 4=.ptr 4 0 0∧st.heap 4 0=some (.cells (aF iW))∧st.env 5=.ptr 5 0 0∧st.heap 5 0=some (.cells (bR c))∧st.env 6=.ptr 6 0 0∧st.heap 6 0=some (.cells (aF t))∧st.env 10=.v (.int .i64 M)∧st.env 11=.v (.int .i64 k))∧(st.env 9=.v (.slice none 0 0)∨∃(L:List xL) (g:Nat),(st.env 9=.own 48 g∧st.heap 48 g=some (.row 190 446 L.length (Nq L)))∧g<st.aP 48∧(∀y∈L,pG y)∧L.length≤k)∧TI t v Q R (1000 * k) (256 * k)∧(k:Int)≤M∧m=(M-k).toNat)
   (fun e st=>e=.exit 0∧∃(t:State) (v:SV) (Q R:Option (List Request)),(st.env 2=.ptr 2 0 0∧st.heap 2 0=some (.cells (bR nH))∧st.env 4=.ptr 4 0 0∧st.heap 4 0=some (.cells (aF iW))∧st.env 5=.ptr 5 0 0∧st.heap 5 0=some (.cells (bR c))∧st.env 6=.ptr 6 0 0∧st.heap 6 0=some (.cells (aF t)))∧(st.env 9=.v (.slice none 0 0)∨∃(L:List xL) (g:Nat),st.env 9=.own 48 g∧st.heap 48 g=some (.row 190 446 L.length (Nq L))∧∀y∈L,pG y)∧TI t v Q R 24000 6144) M.toNat ?step ?start ?rest
  case start=>exact⟨0,_,_,_,_,⟨hs.1,hs.2.1,hs.2.2.1,hs.2.2.2.1,hs.2.2.2.2.1,hs.2.2.2.2.2.1,hs.2.2.2.2.2.2.1,hs.2.2.2.2.2.2.2.1,hs.2.2.2.2.2.2.2.2.1,hs.2.2.2.2.2.2.2.2.2.2.1,hs.2.2.2.2.2.2.2.2.2.2.2⟩,.inl hs.2.2.2.2.2.2.2.2.2.1,T0,by omega,by omega⟩
  case rest=>exact fun e st h=>⟨_,rfl,h⟩
  case step =>
   clear hs
   rintro m st ⟨k,t,v,Q,R,hI,hX,T,hk,hm⟩
   by_cases aY:(k:Int)<M
   case neg =>
    have hX':st.env 9=.v (.slice none 0 0)∨∃(L:List xL) (g:Nat),st.env 9=.own 48 g∧st.heap 48 g=some (.row 190 446 L.length (Nq L))∧∀y∈L,pG y:=hX.imp id fun ⟨L,g,h1,_,h3,_⟩=>⟨L,g,h1.1,h1.2,h3⟩
    apply MX (.exit 0)
    ·simp only[ZG,seval,Bool.false_and,Prod.mk.injEq,Zw,hI,aY];rfl
    ·exact⟨rfl,t,v,Q,R,by simp only[E8,seval,hI],by simpa only[E8,seval] using hX',T.mono (by omega) (by omega) (by omega) (by omega)⟩
   have hw:IntKind.i64.wrap ((k:Int)+1)=((k+1:Nat):Int):=by rw[pZ _ (by omega) (by omega)];omega
   obtain⟨j,hj⟩:∃j:Int,j=18+(k:Int):=⟨_,rfl⟩
   have hwj:IntKind.i64.wrap (18+(k:Int))=j:=by rw[pZ _ (by omega) (by omega),hj]
   obtain⟨n,hn⟩:∃n:Int,n=10+(k:Int):=⟨_,rfl⟩
   have hwn:IntKind.i64.wrap (10+(k:Int))=n:=by rw[pZ _ (by omega) (by omega),hn]
   have kj:=Pl l hl j (by omega) (by omega)
   have j0:=(Pk l hl j (by omega) (by omega)).2.1
   have op:∀z:Int,0≤z→∃(y:xL) (t':State) (w:AV) (e:Int) (v':SV) (Q' R':Option (List Request)),(∀(st:St) (d:Option Nat),aM (aC Tryz.prog) 146 [.agg (aF t),.v (.int .i64 n),.v (.int .i64 z)] st d=some { dst:=d,val:=.agg (kY y)})∧(∀(st:St) (d:Option Nat),aM (aC Tryz.prog) 147 [.agg (aF t),.agg (kY y)] st d=some { dst:=d,val:=.eG [.agg (aF t'),w,.v (.int .i64 e)]})∧pG y∧TI t' v' Q' R' (1000 * ((k+1:Nat):Int)) (256 * ((k+1:Nat):Int)):=by
    intro z hz;obtain⟨y3,hy3,o,rfl,ho,hr⟩:=aQH T.td T.gi T.rg T.jO (fun r hr=>by obtain⟨h1,h2,_⟩:=T.tq.all r hr;have:=T.nt;exact⟨by omega,by omega⟩) n z hz
    have hp:o.kind=2→Pr o.block.root:=fun h2=>by
     rcases hr h2 with h|⟨a,ha,h⟩
     ·rw[h];exact aEQ (by omega) (by omega)
     ·rw[h];exact T.rg.rt a ha
    obtain⟨y4,hy4,t',w,e,v',Q',R',rfl,fw,T'⟩:=aQT T o ho hp (by omega) (by omega)
    exact⟨o,t',w,e,v',Q',R',kx hy3 (nA T.td.flat (.v _) (.v _)) ho.flat,kx hy4 (bG T.td.flat ho.flat) (.eG _ (nA T'.td.flat fw (.v _))),ho,T'.mono (by omega) (by omega) (by omega) (by omega)⟩
   by_cases k0:(k:Int)=0
   ·obtain⟨o,t',w,e,v',Q',R',V8,V9,ho,T'⟩:=op 0 (by omega)
    rcases hX with hX|⟨L,g,hX,hg,hL,hLk⟩
    ·apply Ga ((M-((k+1:Nat):Int)).toNat)
     ·simp only[ZG,seval,Bool.false_and,Prod.mk.injEq,Zw,hI,hX,aY,hwj,kj,bt k0,hwn,V8,V5,V9,dY,hw];rfl
     ·exact⟨k+1,t',v',Q',R',by simp only[E8,seval,hI],.inr ⟨[o],_,⟨by simp only[E8,seval]<;>rfl,by simp only[E8,seval]<;>rfl⟩,by simp only[E8,seval]<;>omega,(fun y hy=>by rw[List.mem_singleton] at hy;rw[hy];exact ho),by simp⟩,T',by omega,rfl⟩
    ·have nL:(L.length:Int)<1000000:=by omega
     have uY:(g=st.aP 48)=False:=eq_false (by omega)
     apply Ga ((M-((k+1:Nat):Int)).toNat)
     ·simp only[ZG,seval,Bool.false_and,Prod.mk.injEq,Zw,hI,hX,uY,aY,hwj,kj,bt k0,hwn,V8,V6 _ _ _ _ nL,V9,dY,hw];rfl
     ·exact⟨k+1,t',v',Q',R',by simp only[E8,seval,hI],.inr ⟨L++[o],_,⟨by simp only[E8,seval]<;>rfl,by simp only[E8,seval]<;>rfl⟩,by simp only[E8,seval]<;>omega,(fun y hy=>(List.mem_append.1 hy).elim (hL y) fun h=>by rw[List.mem_singleton] at h;rw[h];exact ho),by rw[List.length_append,List.length_cons,List.length_nil];omega⟩,T',by omega,rfl⟩
   ·obtain⟨o,t',w,e,v',Q',R',V8,V9,ho,T'⟩:=op (ID l j) j0
    rcases hX with hX|⟨L,g,hX,hg,hL,hLk⟩
    ·apply Ga ((M-((k+1:Nat):Int)).toNat)
     ·simp only[ZG,seval,Bool.false_and,Prod.mk.injEq,Zw,hI,hX,aY,hwj,kj,bf k0,hwn,V8,V5,V9,dY,hw];rfl
     ·exact⟨k+1,t',v',Q',R',by simp only[E8,seval,hI],.inr ⟨[o],_,⟨by simp only[E8,seval]<;>rfl,by simp only[E8,seval]<;>rfl⟩,by simp only[E8,seval]<;>omega,(fun y hy=>by rw[List.mem_singleton] at hy;rw[hy];exact ho),by simp⟩,T',by omega,rfl⟩
    ·have nL:(L.length:Int)<1000000:=by omega
     have uY:(g=st.aP 48)=False:=eq_false (by omega)
     apply Ga ((M-((k+1:Nat):Int)).toNat)
     ·simp only[ZG,seval,Bool.false_and,Prod.mk.injEq,Zw,hI,hX,uY,aY,hwj,kj,bf k0,hwn,V8,V6 _ _ _ _ nL,V9,dY,hw];rfl
     ·exact⟨k+1,t',v',Q',R',by simp only[E8,seval,hI],.inr ⟨L++[o],_,⟨by simp only[E8,seval]<;>rfl,by simp only[E8,seval]<;>rfl⟩,by simp only[E8,seval]<;>omega,(fun y hy=>(List.mem_append.1 hy).elim (hL y) fun h=>by rw[List.mem_singleton] at h;rw[h];exact ho),by rw[List.length_append,List.length_cons,List.length_nil];omega⟩,T',by omega,rfl⟩
 by_cases g1:0<(ID l 17).tmod 4
 ·simp only[ZG,seval,Bool.false_and,Prod.mk.injEq,Zw,aCx,V7,dY,k16,hN,k17,g1];refine Kh (a:=kP (Tryz.f75.body.getD .skip)) (fun e st'=>e=.exit 0∧∃(t:State) (v:SV) (Q R:Option (List Request)),(st'.env 2=.ptr 2 0 0∧st'.heap 2 0=some (.cells (bR nH))∧st'.env 4=.ptr 4 0 0∧st'.heap 4 0=some (.cells (aF iW))∧st'.env 5=.ptr 5 0 0∧st'.heap 5 0=some (.cells (bR c))∧st'.env 6=.ptr 6 0 0∧st'.heap 6 0=some (.cells (aF t)))∧(st'.env 9=.v (.slice none 0 0)∨∃(L:List xL) (g:Nat),st'.env 9=.own 48 g∧st'.heap 48 g=some (.row 190 446 L.length (Nq L))∧∀y∈L,pG y)∧TI t v Q R 24000 6144) (body 24 (by omega) (by omega) _ (by simp only[E8,seval]<;>rfl)) ?rest
  rintro e st ⟨rfl,t,v,Q,R,hI,hX|⟨L,g,hX,hh,hL⟩,T⟩
  ·have ft:=T.td.flat
   simp only[ZG,seval,Bool.false_and,Prod.mk.injEq,Zw,hI,hX];exact⟨_,gO rfl (by simp only[bT,Z8,seval,hI]<;>rfl) (by simp only[bT,Z8,seval,hX]<;>rfl) (by simp only[bT,Z8,seval,hI]<;>rfl) (dM fc) (dM (.v _)) (dM ft),c,_,t,v,Q,R,rfl,fc,.v _,T⟩
  ·have ft:=T.td.flat
   have ex:=aER L.length L hL
   simp only[ZG,seval,Bool.false_and,Prod.mk.injEq,Zw,hI,hX,hh];exact⟨_,gO rfl (by simp only[bT,Z8,seval,hI]<;>rfl) (by simp only[bT,Z8,seval,hX]<;>rfl) (by simp only[bT,Z8,seval,hI]<;>rfl) (dM fc) (by simp only[Z8,seval,hh,ex]<;>rfl) (dM ft),c,_,t,v,Q,R,rfl,fc,.sl _ _ (Tb L hL),T⟩
 ·simp only[ZG,seval,Bool.false_and,Prod.mk.injEq,Zw,aCx,V7,dY,k16,hN,k17,g1];refine Kh (a:=kP (Tryz.f75.body.getD .skip)) (fun e st'=>e=.exit 0∧∃(t:State) (v:SV) (Q R:Option (List Request)),(st'.env 2=.ptr 2 0 0∧st'.heap 2 0=some (.cells (bR nH))∧st'.env 4=.ptr 4 0 0∧st'.heap 4 0=some (.cells (aF iW))∧st'.env 5=.ptr 5 0 0∧st'.heap 5 0=some (.cells (bR c))∧st'.env 6=.ptr 6 0 0∧st'.heap 6 0=some (.cells (aF t)))∧(st'.env 9=.v (.slice none 0 0)∨∃(L:List xL) (g:Nat),st'.env 9=.own 48 g∧st'.heap 48 g=some (.row 190 446 L.length (Nq L))∧∀y∈L,pG y)∧TI t v Q R 24000 6144) (body N (by omega) (by omega) _ (by simp only[E8,seval]<;>rfl)) ?OK
  rintro e st ⟨rfl,t,v,Q,R,hI,hX|⟨L,g,hX,hh,hL⟩,T⟩
  ·have ft:=T.td.flat
   simp only[ZG,seval,Bool.false_and,Prod.mk.injEq,Zw,hI,hX];exact⟨_,gO rfl (by simp only[bT,Z8,seval,hI]<;>rfl) (by simp only[bT,Z8,seval,hX]<;>rfl) (by simp only[bT,Z8,seval,hI]<;>rfl) (dM fc) (dM (.v _)) (dM ft),c,_,t,v,Q,R,rfl,fc,.v _,T⟩
  ·have ft:=T.td.flat
   have ex:=aER L.length L hL
   simp only[ZG,seval,Bool.false_and,Prod.mk.injEq,Zw,hI,hX,hh];exact⟨_,gO rfl (by simp only[bT,Z8,seval,hI]<;>rfl) (by simp only[bT,Z8,seval,hX]<;>rfl) (by simp only[bT,Z8,seval,hI]<;>rfl) (dM fc) (by simp only[Z8,seval,hh,ex]<;>rfl) (dM ft),c,_,t,v,Q,R,rfl,fc,.sl _ _ (Tb L hL),T⟩
theorem x24 (l:List Int) (hl:(l.length:Int)≤9223372036854775807):∃(t:State) (v:SV) (Q R:Option (List Request)),aC Tryz.prog 24 [.sl l.length (aJ l)]=some (.agg (aF t))∧TI t v Q R 24000 6144:=by
 suffices h:∃r,aC Tryz.prog 24 [.sl l.length (aJ l)]=some r∧∃(t:State) (v:SV) (Q R:Option (List Request)),r=.agg (aF t)∧TI t v Q R 24000 6144 by
  obtain⟨r,h,t,v,Q,R,rfl,T⟩:=h
  exact⟨t,v,Q,R,h,T⟩
 obtain⟨y,hy,c,X,t,v,Q,R,rfl,fc,fX,T⟩:=x75 l hl
 have ft:=T.td.flat
 have k75:=kx hy (cU (Sl l)) (.eG _ (nA fc fX ft))
 rw[cL Tryz.func24 rfl aQW rfl];simp only[Z8,seval,k75,dY];exact⟨_,fI rfl (by simp only[E8,seval,ft]<;>rfl) (by simp only[Z8,seval,ft]<;>rfl) (by simp only[dU,and_self,ft]),t,v,Q,R,rfl,T⟩
end Go.Ab.Tryz
namespace Go.Ab.Tryz
open Classical Go.Proofs Go.Ab
end Go.Ab.Tryz
namespace Go.Ab.Tryz
open Classical Go.Proofs Go.Ab
theorem HB (n:Node) (r:cA):aO [n] r=if n.block.root=r then 0 else -1:=by
 unfold aO;by_cases h:n.block.root=r<;>simp[List.findIdx?_cons,h]
theorem aES {a b:Int} (a0:0≤a) (a1:a<256) (b0:0≤b) (b1:b<256) (h:a≠b):mkRoot a≠mkRoot b:=fun e=>by
 have e1:IntKind.u8.wrap a=IntKind.u8.wrap b:=by rw[← tR,← tR,e]
 rw[Iu a0 a1,Iu b0 b1] at e1;exact h e1
theorem GI.now {s:aN} {v:SV} {q:Int} (h:GI s v q) (n:Int):GI { s with now:=n } v q :=
 ⟨⟨h.sd.jO,h.sd.dT,h.sd.iB,h.sd.early,h.sd.bV,h.sd.tree,h.sd.tables,h.sd.eV,h.sd.tB,h.sd.nB,h.sd.nL,h.sd.nQ,h.sd.nE,h.sd.nO,h.sd.nT,h.sd.nn⟩,h.up,h.NM,h.pos,h.nl,h.VO,h.qW,h.OI,h.nB,h.nO,h.OJ,h.nE,h.UF,h.nT,h.VP,h.nQ,h.Q5,h.gW⟩
theorem RG.V0 {s:aN} {v:SV} (r:RG s v) (hs:1≤s.cFg.qW) {n:Int} (h0:s.now≤n) (h1:n≤1099511627776):RG { s with now:=n } v :=
 ⟨⟨by have:=r.now.1;show 0≤n;omega,h1⟩,r.j,r.f,fun a ha=>⟨(r.nd a ha).1,by have:=(r.nd a ha).2;show a.block.slot≤n;omega⟩,r.or,r.rt,⟨r.fe.1,Int.le_trans r.fe.2 (show Fh s s.now≤Fh s n from OZ hs r.now.1 h0 (by omega))⟩,r.ds,r.tb,r.ne⟩
theorem W0 {c:Config} {b:List Int} (h:Qe c b):aO (Wa c b).ns c.dX=0∧aO (Wa c b).ns (mkRoot 9)=-1:=by
 have e:(Wa c b).ns=[⟨IZ c,-1,1⟩]:=rfl
 rw[e,HB,HB,if_pos (show (IZ c).root=c.dX from rfl),if_neg (show ¬(IZ c).root=mkRoot 9 by show ¬c.dX=mkRoot 9;rw[h.gen];exact aES (by omega) (by omega) (by omega) (by omega) (by omega))]
 exact⟨rfl,rfl⟩
end Go.Ab.Tryz
namespace Go.Ab.Tryz
open Classical Go.Proofs Go.Ab
open Classical Go.Proofs Go.Ab
end Go.Ab.Tryz
namespace Go.Ab.Tryz
open Classical Go.Proofs Go.Ab
def uo {α:Type} (e sz:Nat) (c:List α→List AV):Option (List α)→AV
 | none=>.v (.slice none 0 0)
 | some l=>.uniq e sz l.length (c l)
def rl {α:Type} (e sz:Nat) (c:List α→List AV):Option (List α)→List mV
 | none=>[]
 | some l=>[.row e sz l.length (c l)]
def rv {α:Type} (d k:Nat):Option (List α)→AV
 | none=>.v (.slice none 0 0)
 | some _=>.own d k
def MZ (d:Nat) (es:List mV):Option (Nat × List mV):=if es=[] then none else some (d,es)
theorem W1 (st:St) (d:Nat):st.news d []=st:=by
 unfold St.news;cases st with
 | mk env heap aP =>
   simp only[List.length_nil,Nat.not_lt_zero,and_false,if_false,Nat.add_zero,St.mk.injEq,true_and];funext s
   split
   ·rename_i h;rw[h]
   ·rfl
theorem G2 (x:Option Nat) (v:AV) (d:Nat) (es:List mV) (st:St):({ dst:=x,val:=v,new:=MZ d es }:qE).apply st=(st.news d es).put x v:=by
 unfold MZ;by_cases h:es=[]
 ·rw[if_pos h,h,W1];rfl
 ·rw[if_neg h];rfl
theorem W3 (st:St) (t d:Nat) (es:List mV):(st.news d es).env t=st.env t:=rfl
theorem W4 (st:St) (t d:Nat) (es:List mV):(st.news d es).aP t=if t=d then st.aP d+es.length else st.aP t:=rfl
theorem yZ (st:St) (s g d:Nat) (es:List mV):(st.news d es).heap s g=if s=d∧st.aP d≤g∧g-st.aP d<es.length then es[g-st.aP d]? else st.heap s g:=rfl
theorem Bx {α:Type} {call:Nat→List AV→Option AV} {g e sz d:Nat} {args:List AV} {c:List α→List AV} {L:Option (List α)} {st:St} (hf:∀x∈args,Flat x) (h:call g args=some (uo e sz c L)) :
 aM call g args st (some d)=some { dst:=some d,val:=rv d (st.aP d) L,new:=MZ d (rl e sz c L)}:=by
 cases L with
 | none =>
   simp only[aM,if_pos hf,h,cK,uo,iU,if_pos (Flat.v _),rv,rl,MZ];rfl
 | some l=>rw[jF hf h];simp only[rv,rl,MZ,List.cons_ne_nil,if_false]
theorem iR {α:Type} {st:St} {d k e sz:Nat} {c:List α→List AV} {L:Option (List α)} (hh:∀l,L=some l→st.heap d k=some (.row e sz l.length (c l))) (hf:∀l,L=some l→∀x∈c l,Flat x):kK st (rv d k L)=some (uo e sz c L):=by
 cases L with
 | none=>exact if_pos (Flat.v _)
 | some l =>
   have hn:¬Flat (.own d k):=by intro h;cases h
   simp only[rv,uo,kK,if_neg hn,hh l rfl,if_pos (hf l rfl)]
theorem PJ {α:Type} {c:List α→List AV} {z:Nat} (hc:∀l,(c l).length=l.length * z) (hz:0<z) {l:List α} (h:l≠[]):c l≠[]:=by
 intro he;have h1:=hc l
 rw[he] at h1;have h2:0<l.length:=List.length_pos_iff.mpr h
 have:=Nat.mul_pos h2 hz
 simp only[List.length_nil] at h1;omega
theorem aCy {l:List Block} (h:l≠[]):Ext.ext 164 [.sl l.length (aH l)]=none:=by
 cases l with
 | nil=>exact absurd rfl h
 | cons x r=>rfl
theorem aQX (L:Option (List Int)) (h:L≠some []) (hn:((ol L).length:Int)<1000000):aC Tryz.prog 160 [ov bE L]=some (uo 23 1 bE L):=by
 cases L with
 | none =>
   unfold ov;rw[cL Tryz.func160 rfl aET rfl];simp only[Z8,seval];exact bS rfl (by simp only[E8,seval]<;>rfl) (.v _)
 | some l =>
   have hl:l≠[]:=fun h2=>h (by rw[h2])
   have gN:bE l≠[]:=PJ (z:=1) (fun l=>by simp[Tc]) (by omega) hl
   have ha:=fun s g=>Fv (e:=23) (sz:=1) (by_:=8) (s:=s) (g:=g) (n:=l.length) (cs:=bE l) (by simp[Tc]) (by simp only[ol,Option.getD_some] at hn;omega) (by simp only[ol,Option.getD_some] at hn;unfold maxLen;omega)
   unfold ov;rw[cL Tryz.func160 rfl aET rfl];simp only[Z8,seval,gN,ha];exact tC rfl (by simp only[E8,seval];rfl) (by simp only[E8,seval]) (iC _)
theorem aLT (L:Option (List Int)) (h:L≠some []) (hn:((ol L).length:Int)<1000000) (st:St) (d:Nat):aM (aC Tryz.prog) 160 [ov bE L] st (some d)=some { dst:=some d,val:=rv d (st.aP d) L,new:=MZ d (rl 23 1 bE L)}:=Bx (cU (dP L)) (aQX L h hn)
theorem aQY (L:Option (List kM)) (h:L≠some []) (hn:((ol L).length:Int)<1000000):aC Tryz.prog 190 [ov cP L]=some (uo 100 34 cP L):=by
 cases L with
 | none =>
   unfold ov;rw[cL Tryz.func190 rfl aEU rfl];simp only[Z8,seval];exact bS rfl (by simp only[E8,seval]<;>rfl) (.v _)
 | some l =>
   have hl:l≠[]:=fun h2=>h (by rw[h2])
   have gN:cP l≠[]:=PJ (z:=34) (fun l=>by simp) (by omega) hl
   have ha:=fun s g=>Fv (e:=100) (sz:=34) (by_:=48) (s:=s) (g:=g) (n:=l.length) (cs:=cP l) (by simp) (by simp only[ol,Option.getD_some] at hn;omega) (by simp only[ol,Option.getD_some] at hn;unfold maxLen;omega)
   unfold ov;rw[cL Tryz.func190 rfl aEU rfl];simp only[Z8,seval,gN,ha];exact tC rfl (by simp only[E8,seval];rfl) (by simp only[E8,seval]) (nF _)
theorem aQZ (L:Option (List kM)) (h:L≠some []) (hn:((ol L).length:Int)<1000000) (st:St) (d:Nat):aM (aC Tryz.prog) 190 [ov cP L] st (some d)=some { dst:=some d,val:=rv d (st.aP d) L,new:=MZ d (rl 100 34 cP L)}:=Bx (cU (qV L)) (aQY L h hn)
theorem aQ0 (L:Option (List Int)) (h:L≠some []) (hn:((ol L).length:Int)<1000000):aC Tryz.prog 191 [ov aJ L]=some (uo 3 1 aJ L):=by
 cases L with
 | none =>
   unfold ov;rw[cL Tryz.func191 rfl aEV rfl];simp only[Z8,seval];exact bS rfl (by simp only[E8,seval]<;>rfl) (.v _)
 | some l =>
   have hl:l≠[]:=fun h2=>h (by rw[h2])
   have gN:aJ l≠[]:=PJ (z:=1) (fun l=>by simp[Ki]) (by omega) hl
   have ha:=fun s g=>Fv (e:=3) (sz:=1) (by_:=8) (s:=s) (g:=g) (n:=l.length) (cs:=aJ l) (by simp[Ki]) (by simp only[ol,Option.getD_some] at hn;omega) (by simp only[ol,Option.getD_some] at hn;unfold maxLen;omega)
   unfold ov;rw[cL Tryz.func191 rfl aEV rfl];simp only[Z8,seval,gN,ha];exact tC rfl (by simp only[E8,seval];rfl) (by simp only[E8,seval]) (gD _)
theorem aLU (L:Option (List Int)) (h:L≠some []) (hn:((ol L).length:Int)<1000000) (st:St) (d:Nat):aM (aC Tryz.prog) 191 [ov aJ L] st (some d)=some { dst:=some d,val:=rv d (st.aP d) L,new:=MZ d (rl 3 1 aJ L)}:=Bx (cU (bO L)) (aQ0 L h hn)
theorem aQ1 (L:Option (List Block)) (h:L≠some []) (hn:((ol L).length:Int)<1000000):aC Tryz.prog 164 [ov aH L]=some (uo 74 238 aH L):=by
 cases L with
 | none =>
   unfold ov;rw[Qk Tryz.prog Tryz.func164 rfl aEW _ rfl rfl];simp only[Z8,seval];exact bS rfl (by simp only[E8,seval]<;>rfl) (.v _)
 | some l =>
   have hl:l≠[]:=fun h2=>h (by rw[h2])
   have gN:aH l≠[]:=PJ (z:=238) (fun l=>by simp) (by omega) hl
   have ha:=fun s g=>Fv (e:=74) (sz:=238) (by_:=336) (s:=s) (g:=g) (n:=l.length) (cs:=aH l) (by simp) (by simp only[ol,Option.getD_some] at hn;omega) (by simp only[ol,Option.getD_some] at hn;unfold maxLen;omega)
   unfold ov;rw[Qk Tryz.prog Tryz.func164 rfl aEW _ (aCy hl) rfl];simp only[Z8,seval,gN,ha];exact tC rfl (by simp only[E8,seval];rfl) (by simp only[E8,seval]) (pD _)
theorem aQ2 (L:Option (List Block)) (h:L≠some []) (hn:((ol L).length:Int)<1000000) (st:St) (d:Nat):aM (aC Tryz.prog) 164 [ov aH L] st (some d)=some { dst:=some d,val:=rv d (st.aP d) L,new:=MZ d (rl 74 238 aH L)}:=Bx (cU (Fx L)) (aQ1 L h hn)
theorem aQ3 (L:Option (List Request)) (h:L≠some []) (hn:((ol L).length:Int)<1000000):aC Tryz.prog 148 [ov aA L]=some (uo 63 35 aA L):=by
 cases L with
 | none =>
   unfold ov;rw[cL Tryz.func148 rfl aEX rfl];simp only[Z8,seval];exact bS rfl (by simp only[E8,seval]<;>rfl) (.v _)
 | some l =>
   have hl:l≠[]:=fun h2=>h (by rw[h2])
   have gN:aA l≠[]:=PJ (z:=35) (fun l=>by simp) (by omega) hl
   have ha:=fun s g=>Fv (e:=63) (sz:=35) (by_:=56) (s:=s) (g:=g) (n:=l.length) (cs:=aA l) (by simp) (by simp only[ol,Option.getD_some] at hn;omega) (by simp only[ol,Option.getD_some] at hn;unfold maxLen;omega)
   unfold ov;rw[cL Tryz.func148 rfl aEX rfl];simp only[Z8,seval,gN,ha];exact tC rfl (by simp only[E8,seval];rfl) (by simp only[E8,seval]) (fJ _)
theorem aLV (L:Option (List Request)) (h:L≠some []) (hn:((ol L).length:Int)<1000000) (st:St) (d:Nat):aM (aC Tryz.prog) 148 [ov aA L] st (some d)=some { dst:=some d,val:=rv d (st.aP d) L,new:=MZ d (rl 63 35 aA L)}:=Bx (cU (dK L)) (aQ3 L h hn)
theorem nI {α:Type} {st:St} {d k e sz:Nat} {c:List α→List AV} {L:Option (List α)} (hh:∀l,L=some l→st.heap d k=some (.row e sz l.length (c l))) (hf:∀l,L=some l→∀x∈c l,Flat x):cF st (rv d k L)=some (ov c L):=by
 cases L with
 | none=>exact if_pos (Flat.v _)
 | some l =>
   have hn:¬Flat (.own d k):=by intro h;cases h
   simp only[rv,ov,cF,if_neg hn,hh l rfl,if_pos (hf l rfl)]
theorem W5 {α:Type} (d k:Nat) (L:Option (List α)):(rv d k L).cells=[rv d k L]:=by cases L<;>rfl
theorem aCz {α:Type} (d k:Nat) (L:Option (List α)):(rv d k L).jQ=true:=by cases L<;>rfl
def NW:=aj (aj (aj @G2 @W3) (aj @W4 @yZ)) (aj @W5 @aCz)
theorem aQ4 (a:sH) (V:Option (List Int)) (ha:a.eU=ov aJ V) (h:V≠some []) (hn:((ol V).length:Int)<1000000):aC Tryz.prog 163 [.agg (gY a)]=some (.agg (gY a)):=by
 rw[cL Tryz.func163 rfl aLW rfl];simp only[Z8,seval,ha,aLU V h hn,NW];refine eB rfl (by simp only[E8,seval,NW]<;>rfl) (cs:=gY { a with eU:=rv 5 0 V }) (by simp only[Z8,seval,NW]<;>rfl) ?_
 rw[bP,lT,nI (e:=3) (sz:=1) (c:=aJ) (L:=V) ?h (fun l _=>gD l),cK,cK,← ha]
 case h =>
  intro l hl;subst hl;simp only[E8,seval,yZ,rl,List.length_cons,Nat.lt_add_left_iff_pos,Nat.zero_lt_succ,if_true]
end Go.Ab.Tryz
namespace Go.Ab
open Classical
theorem Ql [Ext] {P:Program} {call:Nat→List AV→Option AV} {ops:Array Oper} {d:Option Nat} {T:Nat} {pos:String} {eH:Array Edge} {st:St} (t:Nat) (args:Array Operand) (rZ:Array Nat) (g:Nat) (h:st.env t=.v (.func (.func g) #[] #[])):cD P call ops ⟨d,.call ⟨.value (.tmp t),args,rZ⟩,T,pos,eH,none⟩ st=cH (aM call g (args.toList.map st.ev) st d) fun e=>some (e.apply st):=by
 rw[dN];simp only[dG,gZ,mX,St.ev,h,HY,and_self,if_true,List.append_nil];cases aM call g (args.toList.map st.ev) st d<;>rfl
end Go.Ab
namespace Go.Ab.Tryz
open Classical Go.Proofs Go.Ab
theorem aQ5 (a:Table) (V:Option (List Int)) (ha:a.jO=ov bE V) (h:V≠some []) (hn:((ol V).length:Int)<1000000):aC Tryz.prog 194 [.agg (cI a)]=some (.agg (cI a)):=by
 rw[cL Tryz.func194 rfl aLX rfl];simp only[Z8,seval,ha,aLT V h hn,NW];refine eB rfl (by simp only[E8,seval,NW]<;>rfl) (cs:=cI { a with jO:=rv 5 0 V }) (by simp only[Z8,seval,NW]<;>rfl) ?_
 rw[bP,tO,nI (e:=23) (sz:=1) (c:=bE) (L:=V) ?h (fun l _=>iC l),cK,cK,← ha]
 case h =>
  intro l hl;subst hl;simp only[E8,seval,yZ,rl,List.length_cons,Nat.lt_add_left_iff_pos,Nat.zero_lt_succ,if_true]
theorem p7 {α:Type} (z:α) (l:List α) (k:Nat) (h:k<l.length):l.take k++[gx z l (k:Int)]=l.take (k+1):=by
 rw[List.take_succ_eq_append_getElem h];congr 2
 simp[gx,h]
theorem aQ6 (E:Option (List sH)) (h:E≠some []) (hn:((ol E).length:Int)<1000000) (hE:∀a∈ol E,∃V,a.eU=ov aJ (some V)∧V≠[]) (hA:∀a∈ol E,Dk a) :
 aC Tryz.prog 162 [ov dD E,.v (.func (.func 163) #[] #[])]=some (uo 87 67 dD E):=by
 have kE:∀y∈ol E,Flat y.eU:=fun y m=>(hA y m).fl
 have kg:∀k:Nat,k<(ol E).length→∀(st:St) (d:Option Nat),aM (aC Tryz.prog) 163 [.agg (gY (gx Lo (ol E) (k:Int)))] st d=some { dst:=d,val:=.agg (gY (gx Lo (ol E) (k:Int)))}:=by
  intro k hk st d;have hm:gx Lo (ol E) (k:Int)∈ol E:=by
   have:gx Lo (ol E) (k:Int)=(ol E)[k]:=by simp[gx,hk]
   rw[this];exact List.getElem_mem hk
  obtain⟨V,hV,hV2⟩:=hE _ hm
  obtain⟨V',hV',Ht⟩:=hA _ hm
  have hfa:Flat (.agg (gY (gx Lo (ol E) (k:Int)))):=(zP _).2 (hA _ hm).fl
  have e0:((ol (some V)).length:Int)<1000000:=by
   have h0:ov aJ (some V)=ov aJ V':=by rw[← hV,← hV']
   cases V' with
   | none=>cases h0
   | some W =>
     simp only[ov,AV.sl.injEq] at h0;simp only[ol,Option.getD_some] at Ht ⊢
     omega
  exact kx (aQ4 _ (some V) hV (by simpa using hV2) e0) (cU hfa) hfa st d
 have hu:([ov dD E,.v (.func (.func 163) #[] #[])]:List AV).any nM=false:=by cases E<;>rfl
 rw[cL Tryz.func162 rfl aLZ hu];simp only[Z8,seval];refine lM (fun m st=>∃k:Nat,(st.env 8=ov dD E∧st.env 9=.v (.int .i64 (ol E).length)∧st.env 10=.v (.int .i64 k)∧st.env 1=.v (.func (.func 163) #[] #[]))∧((k=0∧st.env 5=.v (.slice none 0 0))∨(0<k∧∃j,st.env 5=.own 19 j∧st.heap 19 j=some (.row 87 67 ((ol E).take k).length (dD ((ol E).take k)))))∧k≤(ol E).length∧m=(ol E).length-k)
  (fun e st=>e=.exit 0∧((ol E=[]∧st.env 5=.v (.slice none 0 0))∨(ol E≠[]∧∃j,st.env 5=.own 19 j∧st.heap 19 j=some (.row 87 67 (ol E).length (dD (ol E)))))) (ol E).length ?step ?start ?rest
 case step =>
  rintro m st ⟨k,hI,hR,hk,hm⟩
  by_cases aY:(k:Int)<(ol E).length
  ·have q0:(0:Int)≤k:=by omega
   have hw:IntKind.i64.wrap ((k:Int)+1)=((k+1:Nat):Int):=by rw[pZ _ (by omega) (by omega)];omega
   have ht:=p7 Lo (ol E) k (by omega)
   have kk:=kg k (by omega)
   rcases hR with ⟨uW,h5⟩|⟨uW,j,h5,h6⟩
   ·have ht':[gx Lo (ol E) (k:Int)]=(ol E).take (k+1):=by rw[← ht,show (ol E).take k=[] by rw[uW,List.take_zero],List.nil_append]
    apply oN ((ol E).length-(k+1))
    ·simp only[Z8,seval,hI,h5,aY,q0,kk,Ql 15 _ _ 163,JH,hw];rfl
    ·exact⟨k+1,⟨by simp only[E8,seval,hI],by simp only[E8,seval,hI],by simp only[E8,seval],by simp only[E8,seval,hI]⟩,.inr ⟨by omega,_,by simp only[E8,seval]<;>rfl,by rw[← ht'];simp only[E8,seval]<;>rfl⟩,by omega,rfl⟩
   ·have ao:=fun s g=>Xi ((ol E).take k) (gx Lo (ol E) (k:Int)) s g (by rw[List.length_take];omega)
    apply oN ((ol E).length-(k+1))
    ·simp only[Z8,seval,hI,h5,h6,aY,q0,kk,Ql 15 _ _ 163,ao,hw];rfl
    ·exact⟨k+1,⟨by simp only[E8,seval,hI],by simp only[E8,seval,hI],by simp only[E8,seval],by simp only[E8,seval,hI]⟩,.inr ⟨by omega,_,by simp only[E8,seval]<;>rfl,by rw[← ht];simp only[E8,seval]<;>rfl⟩,by omega,rfl⟩
  ·have Fg:k=(ol E).length:=by omega
   have hF:(ol E=[]∧st.env 5=.v (.slice none 0 0))∨(ol E≠[]∧∃j,st.env 5=.own 19 j∧st.heap 19 j=some (.row 87 67 (ol E).length (dD (ol E)))):=by
    rcases hR with ⟨uW,h5⟩|⟨uW,j,h5,h6⟩
    ·exact .inl ⟨List.eq_nil_of_length_eq_zero (by omega),h5⟩
    ·exact .inr ⟨by intro h0;rw[h0] at Fg;simp at Fg;omega,j,h5,by rw[h6,Fg,List.take_length]⟩
   apply oT (.exit 0)
   ·simp only[Z8,seval,hI,aY];rfl
   ·exact⟨rfl,by simp only[E8,seval];exact hF⟩
 case start=>exact⟨0,by simp only[E8,seval]<;>exact⟨rfl,rfl,rfl,rfl⟩,.inl ⟨rfl,by simp only[E8,seval]<;>rfl⟩,by omega,by omega⟩
 case rest =>
  rintro e st ⟨rfl,hR⟩
  rcases hR with ⟨h0,h5⟩|⟨h0,j,h5,h6⟩
  ·simp only[Z8,seval,h5];cases E with
   | none=>exact bS rfl (by simp only[E8,seval]<;>rfl) (.v _)
   | some l=>exact absurd (show (some l:Option (List sH))=some [] by rw[show l=[] from h0]) h
  ·simp only[Z8,seval,h5];cases E with
   | none=>exact absurd rfl h0
   | some l=>exact tC rfl (by simp only[E8,seval];rfl) (by simp only[E8,seval];exact h6) (tG _ kE)
theorem aRa (E:Option (List sH)) (h:E≠some []) (hn:((ol E).length:Int)<1000000) (hE:∀a∈ol E,∃V,a.eU=ov aJ (some V)∧V≠[]) (hA:∀a∈ol E,Dk a) (st:St) (d:Nat) :
 aM (aC Tryz.prog) 162 [ov dD E,.v (.func (.func 163) #[] #[])] st (some d)=some { dst:=some d,val:=rv d (st.aP d) E,new:=MZ d (rl 87 67 dD E)} :=
 Bx (fun x m=>by
  rcases List.mem_cons.1 m with rfl|m
  ·exact Yv E fun y m=>(hA y m).fl
  ·rw[List.mem_singleton.1 m];exact .v _) (aQ6 E h hn hE hA)
theorem aRb (E:Option (List Table)) (h:E≠some []) (hn:((ol E).length:Int)<1000000) (hE:∀a∈ol E,∃V,a.jO=ov bE (some V)∧V≠[]) (hA:∀a∈ol E,sP a) :
 aC Tryz.prog 193 [ov aR E,.v (.func (.func 194) #[] #[])]=some (uo 118 34 aR E):=by
 have kE:∀y∈ol E,Flat y.jO:=fun y m=>(hA y m).fl
 have kg:∀k:Nat,k<(ol E).length→∀(st:St) (d:Option Nat),aM (aC Tryz.prog) 194 [.agg (cI (gx iV (ol E) (k:Int)))] st d=some { dst:=d,val:=.agg (cI (gx iV (ol E) (k:Int)))}:=by
  intro k hk st d;have hm:gx iV (ol E) (k:Int)∈ol E:=by
   have:gx iV (ol E) (k:Int)=(ol E)[k]:=by simp[gx,hk]
   rw[this];exact List.getElem_mem hk
  obtain⟨V,hV,hV2⟩:=hE _ hm
  obtain⟨V',hV',Ht⟩:=hA _ hm
  have hfa:Flat (.agg (cI (gx iV (ol E) (k:Int)))):=(kF _).2 (hA _ hm).fl
  have e0:((ol (some V)).length:Int)<1000000:=by
   have h0:ov bE (some V)=ov bE V':=by rw[← hV,← hV']
   cases V' with
   | none=>cases h0
   | some W =>
     simp only[ov,AV.sl.injEq] at h0;simp only[ol,Option.getD_some] at Ht ⊢
     omega
  exact kx (aQ5 _ (some V) hV (by simpa using hV2) e0) (cU hfa) hfa st d
 have hu:([ov aR E,.v (.func (.func 194) #[] #[])]:List AV).any nM=false:=by cases E<;>rfl
 rw[cL Tryz.func193 rfl aL0 hu];simp only[Z8,seval];refine lM (fun m st=>∃k:Nat,(st.env 8=ov aR E∧st.env 9=.v (.int .i64 (ol E).length)∧st.env 10=.v (.int .i64 k)∧st.env 1=.v (.func (.func 194) #[] #[]))∧((k=0∧st.env 5=.v (.slice none 0 0))∨(0<k∧∃j,st.env 5=.own 19 j∧st.heap 19 j=some (.row 118 34 ((ol E).take k).length (aR ((ol E).take k)))))∧k≤(ol E).length∧m=(ol E).length-k)
  (fun e st=>e=.exit 0∧((ol E=[]∧st.env 5=.v (.slice none 0 0))∨(ol E≠[]∧∃j,st.env 5=.own 19 j∧st.heap 19 j=some (.row 118 34 (ol E).length (aR (ol E)))))) (ol E).length ?step ?start ?rest
 case step =>
  rintro m st ⟨k,hI,hR,hk,hm⟩
  by_cases aY:(k:Int)<(ol E).length
  ·have q0:(0:Int)≤k:=by omega
   have hw:IntKind.i64.wrap ((k:Int)+1)=((k+1:Nat):Int):=by rw[pZ _ (by omega) (by omega)];omega
   have ht:=p7 iV (ol E) k (by omega)
   have kk:=kg k (by omega)
   rcases hR with ⟨uW,h5⟩|⟨uW,j,h5,h6⟩
   ·have ht':[gx iV (ol E) (k:Int)]=(ol E).take (k+1):=by rw[← ht,show (ol E).take k=[] by rw[uW,List.take_zero],List.nil_append]
    apply oN ((ol E).length-(k+1))
    ·simp only[Z8,seval,hI,h5,aY,q0,kk,Ql 15 _ _ 194,HC,hw];rfl
    ·exact⟨k+1,⟨by simp only[E8,seval,hI],by simp only[E8,seval,hI],by simp only[E8,seval],by simp only[E8,seval,hI]⟩,.inr ⟨by omega,_,by simp only[E8,seval]<;>rfl,by rw[← ht'];simp only[E8,seval]<;>rfl⟩,by omega,rfl⟩
   ·have ao:=fun s g=>Ss ((ol E).take k) (gx iV (ol E) (k:Int)) s g (by rw[List.length_take];omega)
    apply oN ((ol E).length-(k+1))
    ·simp only[Z8,seval,hI,h5,h6,aY,q0,kk,Ql 15 _ _ 194,ao,hw];rfl
    ·exact⟨k+1,⟨by simp only[E8,seval,hI],by simp only[E8,seval,hI],by simp only[E8,seval],by simp only[E8,seval,hI]⟩,.inr ⟨by omega,_,by simp only[E8,seval]<;>rfl,by rw[← ht];simp only[E8,seval]<;>rfl⟩,by omega,rfl⟩
  ·have Fg:k=(ol E).length:=by omega
   have hF:(ol E=[]∧st.env 5=.v (.slice none 0 0))∨(ol E≠[]∧∃j,st.env 5=.own 19 j∧st.heap 19 j=some (.row 118 34 (ol E).length (aR (ol E)))):=by
    rcases hR with ⟨uW,h5⟩|⟨uW,j,h5,h6⟩
    ·exact .inl ⟨List.eq_nil_of_length_eq_zero (by omega),h5⟩
    ·exact .inr ⟨by intro h0;rw[h0] at Fg;simp at Fg;omega,j,h5,by rw[h6,Fg,List.take_length]⟩
   apply oT (.exit 0)
   ·simp only[Z8,seval,hI,aY];rfl
   ·exact⟨rfl,by simp only[E8,seval];exact hF⟩
 case start=>exact⟨0,by simp only[E8,seval]<;>exact⟨rfl,rfl,rfl,rfl⟩,.inl ⟨rfl,by simp only[E8,seval]<;>rfl⟩,by omega,by omega⟩
 case rest =>
  rintro e st ⟨rfl,hR⟩
  rcases hR with ⟨h0,h5⟩|⟨h0,j,h5,h6⟩
  ·simp only[Z8,seval,h5];cases E with
   | none=>exact bS rfl (by simp only[E8,seval]<;>rfl) (.v _)
   | some l=>exact absurd (show (some l:Option (List Table))=some [] by rw[show l=[] from h0]) h
  ·simp only[Z8,seval,h5];cases E with
   | none=>exact absurd rfl h0
   | some l=>exact tC rfl (by simp only[E8,seval];rfl) (by simp only[E8,seval];exact h6) (lS _ kE)
theorem aRc (E:Option (List Table)) (h:E≠some []) (hn:((ol E).length:Int)<1000000) (hE:∀a∈ol E,∃V,a.jO=ov bE (some V)∧V≠[]) (hA:∀a∈ol E,sP a) (st:St) (d:Nat) :
 aM (aC Tryz.prog) 193 [ov aR E,.v (.func (.func 194) #[] #[])] st (some d)=some { dst:=some d,val:=rv d (st.aP d) E,new:=MZ d (rl 118 34 aR E)} :=
 Bx (fun x m=>by
  rcases List.mem_cons.1 m with rfl|m
  ·exact lR E fun y m=>(hA y m).fl
  ·rw[List.mem_singleton.1 m];exact .v _) (aRb E h hn hE hA)
theorem Zx (f:Nat→AV→AV × List mV) (c:Nat) (xs ys:List AV):pW f c (xs++ys)=((pW f c xs).1++(pW f (c+(pW f c xs).2.length) ys).1,(pW f c xs).2++(pW f (c+(pW f c xs).2.length) ys).2):=by
 induction xs generalizing c with
 | nil=>simp[pW]
 | cons x xs ih=>simp only[List.cons_append,pW,ih,List.length_append,Nat.add_assoc,List.append_assoc]
theorem Kj (d c:Nat) {x:AV} (h:Flat x):yF d c x=(x,[]):=by cases h<;>rfl
theorem rR (d c:Nat) {xs:List AV} (h:∀x∈xs,Flat x):pW (yF d) c xs=(xs,[]):=by
 induction xs generalizing c with
 | nil=>rfl
 | cons x xs ih=>simp only[pW,Kj d c (h x (by simp)),List.length_nil,Nat.add_zero,ih c fun y m=>h y (by simp[m]),List.nil_append]
theorem Xk {α:Type} (d c e sz:Nat) (cs:List α→List AV) (L:Option (List α)):pW (yF d) c [uo e sz cs L]=([rv d c L],rl e sz cs L):=by cases L<;>rfl
theorem JN {call:Nat→List AV→Option AV} {g d:Nat} {args cs:List AV} {st:St} (hf:∀x∈args,Flat x) (h:call g args=some (.agg cs)) (hn:Flat (.agg cs)∨(pW (yF d) (st.aP d) cs).2≠[]) :
 aM call g args st (some d)=some { dst:=some d,val:=.agg (pW (yF d) (st.aP d) cs).1,new:=MZ d (pW (yF d) (st.aP d) cs).2 }:=by
 unfold aM;rw[if_pos hf,h,cK];unfold iU;by_cases hF:Flat (.agg cs)
 ·have hc:∀x∈cs,Flat x:=by cases hF with|agg _ h=>exact h
  rw[if_pos hF,rR d _ hc];rfl
 ·rw[if_neg hF];have h2:=hn.resolve_left hF
  simp only[MZ,if_neg h2];rfl
noncomputable def Wb (st:St) (cs:List AV):Option (List AV):=cM (cs.map (kK st))
theorem Zy (st:St) (a b:List AV):Wb st (a++b)=cH (Wb st a) fun x=>cH (Wb st b) fun y=>some (x++y):=by
 unfold Wb;induction a with
 | nil=>simp[cM,cH];cases cM (b.map (kK st))<;>rfl
 | cons c a ih =>
   simp only[List.cons_append,List.map_cons];cases kK st c with
   | none=>rfl
   | some c' =>
     simp only[cM,ih];cases cM (a.map (kK st))<;>simp[cH]<;>cases cM (b.map (kK st))<;>rfl
theorem tS {st:St} {cs:List AV} (h:∀c∈cs,Flat c):Wb st cs=some cs:=by
 unfold Wb;induction cs with
 | nil=>rfl
 | cons c cs ih =>
   have h1:kK st c=some c:=if_pos (h c (by simp))
   simp only[List.map_cons,h1,cM,ih fun x hx=>h x (by simp[hx]),Option.map_some]
theorem rC {st:St} {x y:AV} (h:kK st x=some y):Wb st [x]=some [y]:=by simp only[Wb,List.map_cons,List.map_nil,h,cM,Option.map_some]
theorem Td {st:St} {cs ys:List AV} (h:Wb st cs=some ys):De st (.agg cs)=some (.agg ys):=by
 show (cM (cs.map (kK st))).map AV.agg=_
 rw[show cM (cs.map (kK st))=some ys from h];rfl
theorem PK {x:AV} (h:Flat x):gI x=[]:=by cases h<;>rfl
theorem nJ {cs:List AV} (h:∀c∈cs,Flat c):cs.flatMap gI=[]:=by
 induction cs with
 | nil=>rfl
 | cons c cs ih=>rw[List.flatMap_cons,PK (h c (by simp)),ih fun x hx=>h x (by simp[hx]),List.nil_append]
theorem HD {α:Type} (d k:Nat) (L:Option (List α)):gI (rv d k L)=if L.isSome then [(d,k)] else []:=by cases L<;>rfl
theorem W6 (st:St) (g:Nat):st.ev (.func g)=.v (.func (.func g) #[] #[]):=rfl
theorem aRd (T:Option (List Table)) (h:T≠some []) (hn:((ol T).length:Int)<1000000) (hE:∀a∈ol T,∃V,a.jO=ov bE (some V)∧V≠[]) (hA:∀a∈ol T,sP a):aC Tryz.prog 166 [ov aR T]=some (uo 118 34 aR T):=by
 have kE:∀y∈ol T,Flat y.jO:=fun y m=>(hA y m).fl
 rw[cL Tryz.func166 rfl aL1 (by cases T<;>rfl)]
 simp only[Z8,seval,W6,aRc T h hn hE hA,NW];cases T with
 | none=>exact bS rfl (by simp only[E8,seval]<;>rfl) (.v _)
 | some l=>exact tC rfl (by simp only[E8,seval]<;>rfl) (by simp only[E8,seval,yZ,rl,List.length_cons,Nat.lt_add_left_iff_pos,Nat.zero_lt_succ,if_true]<;>rfl) (lS _ kE)
theorem aRe (T:Option (List Table)) (h:T≠some []) (hn:((ol T).length:Int)<1000000) (hE:∀a∈ol T,∃V,a.jO=ov bE (some V)∧V≠[]) (hA:∀a∈ol T,sP a) (st:St) (d:Nat) :
 aM (aC Tryz.prog) 166 [ov aR T] st (some d)=some { dst:=some d,val:=rv d (st.aP d) T,new:=MZ d (rl 118 34 aR T)}:=Bx (cU (lR T fun y m=>(hA y m).fl)) (aRd T h hn hE hA)
theorem aRf (L:Option (List kM)) (Q:Option (List Int)) (h1:L≠some []) (h2:Q≠some []) (n1:((ol L).length:Int)<1000000) (n2:((ol Q).length:Int)<1000000) :
 aC Tryz.prog 161 [.agg (fC ⟨ov cP L,ov aJ Q⟩)]=some (.agg (fC ⟨uo 100 34 cP L,uo 3 1 aJ Q⟩)):=by
 rw[cL Tryz.func161 rfl aL2 rfl];simp only[Z8,seval,aQZ L h1 n1,aLU Q h2 n2,NW];refine Pq rfl (.inl rfl) rfl (x:=.agg (fC ⟨rv 5 0 L,rv 8 0 Q⟩)) (by simp only[bT,Z8,seval,NW]) ?_ (Td ?_)
 ·simp only[lO,jD,fC,List.flatMap_append,List.flatMap_cons,List.flatMap_nil,List.append_nil,HD];cases L<;>cases Q<;>simp
 ·unfold fC;rw[Zy,rC (iR (e:=100) (sz:=34) (c:=cP) ?_ fun l _=>nF l),cK,rC (iR (e:=3) (sz:=1) (c:=aJ) ?_ fun l _=>gD l),cK]
  ·intro l hl;subst hl;simp only[E8,seval,yZ,rl,List.length_cons,Nat.lt_add_left_iff_pos,Nat.zero_lt_succ,if_true]<;>rfl
  ·intro l hl;subst hl;simp only[E8,seval,yZ,rl,List.length_cons,Nat.lt_add_left_iff_pos,Nat.zero_lt_succ,if_true]<;>rfl
theorem Zz (d c:Nat) (L:Option (List kM)) (Q:Option (List Int)):pW (yF d) c (fC ⟨uo 100 34 cP L,uo 3 1 aJ Q⟩)=(fC ⟨rv d c L,rv d (c+(rl 100 34 cP L).length) Q⟩,rl 100 34 cP L++rl 3 1 aJ Q):=by
 unfold fC;rw[Zx,Xk,Xk]
theorem aRg (L:Option (List kM)) (Q:Option (List Int)) (h1:L≠some []) (h2:Q≠some []) (n1:((ol L).length:Int)<1000000) (n2:((ol Q).length:Int)<1000000) (st:St) (d:Nat) :
 aM (aC Tryz.prog) 161 [.agg (fC ⟨ov cP L,ov aJ Q⟩)] st (some d)=some { dst:=some d,val:=.agg (fC ⟨rv d (st.aP d) L,rv d (st.aP d+(rl 100 34 cP L).length) Q⟩),new:=MZ d (rl 100 34 cP L++rl 3 1 aJ Q)}:=by
 rw[JN (cU (.agg _ (qQ _ (qV L) (bO Q)))) (aRf L Q h1 h2 n1 n2) ?_,Zz];rw[Zz];cases L with
 | some l=>exact .inr (by simp[rl])
 | none =>
   cases Q with
   | some q=>exact .inr (by simp[rl])
   | none=>exact .inl (.agg _ (qQ _ (.v _) (.v _)))
def UH (s:aN) (b l q e o n t:AV):aN:={ s with cFg:={ s.cFg with jO:=b },gE:=⟨l,q⟩,dS:=⟨e,o⟩,tree:=⟨n⟩,tables:=t }
theorem AA {st:St} (s:aN) {b l q e o n t b' l' q' e' o' n' t':AV} (h1:kK st b=some b') (h2:kK st l=some l') (h3:kK st q=some q') (h4:kK st e=some e') (h5:kK st o=some o') (h6:kK st n=some n') (h7:kK st t=some t') :
 Wb st (aB (UH s b l q e o n t))=some (aB (UH s b' l' q' e' o' n' t')):=by
 simp only[UH,aB,bR,fC,jT,mT,Zy,rC h1,rC h2,rC h3,rC h4,rC h5,rC h6,rC h7,tS (uJ _),tS (dZ _),tS (iM _),tS (dF _),tS (lC _),cK]
theorem Mg (s:aN) (b l q e o n t:AV):(aB (UH s b l q e o n t)).flatMap gI=gI b++(gI l++(gI q++(gI e++(gI o++(gI n++gI t))))):=by
 simp only[UH,aB,bR,fC,jT,mT,List.flatMap_append,List.flatMap_cons,List.flatMap_nil,List.append_nil,nJ (uJ _),nJ (dZ _),nJ (iM _),nJ (dF _),nJ (lC _),List.nil_append,List.append_assoc]
theorem yK {α:Type} (e sz:Nat) (c:List α→List AV) (l:List α):rl e sz c (some l)=[.row e sz l.length (c l)]:=rfl
theorem aRh {s:aN} {v:SV} (hs:SD s v) (gN:NEv v) (hB:v.B≠some []) (hL:v.L≠some []) (ht:0<v.ns.length) :
 aC Tryz.prog 109 [.agg (aB s)]=some (.agg (aB (UH s (uo 23 1 bE v.B) (uo 100 34 cP v.L) (uo 3 1 aJ v.Q) (uo 87 67 dD v.E) (uo 74 238 aH v.O) (.uniq 76 240 v.ns.length (cB v.ns)) (uo 118 34 aR v.T)))):=by
 have hv:s.gE=⟨ov cP v.L,ov aJ v.Q⟩:=by
  have h1:=hs.dT
  have h2:=hs.iB
  cases hc:s.gE with
  | mk a b=>rw[hc] at h1 h2;simp only at h1 h2;rw[h1,h2]
 rw[cL Tryz.func109 rfl aL3 rfl];simp only[Z8,seval,hs.jO,hv,hs.early,hs.bV,hs.tree,hs.tables,W6,NW,aLT v.B hB hs.nB,aRg v.L v.Q hL gN.q hs.nL hs.nQ,aRa v.E gN.e hs.nE gN.ea hs.eV,aQ2 v.O gN.o hs.nO,aOH v.ns ht hs.nn,aRe v.T gN.t hs.nT gN.tb hs.tB];refine Pq rfl (.inl rfl) rfl (x:=.agg (aB (UH s (rv 6 0 v.B) (rv 11 0 v.L) (rv 11 (rl 100 34 cP v.L).length v.Q) (rv 16 0 v.E) (rv 22 0 v.O) (.own 27 0) (rv 31 0 v.T)))) ?x1 ?x2 (Td (AA s ?b1 ?l1 ?q1 ?e1 ?o1 ?n1 ?t1))
 case x1=>simp only[bT,Z8,seval,NW,UH]
 case x2 =>
  show ((aB _).flatMap gI).Nodup
  rw[Mg];simp only[HD,show ∀a b,gI (.own a b)=[(a,b)] from fun _ _=>rfl]
  cases v.B<;>cases hvl:v.L<;>cases v.Q<;>cases v.E<;>cases v.O<;>cases v.T<;>simp[rl]
 case b1=>exact iR (fun l hl=>by simp only[E8,seval,NW,hl,yK,List.length_cons,List.length_nil,Nat.lt_add_left_iff_pos,Nat.zero_lt_succ,if_true]<;>rfl) fun l _=>iC l
 case l1 =>
  refine iR (fun l hl=>?_) fun l _=>nF l
  simp only[E8,seval,NW,hl,yK];simp
 case q1 =>
  refine iR (fun l hl=>?_) fun l _=>gD l
  simp only[E8,seval,NW,hl,yK];simp
 case e1=>exact iR (fun l hl=>by simp only[E8,seval,NW,hl,yK,List.length_cons,List.length_nil,Nat.lt_add_left_iff_pos,Nat.zero_lt_succ,if_true]<;>rfl) fun l hl=>tG l fun y m=>(hs.eV y (by rw[hl];exact m)).fl
 case o1=>exact iR (fun l hl=>by simp only[E8,seval,NW,hl,yK,List.length_cons,List.length_nil,Nat.lt_add_left_iff_pos,Nat.zero_lt_succ,if_true]<;>rfl) fun l _=>pD l
 case n1=>exact iR (L:=some v.ns) (fun l hl=>by cases hl;simp only[E8,seval,NW,yK,List.length_cons,List.length_nil,Nat.lt_add_left_iff_pos,Nat.zero_lt_succ,if_true]<;>rfl) fun l _=>jZ l
 case t1=>exact iR (fun l hl=>by simp only[E8,seval,NW,hl,yK,List.length_cons,List.length_nil,Nat.lt_add_left_iff_pos,Nat.zero_lt_succ,if_true]<;>rfl) fun l hl=>lS l fun y m=>(hs.tB y (by rw[hl];exact m)).fl
theorem W7 (d c e sz n:Nat) (cs:List AV):pW (yF d) c [.uniq e sz n cs]=([.own d c],[.row e sz n cs]):=rfl
def By (v:SV):List mV:=rl 23 1 bE v.B++(rl 100 34 cP v.L++(rl 3 1 aJ v.Q++(rl 87 67 dD v.E++(rl 74 238 aH v.O++([.row 76 240 v.ns.length (cB v.ns)]++rl 118 34 aR v.T)))))
def nB (v:SV):Nat:=(rl 23 1 bE v.B).length
def nL (v:SV):Nat:=nB v+(rl 100 34 cP v.L).length
def nQ (v:SV):Nat:=nL v+(rl 3 1 aJ v.Q).length
def nE (v:SV):Nat:=nQ v+(rl 87 67 dD v.E).length
def nO (v:SV):Nat:=nE v+(rl 74 238 aH v.O).length
def p8 (s:aN) (v:SV) (d c:Nat):aN:=UH s (rv d c v.B) (rv d (c+nB v) v.L) (rv d (c+nL v) v.Q) (rv d (c+nQ v) v.E) (rv d (c+nE v) v.O) (.own d (c+nO v)) (rv d (c+nO v+1) v.T)
theorem Nr (s:aN) (v:SV) (d c:Nat):pW (yF d) c (aB (UH s (uo 23 1 bE v.B) (uo 100 34 cP v.L) (uo 3 1 aJ v.Q) (uo 87 67 dD v.E) (uo 74 238 aH v.O) (.uniq 76 240 v.ns.length (cB v.ns)) (uo 118 34 aR v.T)))=(aB (p8 s v d c),By v):=by
 simp only[UH,p8,aB,bR,fC,jT,mT,Zx,Xk,W7,rR d _ (uJ _),rR d _ (dZ _),rR d _ (iM _),rR d _ (dF _),rR d _ (lC _),List.nil_append,List.length_nil,Nat.add_zero,List.append_assoc,List.length_append,List.length_cons,By,nO,nE,nQ,nL,nB,Nat.add_assoc,List.append_nil]
theorem aRi {s:aN} {v:SV} (hs:SD s v) (gN:NEv v) (hB:v.B≠some []) (hL:v.L≠some []) (ht:0<v.ns.length) (st:St) (d:Nat) :
 aM (aC Tryz.prog) 109 [.agg (aB s)] st (some d)=some { dst:=some d,val:=.agg (aB (p8 s v d (st.aP d))),new:=some (d,By v)}:=by
 have h0:By v≠[]:=by simp[By]
 rw[JN (cU hs.flat) (aRh hs gN hB hL ht) (by rw[Nr];exact .inr h0),Nr]
 simp only[MZ,if_neg h0]
theorem W8 (x:Option Nat) (y:AV) (d:Nat) (v:SV) (st:St):({ dst:=x,val:=y,new:=some (d,By v)}:qE).apply st=(st.news d (By v)).put x y:=rfl
theorem p9 {α:Type} (d k:Nat) (l:List α):rv d k (some l)=.own d k:=rfl
theorem lV {α:Type} (a b:List α) (n i:Nat) (h:n=a.length+i):(a++b)[n]? = b[i]?:=by
 rw[h,List.getElem?_append_right (by omega)]
 congr 1
 omega
theorem aL4 (v:SV) (l:List Int) (h:v.B=some l):(By v)[0]? = some (.row 23 1 l.length (bE l)):=by simp[By,h,rl]
theorem aL5 (v:SV) (l:List kM) (h:v.L=some l):(By v)[nB v]? = some (.row 100 34 l.length (cP l)):=by
 unfold By;rw[lV _ _ _ 0 (by simp[nB]),h];rfl
theorem aL6 (v:SV) (l:List Int) (h:v.Q=some l):(By v)[nL v]? = some (.row 3 1 l.length (aJ l)):=by
 unfold By;rw[lV _ _ _ _ (show nL v=_+_ from rfl),lV _ _ _ 0 (by simp),h];rfl
theorem aL7 (v:SV) (l:List sH) (h:v.E=some l):(By v)[nQ v]? = some (.row 87 67 l.length (dD l)):=by
 unfold By;rw[lV _ _ _ ((rl 100 34 cP v.L).length+(rl 3 1 aJ v.Q).length) (by simp[nQ,nL,nB,Nat.add_assoc]),lV _ _ _ _ rfl,lV _ _ _ 0 (by simp),h];rfl
theorem aL8 (v:SV) (l:List Block) (h:v.O=some l):(By v)[nE v]? = some (.row 74 238 l.length (aH l)):=by
 unfold By;rw[lV _ _ _ ((rl 100 34 cP v.L).length+((rl 3 1 aJ v.Q).length+(rl 87 67 dD v.E).length)) (by simp[nE,nQ,nL,nB,Nat.add_assoc]),lV _ _ _ _ rfl,lV _ _ _ _ rfl,lV _ _ _ 0 (by simp),h];rfl
theorem aL9 (v:SV):(By v)[nO v]? = some (.row 76 240 v.ns.length (cB v.ns)):=by
 unfold By;rw[lV _ _ _ ((rl 100 34 cP v.L).length+((rl 3 1 aJ v.Q).length+((rl 87 67 dD v.E).length+(rl 74 238 aH v.O).length))) (by simp[nO,nE,nQ,nL,nB,Nat.add_assoc]),lV _ _ _ _ rfl,lV _ _ _ _ rfl,lV _ _ _ _ rfl,lV _ _ _ 0 (by simp)];rfl
theorem aMa (v:SV) (l:List Table) (h:v.T=some l):(By v)[nO v+1]? = some (.row 118 34 l.length (aR l)):=by
 unfold By;rw[lV _ _ _ ((rl 100 34 cP v.L).length+((rl 3 1 aJ v.Q).length+((rl 87 67 dD v.E).length+((rl 74 238 aH v.O).length+1)))) (by simp[nO,nE,nQ,nL,nB,Nat.add_assoc]),lV _ _ _ _ rfl,lV _ _ _ _ rfl,lV _ _ _ _ rfl,lV _ _ _ _ rfl,lV _ _ _ 0 (by simp),h];rfl
theorem r7 (x:Int):(x != x)=false:=by simp
theorem beI (x:Int):(x == x)=true:=by simp
theorem aRj (o:Option (List Int)) (hn:((ol o).length:Int)<1000000):aC Tryz.prog 103 [ov bE o,ov bE o]=some (.v (.bool true)):=by
 rw[cL Tryz.func103 rfl aEB (by cases o<;>rfl)]
 refine jG ?_
 simp only[Z8,seval,r7];refine cE (fun m st=>∃k:Nat,(st.env 0=ov bE o∧st.env 1=ov bE o∧st.env 5=.v (.int .i64 k))∧k≤(ol o).length∧m=(ol o).length-k)
  (fun e st=>e=.exit 0) (ol o).length ?step ?start ?rest
 case step =>
  rintro m st ⟨k,hI,hk,hm⟩
  by_cases aY:(k:Int)<(ol o).length
  ·have q0:(0:Int)≤k:=by omega
   have hw:IntKind.i64.wrap ((k:Int)+1)=((k+1:Nat):Int):=by rw[pZ _ (by omega) (by omega)];omega
   apply oN ((ol o).length-(k+1))
   ·simp only[Z8,seval,hI,aY,q0,r7,hw];rfl
   ·exact⟨k+1,by simp only[E8,seval,hI],by omega,rfl⟩
  ·apply oT (.exit 0)
   ·simp only[Z8,seval,hI,aY];rfl
   ·exact rfl
 case start=>exact⟨0,by simp only[E8,seval]<;>exact⟨rfl,rfl,rfl⟩,by omega,by omega⟩
 case rest =>
  rintro e st rfl
  simp only[Z8,seval];exact⟨_,bS rfl (by simp only[E8,seval]<;>rfl) (by first|exact .v _|simp only[dU]),rfl⟩
theorem aCg (o:Option (List Int)) (hn:((ol o).length:Int)<1000000) (st:St) (d:Option Nat):aM (aC Tryz.prog) 103 [ov bE o,ov bE o] st d=some { dst:=d,val:=.v (.bool true)}:=bI (bG (dP o) (dP o)) (aRj o hn) (.v _)
theorem aRk (o:Option (List kM)) (hn:((ol o).length:Int)<1000000):aC Tryz.prog 104 [ov cP o,ov cP o]=some (.v (.bool true)):=by
 rw[cL Tryz.func104 rfl aMb (by cases o<;>rfl)]
 refine jG ?_
 simp only[Z8,seval,r7];refine cE (fun m st=>∃k:Nat,(st.env 0=ov cP o∧st.env 1=ov cP o∧st.env 5=.v (.int .i64 k))∧k≤(ol o).length∧m=(ol o).length-k)
  (fun e st=>e=.exit 0) (ol o).length ?step ?start ?rest
 case step =>
  rintro m st ⟨k,hI,hk,hm⟩
  by_cases aY:(k:Int)<(ol o).length
  ·have q0:(0:Int)≤k:=by omega
   have hw:IntKind.i64.wrap ((k:Int)+1)=((k+1:Nat):Int):=by rw[pZ _ (by omega) (by omega)];omega
   apply oN ((ol o).length-(k+1))
   ·simp only[Z8,seval,hI,aY,q0,r7,hw];rfl
   ·exact⟨k+1,by simp only[E8,seval,hI],by omega,rfl⟩
  ·apply oT (.exit 0)
   ·simp only[Z8,seval,hI,aY];rfl
   ·exact rfl
 case start=>exact⟨0,by simp only[E8,seval]<;>exact⟨rfl,rfl,rfl⟩,by omega,by omega⟩
 case rest =>
  rintro e st rfl
  simp only[Z8,seval];exact⟨_,bS rfl (by simp only[E8,seval]<;>rfl) (by first|exact .v _|simp only[dU]),rfl⟩
theorem aRl (o:Option (List kM)) (hn:((ol o).length:Int)<1000000) (st:St) (d:Option Nat):aM (aC Tryz.prog) 104 [ov cP o,ov cP o] st d=some { dst:=d,val:=.v (.bool true)}:=bI (bG (qV o) (qV o)) (aRk o hn) (.v _)
theorem aMc (o:Option (List Int)) (hn:((ol o).length:Int)<1000000):aC Tryz.prog 105 [ov aJ o,ov aJ o]=some (.v (.bool true)):=by
 rw[cL Tryz.func105 rfl aEA (by cases o<;>rfl)]
 refine jG ?_
 simp only[Z8,seval,r7];refine cE (fun m st=>∃k:Nat,(st.env 0=ov aJ o∧st.env 1=ov aJ o∧st.env 5=.v (.int .i64 k))∧k≤(ol o).length∧m=(ol o).length-k)
  (fun e st=>e=.exit 0) (ol o).length ?step ?start ?rest
 case step =>
  rintro m st ⟨k,hI,hk,hm⟩
  by_cases aY:(k:Int)<(ol o).length
  ·have q0:(0:Int)≤k:=by omega
   have hw:IntKind.i64.wrap ((k:Int)+1)=((k+1:Nat):Int):=by rw[pZ _ (by omega) (by omega)];omega
   apply oN ((ol o).length-(k+1))
   ·simp only[Z8,seval,hI,aY,q0,r7,hw];rfl
   ·exact⟨k+1,by simp only[E8,seval,hI],by omega,rfl⟩
  ·apply oT (.exit 0)
   ·simp only[Z8,seval,hI,aY];rfl
   ·exact rfl
 case start=>exact⟨0,by simp only[E8,seval]<;>exact⟨rfl,rfl,rfl⟩,by omega,by omega⟩
 case rest =>
  rintro e st rfl
  simp only[Z8,seval];exact⟨_,bS rfl (by simp only[E8,seval]<;>rfl) (by first|exact .v _|simp only[dU]),rfl⟩
theorem aEZ (o:Option (List Int)) (hn:((ol o).length:Int)<1000000) (st:St) (d:Option Nat):aM (aC Tryz.prog) 105 [ov aJ o,ov aJ o] st d=some { dst:=d,val:=.v (.bool true)}:=bI (bG (bO o) (bO o)) (aMc o hn) (.v _)
theorem aRm (a:sH) (V:Option (List Int)) (ha:a.eU=ov aJ V) (hn:((ol V).length:Int)<1000000):aC Tryz.prog 108 [.agg (gY a),.agg (gY a)]=some (.v (.bool true)):=by
 rw[cL Tryz.func108 rfl aEC rfl];refine jG ?_
 simp only[Z8,seval,ha,beI,aEZ V hn];exact⟨_,bS rfl (by simp only[E8,seval]<;>rfl) (by first|exact .v _|simp only[dU]),rfl⟩
theorem aRn (a:sH) (h:Dk a) (st:St) (d:Option Nat):aM (aC Tryz.prog) 108 [.agg (gY a),.agg (gY a)] st d=some { dst:=d,val:=.v (.bool true)}:=by
 obtain⟨V,ha,hl⟩:=h
 have hf:Flat (.agg (gY a)):=(zP a).2 (by rw[ha];exact bO V)
 exact bI (bG hf hf) (aRm a V ha hl) (.v _)
theorem aRo (a:Table) (V:Option (List Int)) (ha:a.jO=ov bE V) (hn:((ol V).length:Int)<1000000):aC Tryz.prog 159 [.agg (cI a),.agg (cI a)]=some (.v (.bool true)):=by
 rw[cL Tryz.func159 rfl aED rfl];refine jG ?_
 simp only[Z8,seval,ha,beI,aCg V hn];exact⟨_,bS rfl (by simp only[E8,seval]<;>rfl) (by first|exact .v _|simp only[dU]),rfl⟩
theorem aRp (a:Table) (h:sP a) (st:St) (d:Option Nat):aM (aC Tryz.prog) 159 [.agg (cI a),.agg (cI a)] st d=some { dst:=d,val:=.v (.bool true)}:=by
 obtain⟨V,ha,hl⟩:=h
 have hf:Flat (.agg (cI a)):=(kF a).2 (by rw[ha];exact dP V)
 exact bI (bG hf hf) (aRo a V ha hl) (.v _)
theorem aRq (o:Option (List Table)) (hn:((ol o).length:Int)<1000000) (hA:∀a∈ol o,sP a):aC Tryz.prog 107 [ov aR o,ov aR o]=some (.v (.bool true)):=by
 rw[cL Tryz.func107 rfl aMd (by cases o<;>rfl)]
 refine jG ?_
 simp only[Z8,seval,r7,beI];refine cE (fun m st=>∃k:Nat,(st.env 0=ov aR o∧st.env 1=ov aR o∧st.env 5=.v (.int .i64 k))∧k≤(ol o).length∧m=(ol o).length-k)
  (fun e st=>e=.exit 0) ((ol o).length) ?step ?start ?rest
 case step =>
  rintro m st ⟨k,hI,hk,hm⟩
  by_cases aY:(k:Int)<((ol o).length:Nat)
  ·have q0:(0:Int)≤k:=by omega
   have hw:IntKind.i64.wrap ((k:Int)+1)=((k+1:Nat):Int):=by rw[pZ _ (by omega) (by omega)];omega
   have kk:=aRp _ (hA _ (vU (z:=iV) q0 aY))
   apply oN ((ol o).length-(k+1))
   ·simp only[Z8,seval,hI,aY,q0,kk,r7,hw,beI];rfl
   ·exact⟨k+1,by simp only[E8,seval,hI],by omega,rfl⟩
  ·apply oT (.exit 0)
   ·simp only[Z8,seval,hI,aY,beI];rfl
   ·exact rfl
 case start=>exact⟨0,by simp only[E8,seval]<;>exact⟨rfl,rfl,rfl⟩,by omega,by omega⟩
 case rest =>
  rintro e st rfl
  simp only[Z8,seval];exact⟨_,bS rfl (by simp only[E8,seval]<;>rfl) (by first|exact .v _|simp only[dU]),rfl⟩
theorem aRr (o:Option (List Table)) (hn:((ol o).length:Int)<1000000) (hA:∀a∈ol o,sP a) (st:St) (d:Option Nat):aM (aC Tryz.prog) 107 [ov aR o,ov aR o] st d=some { dst:=d,val:=.v (.bool true)} :=
 bI (bG (lR o fun y m=>(hA y m).fl) (lR o fun y m=>(hA y m).fl)) (aRq o hn hA) (.v _)
theorem G3 {call:Nat→List AV→Option AV} {ops:Array Oper} {st:St} {T:Nat} {pos:String} {eH:Array Edge} (s x:Operand):cD Tryz.prog call ops ⟨some 26,.call ⟨.builtin .append,#[s,x],#[54,54]⟩,T,pos,eH,none⟩ st=cH (kS Tryz.prog st 54 (st.ev s) (st.ev x)) fun u =>
 some ((st.jA u.1 u.2.1 (some u.2.2.1)).put (some 26) (.vw u.1 u.2.1 0 u.2.2.2)):=WM s x 54 26 (aCA rfl)
theorem Ns (L:List Request) (k:Nat):(aA L).take (k * 35)=aA (L.take k):=yH (c:=bN) (sz:=35) fZ L k
theorem AB (L:List Request) (k:Nat):(aA L).drop (k * 35)=aA (L.drop k):=yI (c:=bN) (sz:=35) fZ L k
theorem HE (a b:List Request):aA (a++b)=aA a++aA b:=by simp[aA]
theorem Mh (l:List Request):∀c∈aA l,fR c:=by
 intro c hc;obtain⟨x,_,hx⟩:=List.mem_flatMap.1 hc
 exact JO x c hx
theorem c81 (L:List Request) (i j:Nat) (hij:i≤j) (hj:j≤L.length) (hn:(L.length:Int)<1000000) :
 aC Tryz.prog 81 [.uniq 63 35 L.length (aA L),.v (.int .i64 i),.v (.int .i64 j)]=some (.uniq 63 35 (L.take i++L.drop j).length (aA (L.take i++L.drop j))):=by
 rw[Kd Tryz.prog Tryz.func81 rfl aRs _ _ _ _ _ (qY _ _)];have a3:(0:Int)≤i∧(i:Int)≤j∧(j:Int)≤L.length∧(L.length:Int)≤L.length:=by omega
 have s3:∀(st:St) (lo hi mx:Operand),st.heap 0 0=some (.row 63 35 L.length (aA L))→st.ev lo=.v (.int .i64 i)→st.ev hi=.v (.int .i64 j)→st.ev mx=.v (.int .i64 L.length)→wM Tryz.prog st 54 (.own 0 0) (some lo) hi mx=some (.sl ((j:Int)-i).toNat []):=fun st lo hi mx h1 h2 h3 h4=>by
  simp only[wM,Cv,h1,h2,h3,h4,if_pos a3]
 by_cases e:(i:Int)=j
 ·have e':i=j:=by omega
  subst e'
  rw[List.take_append_drop];simp only[Z8,seval,jB,mF,jC,kN,mG,s3,beI];exact OO (P:=Tryz.prog) (fn:=Tryz.f81) (s:=0) (g:=0) (.inl rfl) rfl (by unfold kA;simp only[E8,seval,jB]) (by simp only[E8,seval,jC]) (Mh L)
 have aY:i<j:=by omega
 obtain⟨K,hK⟩:∃K,i+(L.length-j)=K:=⟨_,rfl⟩
 have hKn:K<L.length:=by omega
 obtain⟨L2,hL2⟩:∃L2,L.take i++L.drop j++L.drop K=L2:=⟨_,rfl⟩
 have l2:L2.length=L.length:=by rw[← hL2];simp;omega
 have lK:(L.take i++L.drop j).length=K:=by simp;omega
 have t2:L2.take K=L.take i++L.drop j:=by rw[← hL2,← lK];exact List.take_left
 have f1:∀(st:St) (hi:Operand),st.heap 0 0=some (.row 63 35 L.length (aA L))→st.ev hi=.v (.int .i64 i)→cX Tryz.prog st 54 (.own 0 0) none (some hi)=some (.vw 0 0 0 i):=fun st hi hh he=>by
  have h1:¬((0:Int)=i∧¬((0:Int)=0∧0<L.length)):=by omega
  have h2:(0:Int)≤i∧(i:Int)≤L.length:=by omega
  simp only[cX,Cv,hh,he,if_neg h1,h2,Int.le_refl,and_self,if_true];simp
  intro h3 h4;rw[h4] at hj;simp at hj
  omega
 obtain⟨X,f2,f2v⟩:∃X,(∀(st:St) (lo:Operand),st.heap 0 0=some (.row 63 35 L.length (aA L))→st.ev lo=.v (.int .i64 j)→cX Tryz.prog st 54 (.own 0 0) (some lo) none=some X) ∧
  (∀st:St,st.heap 0 0=some (.row 63 35 L.length (aA L))→aQ st X=some (L.length-j,aA (L.drop j))):=by
  by_cases g:j=L.length
  ·refine⟨.sl 0 [],fun st lo hh he=>?_,fun st hh=>by rw[g];simp[aQ,aA]⟩
   have h1:(j:Int)=L.length∧¬((j:Int)=0∧0<L.length):=by omega
   have h2:(0:Int)≤j∧(j:Int)≤L.length:=by omega
   simp only[cX,Cv,hh,he,if_pos h1,h2,Int.le_refl,and_self,if_true]
  ·refine⟨.vw 0 0 (j * 35) (L.length-j),fun st lo hh he=>?_,fun st hh=>?_⟩
   ·have h1:¬((j:Int)=L.length∧¬((j:Int)=0∧0<L.length)):=by omega
    have h2:(0:Int)≤j∧(j:Int)≤L.length:=by omega
    have h3:((L.length:Int)-(j:Int)).toNat=L.length-j:=by omega
    simp only[cX,Cv,hh,he,if_neg h1,h2,h3,Int.le_refl,and_self,if_true,Int.toNat_natCast]
   ·have hb:j * 35+(L.length-j) * 35≤(aA L).length:=by rw[lA];omega
    simp only[aQ,hh,if_pos hb];rw[AB,List.take_of_length_le (by rw[lA];simp)]
 have f3:∀st:St,st.heap 0 0=some (.row 63 35 L.length (aA L))→kS Tryz.prog st 54 (.vw 0 0 0 i) X=some (0,0,.row 63 35 L.length (aA L2),K):=fun st hh=>by
  have hc:(63:Nat)=63∧(35:Nat)=35∧(aA (L.drop j)).length=(L.length-j) * 35∧i+(L.length-j)≤L.length:=⟨rfl,rfl,by rw[lA];simp,by omega⟩
  simp only[kS,Cv,f2v st hh,hh];rw[if_pos ⟨trivial,trivial,hc.2.2⟩,← Nat.add_mul,hK,Ns,AB,← HE,← HE,hL2]
 have f4:∀st:St,st.heap 0 0=some (.row 63 35 L.length (aA L2))→aQ st (.vw 0 0 0 K)=some (K,aA (L.take i++L.drop j)):=fun st hh=>by
  have hb:0+K * 35≤(aA L2).length:=by rw[lA,l2];omega
  simp only[aQ,hh,if_pos hb,List.drop_zero];rw[Ns,t2]
 have f5:∀(st:St) (lo hi:Operand),st.heap 0 0=some (.row 63 35 L.length (aA L2))→st.ev lo=.v (.int .i64 K)→st.ev hi=.v (.int .i64 L.length)→cX Tryz.prog st 54 (.vw 0 0 0 K) (some lo) (some hi)=some (.vw 0 0 (K * 35) (L.length-K)):=fun st lo hi hh h1 h2=>by
  have h3:(0:Int)≤K∧(K:Int)<L.length∧(L.length:Int)≤L.length:=by omega
  have h4:((L.length:Int)-(K:Int)).toNat=L.length-K:=by omega
  simp only[cX,Cv,hh,h1,h2,if_pos h3,h4,Int.toNat_natCast]
 obtain⟨Z,f6,hZ,hZm⟩:∃Z,(∀st:St,st.heap 0 0=some (.row 63 35 L.length (aA L2))→uA Tryz.prog st 54 (.vw 0 0 (K * 35) (L.length-K))=some (some (0,0,.row 63 35 L.length (aA (L.take i++L.drop j)++Z))))∧Z.length=(L.length-K) * 35∧∀c∈Z,fR c:=by
  refine⟨(List.range (L.length-K)).flatMap fun _=>Dv.map AV.v,fun st hh=>?_, ?_,fun c hc=>?_⟩
  ·have hc:(63:Nat)=63∧(35:Nat)=35∧K * 35+(L.length-K) * 35≤(aA L2).length:=⟨rfl,rfl,by rw[lA,l2];omega⟩
   simp only[uA,Cv,aCB,hh];rw[if_pos ⟨trivial,trivial,hc.2.2⟩];have hd:(aA L2).drop (K * 35+(L.length-K) * 35)=[]:=List.drop_of_length_le (by rw[lA,l2];omega)
   rw[hd,Ns,t2,List.append_nil]
  ·have hv:(Dv.map AV.v).length=35:=by kernel_rfl
   generalize L.length-K=m
   induction m with
   | zero=>rfl
   | succ m ih=>rw[List.range_succ,List.flatMap_append,List.length_append,ih];simp only[List.flatMap_cons,List.flatMap_nil,List.append_nil,hv];omega
  ·obtain⟨_,_,hc⟩:=List.mem_flatMap.1 hc
   obtain⟨x,_,rfl⟩:=List.mem_map.1 hc
   exact .v x
 have fl:((aA (L.take i++L.drop j))++Z).length=L.length * 35:=by rw[List.length_append,lA,lK,hZ,← Nat.add_mul];congr 1;omega
 simp only[Z8,seval,jB,mF,jC,kN,mG,s3,bf e,G3,W9,f1,f2,f3,f4,f5,f6];have hE:=fun st=>aCC (st:=st) (P:=Tryz.prog) (fn:=Tryz.f81) (k:=K) (ee:=63) (sz:=35) (n:=L.length) (cs:=aA (L.take i++L.drop j)++Z) (e:=.ret) (s:=0) (g:=0) (.inl rfl) rfl
 have tk:(aA (L.take i++L.drop j)++Z).take (K * 35)=aA (L.take i++L.drop j):=by
  rw[← lK,← lA];exact List.take_left
 simp only[tk] at hE;rw[lK];exact hE _ (by unfold kA;simp only[E8,seval,jB]) (by simp only[E8,seval,jC]) (by omega) fl (fun c hc=>by
  rcases List.mem_append.1 hc with hc|hc
  ·exact Mh _ c hc
  ·exact hZm c hc)
def Sk (t:State) (S:aN) (q r:AV):State:={ t with store:=S,cY:=q,oD:=r }
def nS (v:SV):Nat:=(By v).length
def nR (v:SV) (Q:Option (List Request)):Nat:=nS v+(rl 63 35 aA Q).length
def HF (v:SV) (Q R:Option (List Request)):List mV:=By v++(rl 63 35 aA Q++rl 63 35 aA R)
def O2 (t:State) (v:SV) (Q R:Option (List Request)) (d c:Nat):State:=Sk t (p8 t.store v d c) (rv d (c+nS v) Q) (rv d (c+nR v Q) R)
theorem rD {α:Type} (d k e sz:Nat) (c:List α→List AV) (L:Option (List α)):gI (rv d k L)=(List.range' k (rl e sz c L).length).map (Prod.mk d):=by cases L<;>rfl
theorem aCD (s:aN) (v:SV) (d c:Nat):(aB (p8 s v d c)).flatMap gI=(List.range' c (nS v)).map (Prod.mk d):=by
 have e:nS v=(rl 23 1 bE v.B).length+((rl 100 34 cP v.L).length+((rl 3 1 aJ v.Q).length+((rl 87 67 dD v.E).length+((rl 74 238 aH v.O).length+(1+(rl 118 34 aR v.T).length))))):=by
  simp only[nS,By,List.length_append,List.length_cons,List.length_nil]
 unfold p8;rw[Mg,rD d c 23 1 bE v.B,rD d (c+nB v) 100 34 cP v.L,rD d (c+nL v) 3 1 aJ v.Q,rD d (c+nQ v) 87 67 dD v.E,rD d (c+nE v) 74 238 aH v.O,rD d (c+nO v+1) 118 34 aR v.T,e,
  show gI (.own d (c+nO v))=(List.range' (c+nO v) 1).map (Prod.mk d) from rfl]
 simp only[← List.map_append];congr 1
 have a:=fun s m n=>(List.range'_append_1 (s:=s) (m:=m) (n:=n)).symm
 rw[a c,a (c+_),a (c+_+_),a (c+_+_+_),a (c+_+_+_+_),a (c+_+_+_+_+_)];simp only[nO,nE,nQ,nL,nB,Nat.add_assoc]
theorem X0 (t:State) (v:SV) (Q R:Option (List Request)) (a b c:Nat):(aF (Sk t (p8 t.store v a 0) (rv b 0 Q) (rv c 0 R))).flatMap gI=(List.range' 0 (nS v)).map (Prod.mk a)++((List.range' 0 (rl 63 35 aA Q).length).map (Prod.mk b)++(List.range' 0 (rl 63 35 aA R).length).map (Prod.mk c)):=by
 simp only[Sk,aF,List.flatMap_append,List.flatMap_cons,List.flatMap_nil,List.append_nil,aCD,nJ (dZ _),nJ (mK _),nJ (kZ _),rD b 0 63 35 aA Q,rD c 0 63 35 aA R]
theorem AD (t:State) (v:SV) (Q R:Option (List Request)) (d c:Nat):pW (yF d) c (aF (Sk t (UH t.store (uo 23 1 bE v.B) (uo 100 34 cP v.L) (uo 3 1 aJ v.Q) (uo 87 67 dD v.E) (uo 74 238 aH v.O) (.uniq 76 240 v.ns.length (cB v.ns)) (uo 118 34 aR v.T)) (uo 63 35 aA Q) (uo 63 35 aA R)))=(aF (O2 t v Q R d c),HF v Q R):=by
 unfold O2 Sk aF;simp only[Zx,Nr,Xk,rR d _ (dZ _),rR d _ (mK _),rR d _ (kZ _),List.length_nil,Nat.add_zero,List.append_nil,HF,nR,nS,Nat.add_assoc]
theorem aMe (v:SV) (j:Nat):(if j<(By v).length then (By v)[j]? else none)=(By v)[j]?:=by
 split
 ·rfl
 ·rw[List.getElem?_eq_none (by omega)]
theorem aCE {st:St} {s:aN} {v:SV} (hs:SD s v) {d c:Nat} (hh:∀j,j<nS v→st.heap d (c+j)=(By v)[j]?):Wb st (aB (p8 s v d c))=some (aB (UH s (uo 23 1 bE v.B) (uo 100 34 cP v.L) (uo 3 1 aJ v.Q) (uo 87 67 dD v.E) (uo 74 238 aH v.O) (.uniq 76 240 v.ns.length (cB v.ns)) (uo 118 34 aR v.T))):=by
 have ix:∀ {j:Nat} {e:mV},(By v)[j]? = some e→st.heap d (c+j)=some e:=fun h=>by rw[hh _ (List.getElem?_eq_some_iff.1 h).1,h]
 exact AA s (iR (fun l hl=>by have:=ix (aL4 v l hl);rwa [Nat.add_zero] at this) fun l _=>iC l) (iR (fun l hl=>ix (aL5 v l hl)) fun l _=>nF l) (iR (fun l hl=>ix (aL6 v l hl)) fun l _=>gD l)
  (iR (fun l hl=>ix (aL7 v l hl)) fun l hl=>tG l fun y m=>(hs.eV y (by rw[hl];exact m)).fl) (iR (fun l hl=>ix (aL8 v l hl)) fun l _=>pD l)
  (iR (L:=some v.ns) (fun l hl=>by cases hl;exact ix (aL9 v)) fun l _=>jZ l) (iR (fun l hl=>by have:=ix (aMa v l hl);rwa [← Nat.add_assoc] at this) fun l hl=>lS l fun y m=>(hs.tB y (by rw[hl];exact m)).fl)
theorem aGf {st:St} {s:aN} {v:SV} (hs:SD s v) {d c:Nat} (hh:∀j,j<nS v→st.heap d (c+j)=(By v)[j]?):DP st (aB (p8 s v d c))=some (aB s):=by
 have ix:∀ {j:Nat} {e:mV},(By v)[j]? = some e→st.heap d (c+j)=some e:=fun h=>by rw[hh _ (List.getElem?_eq_some_iff.1 h).1,h]
 rw[gJ];simp only[p8,UH];rw[nI (e:=23) (sz:=1) (c:=bE) (fun l hl=>by have:=ix (aL4 v l hl);rwa [Nat.add_zero] at this) (fun l _=>iC l),cK,
  nI (e:=100) (sz:=34) (c:=cP) (fun l hl=>ix (aL5 v l hl)) (fun l _=>nF l),cK,
  nI (e:=3) (sz:=1) (c:=aJ) (fun l hl=>ix (aL6 v l hl)) (fun l _=>gD l),cK,
  nI (e:=87) (sz:=67) (c:=dD) (fun l hl=>ix (aL7 v l hl)) (fun l hl=>tG l fun y m=>(hs.eV y (by rw[hl];exact m)).fl),cK,
  nI (e:=74) (sz:=238) (c:=aH) (fun l hl=>ix (aL8 v l hl)) (fun l _=>pD l),cK,
  ← p9 d (c+nO v) v.ns,nI (e:=76) (sz:=240) (c:=cB) (fun l hl=>by cases hl;exact ix (aL9 v)) (fun l _=>jZ l),cK,
  nI (e:=118) (sz:=34) (c:=aR) (fun l hl=>by have:=ix (aMa v l hl);rwa [← Nat.add_assoc] at this) (fun l hl=>lS l fun y m=>(hs.tB y (by rw[hl];exact m)).fl),cK]
 have hn:ov cB (some v.ns)=s.tree.nodes:=by rw[hs.tree];rfl
 rw[hn,← hs.jO,← hs.dT,← hs.iB,← hs.early,← hs.bV,← hs.tables]
theorem WN {st:St} {t:State} {v:SV} (hs:SD t.store v) {d c:Nat} {q r q' r':AV} (hh:∀j,j<nS v→st.heap d (c+j)=(By v)[j]?) (h1:cF st q=some q') (h2:cF st r=some r'):fG st (.agg (aF (Sk t (p8 t.store v d c) q r)))=some (.agg (aF (Sk t t.store q' r'))):=by
 rw[bP];simp only[Sk,aF,uK,aGf hs hh,wR,h1,h2,jI (dZ _),jI (mK _),jI (kZ _),jJ,cK]
theorem c80 {t:State} {v:SV} {Q R:Option (List Request)} (h:TD t v Q R) (gN:NEv v) (hB:v.B≠some []) (hL:v.L≠some []) (ht:0<v.ns.length) (hQ:Q≠some []) (hR:R≠some []) :
 aC Tryz.prog 80 [.agg (aF t)]=some (.agg (aF (Sk t (UH t.store (uo 23 1 bE v.B) (uo 100 34 cP v.L) (uo 3 1 aJ v.Q) (uo 87 67 dD v.E) (uo 74 238 aH v.O) (.uniq 76 240 v.ns.length (cB v.ns)) (uo 118 34 aR v.T)) (uo 63 35 aA Q) (uo 63 35 aA R)))):=by
 have hs:=h.sd
 have nQ:((ol Q).length:Int)<1000000:=by have:=h.nQ;omega
 have nR:((ol R).length:Int)<1000000:=by have:=h.nR;omega
 rw[cL Tryz.func80 rfl aRt rfl];simp only[Z8,seval,aRi hs gN hB hL ht,h.Cp,h.ret,aLV Q hQ nQ,aLV R hR nR,NW,W8];have key:∀st:St,(∀j,j<nS v→st.heap 5 (0+j)=(By v)[j]?)→(∀l,Q=some l→st.heap 9 0=some (.row 63 35 l.length (aA l)))→(∀l,R=some l→st.heap 13 0=some (.row 63 35 l.length (aA l))) →
  Wb st (aF (Sk t (p8 t.store v 5 0) (rv 9 0 Q) (rv 13 0 R)))=some (aF (Sk t (UH t.store (uo 23 1 bE v.B) (uo 100 34 cP v.L) (uo 3 1 aJ v.Q) (uo 87 67 dD v.E) (uo 74 238 aH v.O) (.uniq 76 240 v.ns.length (cB v.ns)) (uo 118 34 aR v.T)) (uo 63 35 aA Q) (uo 63 35 aA R))):=fun st h1 h2 h3=>by
  simp only[Sk,aF,Zy,aCE hs h1,rC (iR h2 fun l _=>fJ l),rC (iR h3 fun l _=>fJ l),tS (dZ _),tS (mK _),tS (kZ _),cK]
 refine Pq rfl (.inl rfl) rfl (x:=.agg (aF (Sk t (p8 t.store v 5 0) (rv 9 0 Q) (rv 13 0 R)))) ?x1 ?x2 (Td (key _ ?h1 ?h2 ?h3))
 case x1=>simp only[bT,Z8,seval,NW,Sk]
 case x2 =>
  show ((aF _).flatMap gI).Nodup
  rw[X0];have nd:∀(d n:Nat),((List.range' 0 n).map (Prod.mk d)).Nodup:=fun d n=>List.Pairwise.map (Prod.mk d) (fun a b hab e=>hab (Prod.mk.inj e).2) (List.nodup_range' (step:=1))
  refine List.nodup_append.2 ⟨nd 5 _,List.nodup_append.2 ⟨nd 9 _,nd 13 _, ?_⟩, ?_⟩
  ·intro x hx y hy;obtain⟨_,_,rfl⟩:=List.mem_map.1 hx
   obtain⟨_,_,rfl⟩:=List.mem_map.1 hy
   simp
  ·intro x hx y hy;obtain⟨_,_,rfl⟩:=List.mem_map.1 hx
   rcases List.mem_append.1 hy with hy|hy
   ·obtain⟨_,_,rfl⟩:=List.mem_map.1 hy
    simp
   ·obtain⟨_,_,rfl⟩:=List.mem_map.1 hy
    simp
 case h1 =>
  intro j hj;rw[Nat.zero_add];simp only[E8,seval,NW,true_and,Nat.zero_le,Nat.sub_zero,aMe]
 case h2 =>
  intro l hl;simp only[E8,seval,NW,hl,yK,true_and,Nat.zero_le,Nat.sub_zero,List.length_cons,List.length_nil,Nat.zero_lt_succ,if_true]<;>rfl
 case h3 =>
  intro l hl;simp only[E8,seval,NW,hl,yK,true_and,Nat.zero_le,Nat.sub_zero,List.length_cons,List.length_nil,Nat.zero_lt_succ,if_true]<;>rfl
theorem X3 (v:SV) (Q R:Option (List Request)):HF v Q R≠[]:=by simp[HF,By]
theorem k80 {t:State} {v:SV} {Q R:Option (List Request)} (h:TD t v Q R) (gN:NEv v) (hB:v.B≠some []) (hL:v.L≠some []) (ht:0<v.ns.length) (hQ:Q≠some []) (hR:R≠some []) (st:St) (d:Nat) :
 aM (aC Tryz.prog) 80 [.agg (aF t)] st (some d)=some { dst:=some d,val:=.agg (aF (O2 t v Q R d (st.aP d))),new:=some (d,HF v Q R)}:=by
 rw[JN (cU h.flat) (c80 h gN hB hL ht hQ hR) (by rw[AD];exact .inr (X3 v Q R)),AD]
 simp only[MZ,if_neg (X3 v Q R)]
theorem AE (x:Option Nat) (y:AV) (d:Nat) (v:SV) (Q R:Option (List Request)) (st:St):({ dst:=x,val:=y,new:=some (d,HF v Q R)}:qE).apply st=(st.news d (HF v Q R)).put x y:=rfl
theorem aGg (v:SV) (Q R:Option (List Request)) (j:Nat) (h:j<nS v):(HF v Q R)[j]? = (By v)[j]?:=by
 unfold HF;rw[List.getElem?_append_left h]
theorem aGh (v:SV) (Q R:Option (List Request)) (l:List Request) (h:Q=some l):(HF v Q R)[nS v]? = some (.row 63 35 l.length (aA l)):=by
 unfold HF;rw[lV _ _ _ 0 (by rfl),h];rfl
theorem aGi (v:SV) (Q R:Option (List Request)) (l:List Request) (h:R=some l):(HF v Q R)[nR v Q]? = some (.row 63 35 l.length (aA l)):=by
 unfold HF;rw[lV _ _ _ _ (show nR v Q=_+_ from rfl),lV _ _ _ 0 (by rfl),h];rfl
theorem c79 (a:tI) (n:Int):aC Tryz.prog 79 [.agg (jW a),.v (.int .u64 n)]=some (.v (.bool (decide (a.tag=n)))):=by
 rw[cL Tryz.func79 rfl aRv rfl];refine jG ?_
 by_cases h:a.tag=n
 ·simp only[Z8,seval,bt h];exact⟨_,bS rfl (by simp only[E8,seval]<;>rfl) (by first|exact .v _|simp only[dU]),by rw[decide_eq_true h]⟩
 ·simp only[Z8,seval,bf h];exact⟨_,bS rfl (by simp only[E8,seval]<;>rfl) (by first|exact .v _|simp only[dU]),by rw[decide_eq_false h]⟩
theorem k79 (a:tI) (n:Int) (st:St) (d:Option Nat):aM (aC Tryz.prog) 79 [.agg (jW a),.v (.int .u64 n)] st d=some { dst:=d,val:=.v (.bool (decide (a.tag=n)))}:=bI (bG (.agg _ (Gg a)) (.v _)) (c79 a n) (.v _)
theorem aCF (w:fL):Flat (.ip (bW w) 0):=.ip _ _ (gM w)
theorem c78 (r:Request) (w:fL):aC Tryz.prog 78 [.agg (bN r),.ip (bW w) 0]=some (.v (.bool (decide (r.tagged.tag=w.tagged.tag)))):=by
 rw[cL Tryz.func78 rfl aRw rfl];refine jG ?_
 simp only[Z8,seval,k79];exact⟨_,bS rfl (by simp only[E8,seval]<;>rfl) (by first|exact .v _|simp only[dU]),rfl⟩
theorem k78 (r:Request) (w:fL) (st:St) (d:Option Nat):aM (aC Tryz.prog) 78 ([.agg (bN r)]++[.ip (bW w) 0]) st d=some { dst:=d,val:=.v (.bool (decide (r.tagged.tag=w.tagged.tag)))}:=bI (bG (.agg _ (gL r)) (aCF w)) (c78 r w) (.v _)
theorem c77 (o:Option (List Request)) (hn:((ol o).length:Int)<1000000) (w:fL):aC Tryz.prog 77 [ov aA o,.Da 78 [.ip (bW w) 0]]=some (.v (.int .i64 (Cn (Af (ol o) w.tagged.tag) (ol o).length))):=by
 rw[cL Tryz.func77 rfl aRx (by cases o<;>rfl)]
 refine jG ?_
 simp only[Z8,seval];refine cE (fun m st=>∃k:Nat,(st.env 0=ov aA o∧st.env 1=.Da 78 [.ip (bW w) 0]∧st.env 7=.v (.int .i64 (ol o).length)∧st.env 8=.v (.int .i64 k))∧(∀j:Nat,j<k→¬Af (ol o) w.tagged.tag j)∧k≤(ol o).length∧m=(ol o).length-k)
  (fun e st=>(e=.ret∧∃k:Nat,k<(ol o).length∧Af (ol o) w.tagged.tag k∧(∀j:Nat,j<k→¬Af (ol o) w.tagged.tag j)∧st.env 4=.v (.int .i64 k))∨(e=.exit 0∧∀j:Nat,j<(ol o).length→¬Af (ol o) w.tagged.tag j)) (ol o).length ?step ?start ?rest
 case step =>
  rintro m st ⟨k,hI,hj,hk,hm⟩
  by_cases aY:(k:Int)<(ol o).length
  ·have q0:(0:Int)≤k:=by omega
   have hw:IntKind.i64.wrap ((k:Int)+1)=((k+1:Nat):Int):=by rw[pZ _ (by omega) (by omega)];omega
   by_cases hr:Af (ol o) w.tagged.tag k
   ·have hd:decide ((gx bU (ol o) (k:Int)).tagged.tag=w.tagged.tag)=true:=decide_eq_true hr
    apply oT (.ret)
    ·simp only[Z8,seval,hI,aY,q0,k78,hd];rfl
    ·exact .inl ⟨rfl,k,by omega,hr,hj,by simp only[E8,seval]⟩
   ·have hd:decide ((gx bU (ol o) (k:Int)).tagged.tag=w.tagged.tag)=false:=decide_eq_false hr
    apply oN ((ol o).length-(k+1))
    ·simp only[Z8,seval,hI,aY,q0,k78,hd,hw];rfl
    ·exact⟨k+1,by simp only[E8,seval,hI],fun j h=>(Nat.lt_succ_iff_lt_or_eq.1 h).elim (hj j) fun e=>by subst e;exact hr,by omega,rfl⟩
  ·apply oT (.exit 0)
   ·simp only[Z8,seval,hI,aY];rfl
   ·exact .inr ⟨rfl,fun j h=>hj j (by omega)⟩
 case start=>exact⟨0,by simp only[E8,seval]<;>rfl,fun j h=>by omega,by omega,by omega⟩
 case rest =>
  rintro e st (⟨rfl,k,hk,hh,hj,h⟩|⟨rfl,hj⟩)
  ·have hv:Cn (Af (ol o) w.tagged.tag) (ol o).length=k:=Jz hh hj _ hk
   simp only[Z8,seval];exact⟨_,bS rfl (by simp only[E8,seval,h]<;>rfl) (by first|exact .v _|simp only[dU,h]),by rw[hv]⟩
  ·have hv:Cn (Af (ol o) w.tagged.tag) (ol o).length=-1:=tN _ hj
   simp only[Z8,seval];exact⟨_,bS rfl (by simp only[E8,seval]<;>rfl) (by first|exact .v _|simp only[dU]),by rw[hv]⟩
theorem aCG (t:State) (v:SV) (Q R:Option (List Request)) (d c:Nat):(O2 t v Q R d c).cY=rv d (c+nS v) Q:=rfl
theorem Te:Flat (.agg (aF iW)):=by simp only[dU,iW,gP,nH,Im,Bs,Nh,and_self]
theorem X4 {t:State} {v:SV} {Q R:Option (List Request)} (h:TD t v Q R) (q:AV):Sk t t.store q (ov aA R)={ t with cY:=q }:=by
 unfold Sk;rw[← h.ret]
theorem c26 {t:State} {v:SV} {Q R:Option (List Request)} (h:TD t v Q R) (gN:NEv v) (hB:v.B≠some []) (hL:v.L≠some []) (ht:0<v.ns.length) (hQ:Q≠some []) (hR:R≠some []) (w:fL):∃x,aC Tryz.prog 26 [.agg (aF t),.agg (bW w)]=some x ∧
 (((∀j:Nat,j<(ol Q).length→¬Af (ol Q) w.tagged.tag j)∧x=.eG [.agg (bN bU),.agg (aF iW),.v (.int .i64 23)]) ∨
  ∃k:Nat,k<(ol Q).length∧Af (ol Q) w.tagged.tag k∧(∀j:Nat,j<k→¬Af (ol Q) w.tagged.tag j)∧x=.eG [.agg (bN (gx bU (ol Q) (k:Int))),.agg (aF { t with cY:=ov aA (some ((ol Q).take k++(ol Q).drop (k+1)))}),.v (.int .i64 0)]):=by
 have kE:=h.fl
 have nQ1:((ol Q).length:Int)<1000000:=by have:=h.nQ;omega
 have Uw:=Te
 have q77:∀(args:List AV) (st:St) (d:Option Nat),aM (aC Tryz.prog) 77 args st d=sN (aC Tryz.prog) 77 (cM (args.map (fG st))) (decide (∀x∈args,Flat x)) st d:=fun args st d=>lN _ _ _ _ _
 have k77:∀(fl:Bool) (st:St) (d:Option Nat),sN (aC Tryz.prog) 77 (some [ov aA Q,.Da 78 [.ip (bW w) 0]]) fl st d=some { dst:=d,val:=.v (.int .i64 (Cn (Af (ol Q) w.tagged.tag) (ol Q).length))}:=fun fl st d=>Yl (c77 Q nQ1 w)
 have eV:∀(st:St) (o:Nat),Yk st (some (.cells (bW w))) o=some (.ip (bW w) o):=fun st o=>Nd st (gM w) o
 rw[cG Tryz.func26 rfl aMf (by kernel_rfl) rfl]
 rcases zS (Af (ol Q) w.tagged.tag) (ol Q).length with ⟨e,hj⟩|⟨k,hk,hh,hj,e⟩
 ·rw[e] at k77;simp only[ZG,seval,Bool.false_and,Prod.mk.injEq,aGk,h.Cp,q77,Jy,eV,k77];exact⟨_,by apply gO;rfl;all_goals simp only[aI,bT,Z8,seval,Uw]<;>rfl,.inl ⟨hj,rfl⟩⟩
 ·rw[e] at k77;have q0:¬(k:Int)<0:=by omega
  have q1:(0:Int)≤k:=by omega
  have q2:(k:Int)<((ol Q).length:Int):=by omega
  have hw:IntKind.i64.wrap ((k:Int)+1)=((k+1:Nat):Int):=by rw[pZ _ (by omega) (by omega)];omega
  cases Q with
  | none=>simp[ol] at hk
  | some L =>
    rw[Bz] at *
    have hd:=c81 L k (k+1) (by omega) (by omega) nQ1
    have km:∀s g d c,mvE (aC Tryz.prog) 81 [.v (.int .i64 k),.v (.int .i64 ((k+1:Nat):Int))] s g d c (some (.row 63 35 L.length (aA L)))=_:=fun s g d c=>OP (fJ L) (bG (.v _) (.v _)) hd
    have eq:=aGh v (some L) R L rfl
    have lt:nS v<(HF v (some L) R).length:=(List.getElem?_eq_some_iff.1 eq).1
    have key:∀(st:St) (g:Nat),(∀j,j<nS v→st.heap 18 (0+j)=(By v)[j]?)→st.heap 24 g=some (.row 63 35 (L.take k++L.drop (k+1)).length (aA (L.take k++L.drop (k+1))))→(∀l,R=some l→st.heap 18 (0+nR v (some L))=some (.row 63 35 l.length (aA l)))→fG st (.agg (aF { O2 t v (some L) R 18 0 with cY:=.own 24 g }))=some (.agg (aF { t with cY:=ov aA (some (L.take k++L.drop (k+1)))})):=fun st g h1 h2 h3=>by
     rw[← X4 h];exact WN h.sd h1 (iK h2) (nI h3 fun l _=>fJ l)
    simp only[ZG,seval,Bool.false_and,Prod.mk.injEq,aGk,h.Cp,q77,Jy,eV,k77,q0,q1,q2,hw,k80 h gN hB hL ht hQ hR,AE,NW,aCG,p9,eq,lt,km,Bz,Gy,Gx];refine⟨_,gO rfl (x1:=.agg (bN (gx bU L (k:Int)))) ?a1 (x2:=.agg (aF { O2 t v (some L) R 18 0 with cY:=.own 24 0 })) ?a2 (x3:=.v (.int .i64 0)) ?a3 (dM (.agg _ (gL _))) (key _ 0 ?b1 ?b2 ?b3) (dM (.v _)),.inr ⟨k,hk,hh,hj,rfl⟩⟩
    case a1=>simp only[bT,Z8,seval,NW]
    case a2=>simp only[bT,Z8,seval,NW]
    case a3=>simp only[bT,E8,seval,NW]
    case b1 =>
     intro j hj;have lj:j<(HF v (some L) R).length:=by omega
     have nj:(j=nS v)=False:=eq_false (by omega)
     rw[Nat.zero_add];simp only[E8,seval,NW,true_and,Nat.zero_le,Nat.sub_zero,Nat.zero_add,nj,lj,if_true,if_false,aGg v (some L) R j hj]
    case b2=>simp only[E8,seval,NW]
    case b3 =>
     intro l hl;have er:=aGi v (some L) R l hl
     have lj:nR v (some L)<(HF v (some L) R).length:=(List.getElem?_eq_some_iff.1 er).1
     have nj:(nR v (some L)=nS v)=False:=eq_false (by simp[nR,rl])
     rw[Nat.zero_add];simp only[E8,seval,NW,true_and,Nat.zero_le,Nat.sub_zero,Nat.zero_add,nj,lj,if_true,if_false,er]
theorem aMg:aE 4 77 (some 54)=[]:=rfl
theorem x42 {s:aN} {v:SV} (hs:SD s v):∃r,aC Tryz.prog 42 [.agg (aB s),.agg (aB s)]=some r∧r=.v (.bool true):=by
 have kE:=hs.flat
 rw[cG Tryz.func42 rfl aRy (by kernel_rfl) rfl]
 have kB:=aCg v.B hs.nB
 have kL:=aRl v.L hs.nL
 have kQ:=aEZ v.Q hs.nQ
 have kn:=aOv v.ns v.ns hs.nn
 have kT:=aRr v.T hs.nT hs.tB
 simp only[ZG,seval,Bool.false_and,Prod.mk.injEq,WO,aMg,hs.jO,hs.dT,hs.iB,hs.early,hs.bV,hs.tree,hs.tables,r7,beI,kB,kL,kQ,kn,kT,decide_true,Bool.not_true,qA,qB];refine mE (fun m st=>∃k:Nat,(st.env 2=.ptr 2 0 0∧st.heap 2 0=some (.cells (aB s))∧st.env 3=.ptr 3 0 0∧st.heap 3 0=some (.cells (aB s))∧st.env 7=.v (.int .i64 k))∧k≤(ol v.E).length∧m=(ol v.E).length-k)
  (fun e st=>e=.exit 0∧(st.env 2=.ptr 2 0 0∧st.heap 2 0=some (.cells (aB s))∧st.env 3=.ptr 3 0 0∧st.heap 3 0=some (.cells (aB s)))) (ol v.E).length ?step ?start ?rest
 case step =>
  rintro m st ⟨k,hI,hk,hm⟩
  have hn:=hs.nE
  by_cases aY:(k:Int)<(ol v.E).length
  ·have q0:(0:Int)≤k:=by omega
   have hw:IntKind.i64.wrap ((k:Int)+1)=((k+1:Nat):Int):=by rw[pZ _ (by omega) (by omega)];omega
   have kk:=aRn _ (hs.eV _ (vU (z:=Lo) q0 aY))
   apply Ga ((ol v.E).length-(k+1))
   ·simp only[ZG,seval,Bool.false_and,Prod.mk.injEq,WO,hs.early,hI,aY,q0,kk,r7,Bool.not_true,hw];rfl
   ·exact⟨k+1,by simp only[E8,seval,hI],by omega,rfl⟩
  ·apply MX (.exit 0)
   ·simp only[ZG,seval,Bool.false_and,Prod.mk.injEq,WO,hs.early,hI,aY];rfl
   ·exact⟨rfl,by simp only[E8,seval,hI]⟩
 case start=>exact⟨0,by simp only[E8,seval]<;>exact⟨rfl,rfl,rfl,rfl,rfl⟩,by omega,by omega⟩
 case rest =>
  rintro e st ⟨rfl,hI⟩
  simp only[ZG,seval,Bool.false_and,Prod.mk.injEq,WO,hI];refine mE (fun m st=>∃k:Nat,(st.env 2=.ptr 2 0 0∧st.heap 2 0=some (.cells (aB s))∧st.env 3=.ptr 3 0 0∧st.heap 3 0=some (.cells (aB s))∧st.env 8=.v (.int .i64 k))∧k≤(ol v.O).length∧m=(ol v.O).length-k)
   (fun e st=>e=.exit 2) (ol v.O).length ?R4 ?VT ?OK
  case R4 =>
   rintro m st ⟨k,hI,hk,hm⟩
   have hn:=hs.nO
   by_cases aY:(k:Int)<(ol v.O).length
   ·have q0:(0:Int)≤k:=by omega
    have hw:IntKind.i64.wrap ((k:Int)+1)=((k+1:Nat):Int):=by rw[pZ _ (by omega) (by omega)];omega
    apply Ga ((ol v.O).length-(k+1))
    ·simp only[ZG,seval,Bool.false_and,Prod.mk.injEq,WO,hs.bV,hI,aY,q0,r7,decide_true,Bool.not_true,hw];rfl
    ·exact⟨k+1,by simp only[E8,seval,hI],by omega,rfl⟩
   ·apply MX (.exit 2)
    ·simp only[ZG,seval,Bool.false_and,Prod.mk.injEq,WO,hs.bV,hI,aY];rfl
    ·exact rfl
  case VT=>exact⟨0,by simp only[E8,seval,hI]<;>exact⟨rfl,rfl,rfl,rfl,rfl⟩,by omega,by omega⟩
  case OK =>
   rintro e st rfl
   simp only[ZG,seval,Bool.false_and,Prod.mk.injEq,WO];exact⟨_,bS rfl (by simp only[E8,seval]<;>rfl) (by first|exact .v _|simp only[dU]),rfl⟩
theorem k42 {s:aN} {v:SV} (hs:SD s v) (st:St) (d:Option Nat):aM (aC Tryz.prog) 42 [.agg (aB s),.agg (aB s)] st d=some { dst:=d,val:=.v (.bool true)}:=by
 obtain⟨r,h,e⟩:=x42 hs
 subst e;exact bI (bG hs.flat hs.flat) h (.v _)
end Go.Ab.Tryz
namespace Go.Ab.Tryz
open Classical Go.Proofs Go.Ab
open Classical Go.Proofs Go.Ab
open Classical Go.Proofs Go.Ab
end Go.Ab.Tryz
namespace Go.Ab.Tryz
open Classical Go.Proofs Go.Ab
theorem beB (x:Bool):(x == x)=true:=by simp
theorem TI.lists {t:State} {v:SV} {Q R:Option (List Request)} {q m:Int} (T:TI t v Q R q m):v.B≠some []∧∃L,v.L=some L∧L≠[]:=by
 have h1:=T.toTI0.jO.1
 have h2:=T.gi.OI
 constructor
 ·intro h;rw[h] at h1;exact absurd h1 (by simp[ol])
 ·cases h:v.L with
  | none=>rw[h] at h2;simp only[ol,Option.getD_none,List.length_nil] at h2;simp only[ol] at h1;omega
  | some L =>
    refine⟨L,rfl,fun e=>?_⟩
    rw[h,e] at h2;simp only[ol,Option.getD_some,List.length_nil] at h2;simp only[ol] at h1;omega
end Go.Ab.Tryz
