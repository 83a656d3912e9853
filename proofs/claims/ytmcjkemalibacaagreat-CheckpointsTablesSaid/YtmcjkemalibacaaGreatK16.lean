/-
  Part 16 of the proof: an evaluator of programs, its soundness, and what functions of this program compute.
-/
import Derived.Test.YtmcjkemalibacaaGreatK14
import Derived.Test.YtmcjkemalibacaaGreatK15
import Derived.Test.YtmcjkemalibacaaGreatK13
import Derived.Test.YtmcjkemalibacaaGreatK12
import Derived.Test.YtmcjkemalibacaaGreatK11
import Derived.Test.YtmcjkemalibacaaGreatK10
import Derived.Test.YtmcjkemalibacaaGreatK18
set_option linter.all false
set_option maxRecDepth 20000
set_option maxHeartbeats 40000000
namespace Go.Ab.Tryz
open Classical Go.Proofs Go.Ab
def aRP (s:aL) (v:SV) (q:Int) (r:AV):Prop:=∃(s':aL) (R:Option (List cJ)) (e:Int),r=.eE [.agg (aA s'),ov gY R,.v (.int .i64 e)]∧Flat (.agg (aA s'))∧((ol R).length:Int)≤70∧e≠21∧(e=0→∃v',GI s' v' q∧RG s' v'∧s'.cFg=s.cFg)
theorem aRQ {s:aL} {v:SV} {q:Int} (h:GI s v q) (r:RG s v) (b:Block) (rb:RB b∧Pr b.root):∃r,aB Tryz.prog 203 [.agg (aA s),.agg (aV b)]=some r∧aRP s v q r:=by
 have hf:=h.sd.flat
 have pH:=h.sd.fl
 have hz:=Jb
 have UY:=k52 h.sd h.up h.sp
 have nO:=h.nO
 have MI:=h.MI
 have nn':=h.sd.nO
 rw[cL Tryz.func203 rfl aMw rfl];by_cases g1:Kg s v b=10
 ·by_cases g2:s.cFg.lG.wQ≤((ol v.O).length:Int)
  ·simp only[Z8,seval,UY,bt g1,h.sd.bK,g2];exact⟨_,by apply fM;rfl;all_goals simp only[aH,bY,Z8,seval,hz]<;>rfl,fZ,none,11,rfl,hz,by simp[ol],by decide,fun h=>by cases h⟩
  ·have hw:=h.UG (some (ol v.O++[{ b with Eo:=false }])) (by show (((ol v.O++[{ b with Eo:=false }]).length:Nat):Int)≤s.cFg.lG.wQ;rw[List.length_append,List.length_cons,List.length_nil];omega)
   have hwr:=r.UG (some (ol v.O++[{ b with Eo:=false }])) (ov aF (some (ol v.O++[{ b with Eo:=false }]))) (fun c hc=>(List.mem_append.1 hc).elim (r.or c) fun e=>by rw[List.mem_singleton] at e;subst e;exact⟨⟨rb.1.sl,rb.1.j,rb.1.f,rb.1.pj,rb.1.pf⟩,rb.2⟩) (by simp)
   simp only[Z8,seval,UY,bt g1,h.sd.bK,g2,iV _ nn',EU _ _ _ _ nn'];exact⟨_,by apply fM;rfl;all_goals simp only[aH,bY,Z8,seval,bQ,gG,bP,uG,cV,dV,pH]<;>rfl,_,none,0,rfl,hw.sd.flat,by simp[ol],by decide,fun _=>⟨_,hw,hwr,rfl⟩⟩
 by_cases g2:Kg s v b=0
 case neg =>
  simp only[Z8,seval,UY,bf g1,bf g2];exact⟨_,by apply fM;rfl;all_goals simp only[aH,bY,Z8,seval,hz]<;>rfl,fZ,none,_,rfl,hz,by simp[ol],aGj _ _ _,fun h=>absurd h g2⟩
 have ZT:=aMl h g2
 have aCI:=h.ins g2
 have aCJ:=r.ins rb g2
 have hcf:=Bh s v b
 have hO1:=UI s v b
 cases g3:b.Eo
 · -- not timely
  have hG:GI (sV s v b) (lH s v b) q:=aCI
  have oL:RG (sV s v b) (lH s v b):=aCJ
  have hC:((sV s v b)).cFg=s.cFg:=hcf.1
  have pS:=MF hG.sd
  simp only[Z8,seval,UY,bf g1,bt g2,ZT,g3,pS];refine Oa (a:=Bk) (D4 s v q) (GZ (by omega) (m:=(ol (lH s v b).O).length) ⟨(sV s v b),lH s v b,_,[b.root],66,0, ?start,.inl ⟨rfl,rfl⟩,.inl rfl,hG,oL,hC,by simp;omega,rfl⟩) ?rest
  case start =>
   rw[sX hG.sd];simp only[E8,seval,gY,List.flatMap_cons,List.flatMap_nil,List.append_nil]<;>rfl
  case rest =>
   rintro e st ⟨rfl,S0,w,X,R,a,g,hI,ha,hX,hG,oL,hC,hR⟩
   have U3:(a=4)=False:=eq_false ha
   have aGN:=hG.sd.fl
   have hfo:=hG.sd.bK
   rcases hX with rfl|⟨g',L,hL,rfl,KR⟩
   ·rw[sX hG.sd] at hI;have Sz:=hG.sd.flat
    simp only[Z8,seval,hI];exact⟨_,by apply fM;rfl;all_goals simp only[aH,bY,Z8,seval,hI,U3,Sz,wE]<;>rfl,S0,some R,0,rfl,Sz,by simp only[ol,Option.getD_some];omega,by decide,fun _=>⟨w,hG,oL,hC⟩⟩
   ·have hex:=fun st' hh=>zM (O:=L) (a:=91) (g:=g') hG.sd st' hh
    have NM:mR S0 (ov aF (some L))=S0:=by rw[← hL];exact sX hG.sd
    rw[NM] at hex;simp only[Z8,seval,hI];exact⟨_,by apply fM;rfl;all_goals simp only[aH,bY,Z8,seval,hI,U3,KR,hex,wE]<;>rfl,S0,some R,0,rfl,hG.sd.flat,by simp only[ol,Option.getD_some];omega,by decide,fun _=>⟨w,hG,oL,hC⟩⟩
 by_cases g4:b.slot=s.now
 case neg =>
  have hG:GI (sV s v b) (lH s v b) q:=aCI
  have oL:RG (sV s v b) (lH s v b):=aCJ
  have hC:((sV s v b)).cFg=s.cFg:=hcf.1
  have pS:=MF hG.sd
  simp only[Z8,seval,UY,bf g1,bt g2,ZT,g3,bf g4,pS];refine Oa (a:=Bk) (D4 s v q) (GZ (by omega) (m:=(ol (lH s v b).O).length) ⟨(sV s v b),lH s v b,_,[b.root],66,0, ?start,.inl ⟨rfl,rfl⟩,.inl rfl,hG,oL,hC,by simp;omega,rfl⟩) ?rest
  case start =>
   rw[sX hG.sd];simp only[E8,seval,gY,List.flatMap_cons,List.flatMap_nil,List.append_nil]<;>rfl
  case rest =>
   rintro e st ⟨rfl,S0,w,X,R,a,g,hI,ha,hX,hG,oL,hC,hR⟩
   have U3:(a=4)=False:=eq_false ha
   have aGN:=hG.sd.fl
   have hfo:=hG.sd.bK
   rcases hX with rfl|⟨g',L,hL,rfl,KR⟩
   ·rw[sX hG.sd] at hI;have Sz:=hG.sd.flat
    simp only[Z8,seval,hI];exact⟨_,by apply fM;rfl;all_goals simp only[aH,bY,Z8,seval,hI,U3,Sz,wE]<;>rfl,S0,some R,0,rfl,Sz,by simp only[ol,Option.getD_some];omega,by decide,fun _=>⟨w,hG,oL,hC⟩⟩
   ·have hex:=fun st' hh=>zM (O:=L) (a:=91) (g:=g') hG.sd st' hh
    have NM:mR S0 (ov aF (some L))=S0:=by rw[← hL];exact sX hG.sd
    rw[NM] at hex;simp only[Z8,seval,hI];exact⟨_,by apply fM;rfl;all_goals simp only[aH,bY,Z8,seval,hI,U3,KR,hex,wE]<;>rfl,S0,some R,0,rfl,hG.sd.flat,by simp only[ol,Option.getD_some];omega,by decide,fun _=>⟨w,hG,oL,hC⟩⟩
 by_cases g5:s.eR=dR
 case neg =>
  have hG:GI (sV s v b) (lH s v b) q:=aCI
  have oL:RG (sV s v b) (lH s v b):=aCJ
  have hC:((sV s v b)).cFg=s.cFg:=hcf.1
  have pS:=MF hG.sd
  simp only[Z8,seval,UY,bf g1,bt g2,ZT,g3,bt g4,g5,pS];refine Oa (a:=Bk) (D4 s v q) (GZ (by omega) (m:=(ol (lH s v b).O).length) ⟨(sV s v b),lH s v b,_,[b.root],66,0, ?start,.inl ⟨rfl,rfl⟩,.inl rfl,hG,oL,hC,by simp;omega,rfl⟩) ?rest
  case start =>
   rw[sX hG.sd];simp only[E8,seval,gY,List.flatMap_cons,List.flatMap_nil,List.append_nil]<;>rfl
  case rest =>
   rintro e st ⟨rfl,S0,w,X,R,a,g,hI,ha,hX,hG,oL,hC,hR⟩
   have U3:(a=4)=False:=eq_false ha
   have aGN:=hG.sd.fl
   have hfo:=hG.sd.bK
   rcases hX with rfl|⟨g',L,hL,rfl,KR⟩
   ·rw[sX hG.sd] at hI;have Sz:=hG.sd.flat
    simp only[Z8,seval,hI];exact⟨_,by apply fM;rfl;all_goals simp only[aH,bY,Z8,seval,hI,U3,Sz,wE]<;>rfl,S0,some R,0,rfl,Sz,by simp only[ol,Option.getD_some];omega,by decide,fun _=>⟨w,hG,oL,hC⟩⟩
   ·have hex:=fun st' hh=>zM (O:=L) (a:=91) (g:=g') hG.sd st' hh
    have NM:mR S0 (ov aF (some L))=S0:=by rw[← hL];exact sX hG.sd
    rw[NM] at hex;simp only[Z8,seval,hI];exact⟨_,by apply fM;rfl;all_goals simp only[aH,bY,Z8,seval,hI,U3,KR,hex,wE]<;>rfl,S0,some R,0,rfl,hG.sd.flat,by simp only[ol,Option.getD_some];omega,by decide,fun _=>⟨w,hG,oL,hC⟩⟩
 have hG:GI { sV s v b with eR:=b.root } (lH s v b) q:=aCI.eR b.root
 have oL:RG { sV s v b with eR:=b.root } (lH s v b):=aCJ.eR b.root
 have hC:({ sV s v b with eR:=b.root }).cFg=s.cFg:=hcf.1
 have pS:=MF hG.sd
 simp only[Z8,seval,UY,bf g1,bt g2,ZT,g3,bt g4,g5,pS];refine Oa (a:=Bk) (D4 s v q) (GZ (by omega) (m:=(ol (lH s v b).O).length) ⟨{ sV s v b with eR:=b.root },lH s v b,_,[b.root],66,0, ?start,.inl ⟨rfl,rfl⟩,.inl rfl,hG,oL,hC,by simp;omega,rfl⟩) ?rest
 case start =>
  rw[sX hG.sd];simp only[E8,seval,gY,List.flatMap_cons,List.flatMap_nil,List.append_nil]<;>rfl
 case rest =>
  rintro e st ⟨rfl,S0,w,X,R,a,g,hI,ha,hX,hG,oL,hC,hR⟩
  have U3:(a=4)=False:=eq_false ha
  have aGN:=hG.sd.fl
  have hfo:=hG.sd.bK
  rcases hX with rfl|⟨g',L,hL,rfl,KR⟩
  ·rw[sX hG.sd] at hI;have Sz:=hG.sd.flat
   simp only[Z8,seval,hI];exact⟨_,by apply fM;rfl;all_goals simp only[aH,bY,Z8,seval,hI,U3,Sz,wE]<;>rfl,S0,some R,0,rfl,Sz,by simp only[ol,Option.getD_some];omega,by decide,fun _=>⟨w,hG,oL,hC⟩⟩
  ·have hex:=fun st' hh=>zM (O:=L) (a:=91) (g:=g') hG.sd st' hh
   have NM:mR S0 (ov aF (some L))=S0:=by rw[← hL];exact sX hG.sd
   rw[NM] at hex;simp only[Z8,seval,hI];exact⟨_,by apply fM;rfl;all_goals simp only[aH,bY,Z8,seval,hI,U3,KR,hex,wE]<;>rfl,S0,some R,0,rfl,hG.sd.flat,by simp only[ol,Option.getD_some];omega,by decide,fun _=>⟨w,hG,oL,hC⟩⟩
def PfR (q m:Int) (r:AV):Prop:=∃(t':State) (e:Int),r=.eE [.agg (aP t'),.v (.int .i64 e)]∧Flat (.agg (aP t'))∧(e=0∨e=21→∃v' Q' R',TI t' v' Q' R' (q+1000) (m+256))
theorem NN {t:State} (h:Flat (.agg (aP t))) {s':aL} (hs:Flat (.agg (aA s'))):Flat (.agg (aP { t with store:=s' })):=by
 obtain⟨_,_,_,_,_,_,_,h8,h9⟩:=(tZ t).1 h
 obtain⟨h1,h2,h3,h4,h5,h6,h7⟩:=(wP s').1 hs
 exact (tZ _).2 ⟨h1,h2,h3,h4,h5,h6,h7,h8,h9⟩
theorem aRR {t:State} {v:SV} {Q R:Option (List Request)} {q m:Int} (h:TI t v Q R q m) (x:xI) (hx:pI x) (hp:x.kind=2→Pr x.block.root) (hq:q+1000≤900000) (hm:m+256≤100000) :
 ∃r,aB Tryz.prog 185 [.agg (aP t),.agg (kZ x)]=some r∧PfR q m r:=by
 have hf:=h.td.flat
 have YP:=h.gi.sd.flat
 have SN:=hx.flat
 have aCK:=hx.fl
 have up:∀ {t':State} {v':SV} {Q' R':Option (List Request)} {q' m':Int},TI t' v' Q' R' q' m'→q'≤q+1000→m'≤m+256→∃v' Q' R',TI t' v' Q' R' (q+1000) (m+256):=fun g a b=>⟨_,_,_,g.mono a hq b hm⟩
 have nt:=h.nt
 have mB:=h.mB
 have lq:=h.lq
 have lr:=h.lr
 have rB:=h.aCH
 rw[cL Tryz.func185 rfl aMx rfl];by_cases k1:x.kind=1
 ·obtain⟨y,hy,s',e,rfl,SR,ne,ho⟩:=aRv h.gi h.rg
  have k202:=kx hy (cU YP) (.eE _ (bE SR (.v _)))
  have ft:=NN hf SR
  by_cases e0:e=0
  ·obtain⟨v',g,r,c⟩:=ho e0
   have T0:=h.toTI0.store g r c
   have T1:=T0.drop
   have T2:=T1.due hm
   have k36:=kx (c36 T0.td) (cU ft) T1.td.flat
   have k74:=kx (c74 T1.td (by have:=T1.lq;have:=T1.lr;have:=T1.aCH;omega)) (cU T1.td.flat) T2.td.flat
   have ft2:=T2.td.flat
   simp only[Z8,seval,bt k1,k202,dM,bt e0,k36,k74];exact⟨_,by apply dK;rfl;all_goals simp only[aH,bY,Z8,seval,ft2]<;>rfl,_,e,rfl,ft2,fun _=>up T2 (by omega) (by omega)⟩
  ·simp only[Z8,seval,bt k1,k202,dM,bf e0];exact⟨_,by apply dK;rfl;all_goals simp only[aH,bY,Z8,seval,ft]<;>rfl,_,e,rfl,ft,fun h=>absurd h (by omega)⟩
 by_cases k2:x.kind=2
 ·obtain⟨y,hy,s',L,e,rfl,SR,nL,ne,ho⟩:=aRQ h.gi h.rg x.block ⟨hx.rb,hp k2⟩
  have k203:=kx hy (bE YP (tF _)) (.eE _ (mD SR (Hf L) (.v _)))
  have ft:=NN hf SR
  by_cases e0:e=0
  ·obtain⟨v',g,r,c⟩:=ho e0
   have T0:=h.toTI0.store g r c
   have T1:=T0.drop
   have T2:=T1.open (ol L) (by omega) hm
   have k36:=kx (c36 T0.td) (cU ft) T1.td.flat
   have k32:∀(st:St) (d:Option Nat),fF (aB Tryz.prog) 32 _ st d=_:=fun st d=>Hg (bE T1.td.flat (Hf L)) (c32 T1.td L (by have:=T1.lq;omega)) T2.td.flat
   have ft2:=T2.td.flat
   simp only[Z8,seval,bf k1,bt k2,k203,dM,bt e0,k36,k32];exact⟨_,by apply dK;rfl;all_goals simp only[aH,bY,Z8,seval,ft2]<;>rfl,_,e,rfl,ft2,fun _=>up T2 (by omega) (by omega)⟩
  ·simp only[Z8,seval,bf k1,bt k2,k203,dM,bf e0];exact⟨_,by apply dK;rfl;all_goals simp only[aH,bY,Z8,seval,ft]<;>rfl,_,e,rfl,ft,fun h=>absurd h (by omega)⟩
 by_cases k3:x.kind=3
 ·obtain⟨V,hV,nV⟩:=hx.Ga
  obtain⟨y,hy,s',e,rfl,SR,ne,ho⟩:=aQI h.gi h.rg x.Ga V hV (by omega)
  have k204:=kx hy (bE YP ((zJ _).2 aCK.1)) (.eE _ (bE SR (.v _)))
  have ft:=NN hf SR
  have fin:e=0∨e=21→∃v' Q' R',TI { t with store:=s' } v' Q' R' (q+1000) (m+256):=fun he=>by
   obtain⟨v',g,r,c,en⟩:=ho (by omega)
   exact up ⟨h.toTI0.store g r c,by rw[en];exact h.M1,by rw[en];exact h.M3⟩ (by omega) (by omega)
  simp only[Z8,seval,bf k1,bf k2,bt k3,k204,dM];exact⟨_,by apply dK;rfl;all_goals simp only[aH,bY,Z8,seval,ft]<;>rfl,_,e,rfl,ft,fin⟩
 by_cases k4:x.kind=4
 ·obtain⟨V,hV,nV⟩:=hx.c1
  obtain⟨W,hW,nW⟩:=hx.c2
  obtain⟨y,hy,s',e,rfl,SR,ne,ho⟩:=aQH h.gi h.rg x.oV V W hV hW nV nW hq
  have k205:=kx hy (bE YP ((mX _).2 ⟨aCK.2.1,aCK.2.2.1⟩)) (.eE _ (bE SR (.v _)))
  have ft:=NN hf SR
  have fin:e=0∨e=21→∃v' Q' R',TI { t with store:=s' } v' Q' R' (q+1000) (m+256):=fun he=>by
   obtain⟨v',g,r,c,en⟩:=ho (by omega)
   exact up ⟨h.toTI0.store g r c,by rw[en];exact h.M1,by rw[en];exact h.M3⟩ (by omega) (by omega)
  simp only[Z8,seval,bf k1,bf k2,bf k3,bt k4,k205,dM];exact⟨_,by apply dK;rfl;all_goals simp only[aH,bY,Z8,seval,ft]<;>rfl,_,e,rfl,ft,fin⟩
 by_cases k5:x.kind=5
 ·have nT:=h.gi.nT
  have SP:=h.gi.SP
  obtain⟨y,hy,s',e,rfl,SR,ne,ho⟩:=aKZ h.gi.sd (by omega) x.table hx.S4
  have aCL:=kx hy (bE YP ((iE _).2 aCK.2.2.2)) (.eE _ (bE SR (.v _)))
  have ft:=NN hf SR
  have fin:e=0∨e=21→∃v' Q' R',TI { t with store:=s' } v' Q' R' (q+1000) (m+256):=fun he=>by
   obtain⟨o',rfl,nl,tb,sub,ne1,ne2⟩:=ho (by omega)
   have g:GI { t.store with tables:=ov aI o' } { v with T:=o' } q :=
    ⟨⟨h.gi.sd.iP,h.gi.sd.eA,h.gi.sd.gW,h.gi.sd.early,h.gi.sd.bK,h.gi.sd.tree,rfl,h.gi.sd.eV,tb,h.gi.sd.nB,h.gi.sd.nL,h.gi.sd.nQ,h.gi.sd.nE,h.gi.sd.nO,by show ((ol o').length:Int)<_;omega,h.gi.sd.nn⟩,h.gi.up,h.gi.DT,h.gi.pos,h.gi.nl,h.gi.UE,h.gi.kE,h.gi.MH,h.gi.nB,h.gi.nO,h.gi.MI,h.gi.nE,h.gi.SO,by show ((ol o').length:Int)≤t.store.cFg.lG.qC;omega,h.gi.SP,h.gi.nQ,h.gi.P1,h.gi.gJ⟩
   have r:RG { t.store with tables:=ov aI o' } { v with T:=o' }:=⟨h.rg.now,h.rg.j,h.rg.f,h.rg.nd,h.rg.or,h.rg.rt,h.rg.fe,h.rg.ds,by obtain⟨tb,h1,h2⟩:=h.rg.tb;exact⟨tb,sub h1,h2⟩,⟨h.rg.ne.q,h.rg.ne.e,h.rg.ne.o,ne1,h.rg.ne.ea,fun x hx=>(ne2 x hx).elim (h.rg.ne.tb x) fun ⟨B,h1,h2⟩=>⟨B,h1,fun e=>by have h3:=h.iP.1;rw[e] at h2;simp at h2;omega⟩⟩⟩
   exact up ⟨h.toTI0.store g r rfl,h.M1,h.M3⟩ (by omega) (by omega)
  simp only[Z8,seval,bf k1,bf k2,bf k3,bf k4,bt k5,aCL,dM];exact⟨_,by apply dK;rfl;all_goals simp only[aH,bY,Z8,seval,ft]<;>rfl,_,e,rfl,ft,fin⟩
 by_cases k6:x.kind=6
 ·obtain⟨y,hy,t',e,v',Q',R',rfl,g⟩:=aRN h x.verdict
  have k206:=kx hy (bE hf (.agg _ (jP _))) (.eE _ (bE g.td.flat (.v _)))
  have ft:=g.td.flat
  simp only[Z8,seval,bf k1,bf k2,bf k3,bf k4,bf k5,bt k6,k206,dM];exact⟨_,by apply dK;rfl;all_goals simp only[aH,bY,Z8,seval,ft]<;>rfl,_,e,rfl,ft,fun _=>up g (by omega) (by omega)⟩
 simp only[Z8,seval,bf k1,bf k2,bf k3,bf k4,bf k5,bf k6];exact⟨_,by apply dK;rfl;all_goals simp only[aH,bY,Z8,seval,hf]<;>rfl,t,2,rfl,hf,fun h=>absurd h (by omega)⟩
theorem aRT {t:State} {v:SV} {Q R:Option (List Request)} {q m:Int} (h:TI t v Q R q m) (x:xI) (hx:pI x) (hp:x.kind=2→Pr x.block.root) (hq:q+1000≤900000) (hm:m+256≤100000) :
 ∃r,aB Tryz.prog 147 [.agg (aP t),.agg (kZ x)]=some r∧∃(t':State) (y:AV) (e:Int) (v':SV) (Q' R':Option (List Request)),r=.eE [.agg (aP t'),y,.v (.int .i64 e)]∧Flat y∧TI t' v' Q' R' (q+1000) (m+256):=by
 have hf:=h.td.flat
 have SN:=hx.flat
 have h':=h.mono (q':=q+1000) (m':=m+256) (by omega) hq (by omega) hm
 obtain⟨y1,hy1,e1,rfl⟩:=aQ2 x hx
 have aCM:=kx hy1 (cU SN) (.v _)
 obtain⟨y2,hy2,t2,e2,rfl,ft2,ho⟩:=aRR h x hx hp hq hm
 have aGP:=kx hy2 (bE hf SN) (.eE _ (bE ft2 (.v _)))
 rw[cL Tryz.func147 rfl aMy rfl];cases g0:t.halted
 case true =>
  simp only[Z8,seval,g0];exact⟨_,by apply fM;rfl;all_goals simp only[aH,bY,Z8,seval,hf]<;>rfl,t,_,22,v,Q,R,rfl,.v _,h'⟩
 by_cases g1:e1=0
 case neg =>
  simp only[Z8,seval,g0,aCM,bf g1];exact⟨_,by apply fM;rfl;all_goals simp only[aH,bY,Z8,seval,hf]<;>rfl,t,_,e1,v,Q,R,rfl,.v _,h'⟩
 by_cases g2:e2=21
 ·obtain⟨v',Q',R',T⟩:=ho (.inr g2)
  simp only[Z8,seval,g0,aCM,bt g1,aGP,dM,bt g2];exact⟨_,by apply fM;rfl;all_goals simp only[aH,bY,Z8,seval,ft2]<;>rfl,t2,_,e2,v',Q',R',rfl,.v _,T⟩
 by_cases g3:e2=0
 case neg =>
  simp only[Z8,seval,g0,aCM,bt g1,aGP,dM,bf g2,bf g3];exact⟨_,by apply fM;rfl;all_goals simp only[aH,bY,Z8,seval,hf]<;>rfl,t,_,e2,v,Q,R,rfl,.v _,h'⟩
 obtain⟨v',Q',R',T⟩:=ho (.inl g3)
 obtain⟨y3,hy3,b,c,y,rfl,fy⟩:=aLH t2 ft2 T.gi
 have T':=T.emit b c
 have ft3:=T'.td.flat
 have aGQ:=kx hy3 (cU ft2) (.eE _ (bE ft3 fy))
 simp only[Z8,seval,g0,aCM,bt g1,aGP,dM,bf g2,bt g3,aGQ];exact⟨_,fM rfl (by simp only[bY,Z8,seval]<;>rfl) (by simp only[bY,Z8,seval]<;>rfl) (by simp only[bY,E8,seval]<;>rfl) (eB ft3) (eB fy) (eB (.v _)),_,y,0,v',Q',R',rfl,fy,T'⟩
theorem wY (n:Int):(mkRoot n)[0]=IntKind.u8.wrap n:=by
 simp[mkRoot]
theorem Hl {n:Int} (h0:0≤n) (h1:n<256):IntKind.u8.wrap n=n:=by
 simp only[IntKind.wrap,IntKind.bits,IntKind.signed];simp
 omega
theorem aFq {n:Int} (h0:1≤n) (h1:n≤98):Pr (mkRoot n):=by
 refine⟨fun e=>?_,fun e=>?_⟩
 ·have e1:IntKind.u8.wrap n=dR[0]:=by rw[← wY,e]
  rw[Hl (by omega) (by omega),show dR[0]=0 from rfl] at e1
  omega
 ·have e1:IntKind.u8.wrap n=IntKind.u8.wrap 99:=by rw[← wY,← wY,e]
  rw[Hl (by omega) (by omega),Hl (by omega) (by omega)] at e1
  omega
theorem RG.new {c:Config} {b:List Int} (h:Hh c b):RG (yE c b) (An c b):=by
 have hg:Pr c.cW:=by rw[h.gen];exact aFq (by omega) (by omega)
 have z:Rg 0:=ZO
 refine⟨⟨by show (0:Int)≤0;omega,by show (0:Int)≤_;omega⟩,z,z,fun n hn=>?_,(fun o ho=>by cases ho),fun n hn=>?_,⟨by show (0:Int)≤0;omega, ?_⟩, ?_, ?_, ?_⟩
 ·rw[show n=⟨MQ c,-1,1⟩ from List.mem_singleton.1 hn];exact⟨⟨z,z,z,z,z⟩,by show (0:Int)≤0;omega⟩
 ·rw[show n=⟨MQ c,-1,1⟩ from List.mem_singleton.1 hn];exact hg
 ·show (0:Int)≤IntKind.u64.wrap (Int.tdiv 0 c.kE)
  rw[Int.zero_tdiv];decide
 ·show ([c.cW]:List cJ).Nodup
  simp
 ·exact⟨⟨⟨0,c.cW⟩,ov bJ (some b)⟩,List.mem_singleton.2 rfl,rfl⟩
 ·exact⟨nofun,nofun,nofun,by simp[An],(fun a ha=>by cases ha),fun t ht=>⟨b,by rw[show t=⟨⟨0,c.cW⟩,ov bJ (some b)⟩ from List.mem_singleton.1 ht],fun e=>by have:=h.nb.1;rw[e] at this;simp at this⟩⟩
def U4 (c:Config) (b:List Int):State:={ lW with store:=yE c b,cZ:=1 }
theorem TI.new {c:Config} {b:List Int} (h:Hh c b):TI (U4 c b) (An c b) none none 0 0:=by
 have g:=GI.new h
 have r:=RG.new h
 have hr:=h.oI
 exact⟨⟨⟨g.sd,rfl,rfl,by show ((0:Nat):Int)<_;omega,by show ((0:Nat):Int)<_;omega⟩,g,r,⟨b,h⟩,⟨by show (1:Int)≤1;omega,(fun r hr=>by cases hr),List.Pairwise.nil⟩,⟨(fun r hr=>by cases hr),List.Pairwise.nil⟩,by show (1:Int)≤1+0;omega,by show ((0:Nat):Int)≤0;omega,by show ((0:Nat):Int)≤c.lG.oI;omega,by omega,nofun,nofun⟩,(fun r hr=>by cases hr),(fun r hr=>by cases hr)⟩
theorem aRU {c:Config} {b:List Int} (h:Hh c b):∃r,aB Tryz.prog 144 [.agg (bV c)]=some r∧∃(Li:Bool) (last:Command) (y:AV),r=.eE [.agg (aP { U4 c b with Li:=Li,last:=last }),y,.v (.int .i64 0)]∧Flat y:=by
 have T:=TI.new h
 have fc:Flat (.agg (bV c)):=(yO c).2 (by rw[h.iP];exact dU _)
 have fs:=T.gi.sd.flat
 have aGR:=kx (aLL h) (cU fc) (.eE _ (bE fs (.v _)))
 obtain⟨y3,hy3,s,l,y,rfl,fy⟩:=aLH (U4 c b) T.td.flat T.gi
 have ft3:=(T.emit s l).td.flat
 have aGQ:=kx hy3 (cU T.td.flat) (.eE _ (bE ft3 fy))
 have eb:({ lW with store:=yE c b,cZ:=1 }:State)=U4 c b:=rfl
 rw[cL Tryz.func144 rfl aMB rfl];simp only[Z8,seval,aGR,dM,eb,aGQ];exact⟨_,fM rfl (by simp only[bY,Z8,seval]<;>rfl) (by simp only[bY,Z8,seval]<;>rfl) (by simp only[bY,E8,seval]<;>rfl) (eB ft3) (eB fy) (eB (.v _)),s,l,y,rfl,fy⟩
def Lr (l:List xI):List AV:=l.flatMap kZ
theorem U5 (x:xI):yF 190 446 720 (some (1,kZ x))=some (none,.row 190 446 [x].length (Lr [x])):=by simp[yF,maxLen,Lr]
theorem U6 (l:List xI) (x:xI) (s g:Nat) (h:(l.length:Int)<1000000):xV 190 446 720 (some (.row 190 446 l.length (Lr l))) s g (some (1,kZ x))=some (some (s,g),.row 190 446 (l++[x]).length (Lr (l++[x]))):=by
 simp only[xV];rw[if_pos ⟨by simp,trivial,trivial,by omega,by simp only[maxLen];omega⟩]
 simp[Lr,List.flatMap_append]
theorem Ra (l:List xI) (h:∀y∈l,pI y):∀x∈Lr l,Flat x:=by
 intro x hx;obtain⟨y,hm,hy⟩:=List.mem_flatMap.1 hx
 have hf:=(h y hm).flat
 cases hf with
 | agg _ hc=>exact hc x hy
theorem aFr (n:Nat) (l:List xI) (h:∀y∈l,pI y):jG (some (.row 190 446 n (Lr l)))=some (.sl n (Lr l)):=by
 unfold jG;simp only;rw[if_pos (Ra l h)]
theorem x75 (l:List Int) (hl:(l.length:Int)≤9223372036854775807):∃r,aB Tryz.prog 75 [.sl l.length (aK l)]=some r∧∃(c:Config) (X:AV) (t:State) (v:SV) (Q R:Option (List Request)),r=.eE [.agg (bV c),X,.agg (aP t)]∧Flat (.agg (bV c))∧Flat X∧TI t v Q R 24000 6144:=by
 obtain⟨y1,hy1,c,b,rfl,hc⟩:=aRF l hl
 have fc:Flat (.agg (bV c)):=(yO c).2 (by rw[hc.iP];exact dU _)
 have aCN:∀(st:St) (d:Option Nat),fF (aB Tryz.prog) 101 _ st d=_:=fun st d=>Hg (cU (Kx l)) hy1 fc
 obtain⟨y2,hy2,Li,last,y,rfl,fy⟩:=aRU hc
 have T0:=(TI.new hc).emit Li last
 have k144:=kx hy2 (cU fc) (.eE _ (mD T0.td.flat fy (.v _)))
 have k16:=Nc l hl 16 (by omega) (by omega)
 have k17:=Nc l hl 17 (by omega) (by omega)
 have n0:=(Gt l hl 16 (by omega) (by omega)).2.1
 obtain⟨n1,n2⟩:=cP (n:=25) n0 (by omega)
 obtain⟨N,hN⟩:∃N,(Jo l 16).tmod 25=N:=⟨_,rfl⟩
 rw[hN] at n1 n2;rw[cG Tryz.func75 rfl aRV (by kernel_rfl) rfl]
 have body:∀(M:Int),0≤M→M≤24→∀st:St,(st.env 0=.sl l.length (aK l)∧st.env 2=.ptr 2 0 0∧st.heap 2 0=some (.cells (bV mO))∧st.env 4=.ptr 4 0 0∧st.heap 4 0=some (.cells (aP lW))∧st.env 5=.ptr 5 0 0∧st.heap 5 0=some (.cells (bV c))∧st.env 6=.ptr 6 0 0∧st.heap 6 0=some (.cells (aP { U4 c b with Li:=Li,last:=last }))∧st.env 9=.v (.slice none 0 0)∧st.env 10=.v (.int .i64 M)∧st.env 11=.v (.int .i64 0))→∃e st',wT Tryz.prog true (kO (Tryz.f75.body.getD .skip)) st=some (e,st')∧(e=.exit 0∧∃(t:State) (v:SV) (Q R:Option (List Request)),(st'.env 2=.ptr 2 0 0∧st'.heap 2 0=some (.cells (bV mO))∧st'.env 4=.ptr 4 0 0∧st'.heap 4 0=some (.cells (aP lW))∧st'.env 5=.ptr 5 0 0∧st'.heap 5 0=some (.cells (bV c))∧st'.env 6=.ptr 6 0 0∧st'.heap 6 0=some (.cells (aP t)))∧(st'.env 9=.v (.slice none 0 0)∨∃(L:List xI) (g:Nat),st'.env 9=.own 48 g∧st'.heap 48 g=some (.row 190 446 L.length (Lr L))∧∀y∈L,pI y)∧TI t v Q R 24000 6144):=by
  intro M hM0 hM1 st hs;suffices key:∃r,cS (wT Tryz.prog true (kO (Tryz.f75.body.getD .skip)) st) some=some r∧(r.1=.exit 0∧∃(t:State) (v:SV) (Q R:Option (List Request)),(r.2.env 2=.ptr 2 0 0∧r.2.heap 2 0=some (.cells (bV mO))∧r.2.env 4=.ptr 4 0 0∧r.2.heap 4 0=some (.cells (aP lW))∧r.2.env 5=.ptr 5 0 0∧r.2.heap 5 0=some (.cells (bV c))∧r.2.env 6=.ptr 6 0 0∧r.2.heap 6 0=some (.cells (aP t)))∧(r.2.env 9=.v (.slice none 0 0)∨∃(L:List xI) (g:Nat),r.2.env 9=.own 48 g∧r.2.heap 48 g=some (.row 190 446 L.length (Lr L))∧∀y∈L,pI y)∧TI t v Q R 24000 6144) by
   obtain⟨r,h,hq⟩:=key
   cases hx:wT Tryz.prog true (kO (Tryz.f75.body.getD .skip)) st with
   | none=>rw[hx] at h;cases h
   | some y=>rw[hx] at h;simp only[cK,Option.some.injEq] at h;subst h;exact⟨y.1,y.2,rfl,hq⟩
  simp only[Tryz.f75,Option.getD_some,kO];refine jH (fun m st=>∃(k:Nat) (t:State) (v:SV) (Q R:Option (List Request)),(st.env 0=.sl l.length (aK l)∧st.env 2=.ptr 2 0 0∧st.heap 2 0=some (.cells (bV mO))∧st.env 4=.ptr 4 0 0∧st.heap 4 0=some (.cells (aP lW))∧st.env 5=.ptr 5 0 0∧st.heap 5 0=some (.cells (bV c))∧st.env 6=.ptr 6 0 0∧st.heap 6 0=some (.cells (aP t))∧st.env 10=.v (.int .i64 M)∧st.env 11=.v (.int .i64 k))∧(st.env 9=.v (.slice none 0 0)∨∃(L:List xI) (g:Nat),(st.env 9=.own 48 g∧st.heap 48 g=some (.row 190 446 L.length (Lr L)))∧g<st.aQ 48∧(∀y∈L,pI y)∧L.length≤k)∧TI t v Q R (1000 * k) (256 * k)∧(k:Int)≤M∧m=(M-k).toNat)
   (fun e st=>e=.exit 0∧∃(t:State) (v:SV) (Q R:Option (List Request)),(st.env 2=.ptr 2 0 0∧st.heap 2 0=some (.cells (bV mO))∧st.env 4=.ptr 4 0 0∧st.heap 4 0=some (.cells (aP lW))∧st.env 5=.ptr 5 0 0∧st.heap 5 0=some (.cells (bV c))∧st.env 6=.ptr 6 0 0∧st.heap 6 0=some (.cells (aP t)))∧(st.env 9=.v (.slice none 0 0)∨∃(L:List xI) (g:Nat),st.env 9=.own 48 g∧st.heap 48 g=some (.row 190 446 L.length (Lr L))∧∀y∈L,pI y)∧TI t v Q R 24000 6144) M.toNat ?step ?start ?rest
  case start=>exact⟨0,_,_,_,_,⟨hs.1,hs.2.1,hs.2.2.1,hs.2.2.2.1,hs.2.2.2.2.1,hs.2.2.2.2.2.1,hs.2.2.2.2.2.2.1,hs.2.2.2.2.2.2.2.1,hs.2.2.2.2.2.2.2.2.1,hs.2.2.2.2.2.2.2.2.2.2.1,hs.2.2.2.2.2.2.2.2.2.2.2⟩,.inl hs.2.2.2.2.2.2.2.2.2.1,T0,by omega,by omega⟩
  case rest=>exact fun e st h=>⟨_,rfl,h⟩
  case step =>
   clear hs
   rintro m st ⟨k,t,v,Q,R,hI,hX,T,hk,hm⟩
   by_cases bA:(k:Int)<M
   case neg =>
    have hX':st.env 9=.v (.slice none 0 0)∨∃(L:List xI) (g:Nat),st.env 9=.own 48 g∧st.heap 48 g=some (.row 190 446 L.length (Lr L))∧∀y∈L,pI y:=hX.imp id fun ⟨L,g,h1,_,h3,_⟩=>⟨L,g,h1.1,h1.2,h3⟩
    apply AX (.exit 0)
    ·simp only[ZG,seval,Bool.false_and,Prod.mk.injEq,Xs,hI,bA];rfl
    ·exact⟨rfl,t,v,Q,R,by simp only[E8,seval,hI],by simpa only[E8,seval] using hX',T.mono (by omega) (by omega) (by omega) (by omega)⟩
   have hw:IntKind.i64.wrap ((k:Int)+1)=((k+1:Nat):Int):=by rw[mZ _ (by omega) (by omega)];omega
   obtain⟨j,hj⟩:∃j:Int,j=18+(k:Int):=⟨_,rfl⟩
   have hwj:IntKind.i64.wrap (18+(k:Int))=j:=by rw[mZ _ (by omega) (by omega),hj]
   obtain⟨n,hn⟩:∃n:Int,n=10+(k:Int):=⟨_,rfl⟩
   have hwn:IntKind.i64.wrap (10+(k:Int))=n:=by rw[mZ _ (by omega) (by omega),hn]
   have kj:=Nc l hl j (by omega) (by omega)
   have j0:=(Gt l hl j (by omega) (by omega)).2.1
   have op:∀z:Int,0≤z→∃(y:xI) (t':State) (w:AV) (e:Int) (v':SV) (Q' R':Option (List Request)),(∀(st:St) (d:Option Nat),aN (aB Tryz.prog) 146 [.agg (aP t),.v (.int .i64 n),.v (.int .i64 z)] st d=some { dst:=d,val:=.agg (kZ y)})∧(∀(st:St) (d:Option Nat),aN (aB Tryz.prog) 147 [.agg (aP t),.agg (kZ y)] st d=some { dst:=d,val:=.eE [.agg (aP t'),w,.v (.int .i64 e)]})∧pI y∧TI t' v' Q' R' (1000 * ((k+1:Nat):Int)) (256 * ((k+1:Nat):Int)):=by
    intro z hz;obtain⟨y3,hy3,o,rfl,ho,hr⟩:=aRB T.td T.gi T.rg T.iP (fun r hr=>by obtain⟨h1,h2,_⟩:=T.tq.all r hr;have:=T.nt;exact⟨by omega,by omega⟩) n z hz
    have hp:o.kind=2→Pr o.block.root:=fun h2=>by
     rcases hr h2 with h|⟨a,ha,h⟩
     ·rw[h];exact aFq (by omega) (by omega)
     ·rw[h];exact T.rg.rt a ha
    obtain⟨y4,hy4,t',w,e,v',Q',R',rfl,fw,T'⟩:=aRT T o ho hp (by omega) (by omega)
    exact⟨o,t',w,e,v',Q',R',kx hy3 (mD T.td.flat (.v _) (.v _)) ho.flat,kx hy4 (bE T.td.flat ho.flat) (.eE _ (mD T'.td.flat fw (.v _))),ho,T'.mono (by omega) (by omega) (by omega) (by omega)⟩
   by_cases k0:(k:Int)=0
   ·obtain⟨o,t',w,e,v',Q',R',U7,U8,ho,T'⟩:=op 0 (by omega)
    rcases hX with hX|⟨L,g,hX,hg,hL,hLk⟩
    ·apply Am ((M-((k+1:Nat):Int)).toNat)
     ·simp only[ZG,seval,Bool.false_and,Prod.mk.injEq,Xs,hI,hX,bA,hwj,kj,bt k0,hwn,U7,U5,U8,dM,hw];rfl
     ·exact⟨k+1,t',v',Q',R',by simp only[E8,seval,hI],.inr ⟨[o],_,⟨by simp only[E8,seval]<;>rfl,by simp only[E8,seval]<;>rfl⟩,by simp only[E8,seval]<;>omega,(fun y hy=>by rw[List.mem_singleton] at hy;rw[hy];exact ho),by simp⟩,T',by omega,rfl⟩
    ·have nL:(L.length:Int)<1000000:=by omega
     have uV:(g=st.aQ 48)=False:=eq_false (by omega)
     apply Am ((M-((k+1:Nat):Int)).toNat)
     ·simp only[ZG,seval,Bool.false_and,Prod.mk.injEq,Xs,hI,hX,uV,bA,hwj,kj,bt k0,hwn,U7,U6 _ _ _ _ nL,U8,dM,hw];rfl
     ·exact⟨k+1,t',v',Q',R',by simp only[E8,seval,hI],.inr ⟨L++[o],_,⟨by simp only[E8,seval]<;>rfl,by simp only[E8,seval]<;>rfl⟩,by simp only[E8,seval]<;>omega,(fun y hy=>(List.mem_append.1 hy).elim (hL y) fun h=>by rw[List.mem_singleton] at h;rw[h];exact ho),by rw[List.length_append,List.length_cons,List.length_nil];omega⟩,T',by omega,rfl⟩
   ·obtain⟨o,t',w,e,v',Q',R',U7,U8,ho,T'⟩:=op (Jo l j) j0
    rcases hX with hX|⟨L,g,hX,hg,hL,hLk⟩
    ·apply Am ((M-((k+1:Nat):Int)).toNat)
     ·simp only[ZG,seval,Bool.false_and,Prod.mk.injEq,Xs,hI,hX,bA,hwj,kj,bf k0,hwn,U7,U5,U8,dM,hw];rfl
     ·exact⟨k+1,t',v',Q',R',by simp only[E8,seval,hI],.inr ⟨[o],_,⟨by simp only[E8,seval]<;>rfl,by simp only[E8,seval]<;>rfl⟩,by simp only[E8,seval]<;>omega,(fun y hy=>by rw[List.mem_singleton] at hy;rw[hy];exact ho),by simp⟩,T',by omega,rfl⟩
    ·have nL:(L.length:Int)<1000000:=by omega
     have uV:(g=st.aQ 48)=False:=eq_false (by omega)
     apply Am ((M-((k+1:Nat):Int)).toNat)
     ·simp only[ZG,seval,Bool.false_and,Prod.mk.injEq,Xs,hI,hX,uV,bA,hwj,kj,bf k0,hwn,U7,U6 _ _ _ _ nL,U8,dM,hw];rfl
     ·exact⟨k+1,t',v',Q',R',by simp only[E8,seval,hI],.inr ⟨L++[o],_,⟨by simp only[E8,seval]<;>rfl,by simp only[E8,seval]<;>rfl⟩,by simp only[E8,seval]<;>omega,(fun y hy=>(List.mem_append.1 hy).elim (hL y) fun h=>by rw[List.mem_singleton] at h;rw[h];exact ho),by rw[List.length_append,List.length_cons,List.length_nil];omega⟩,T',by omega,rfl⟩
 by_cases g1:0<(Jo l 17).tmod 4
 ·simp only[ZG,seval,Bool.false_and,Prod.mk.injEq,Xs,aCN,k144,dM,k16,hN,k17,g1];refine Jg (a:=kO (Tryz.f75.body.getD .skip)) (fun e st'=>e=.exit 0∧∃(t:State) (v:SV) (Q R:Option (List Request)),(st'.env 2=.ptr 2 0 0∧st'.heap 2 0=some (.cells (bV mO))∧st'.env 4=.ptr 4 0 0∧st'.heap 4 0=some (.cells (aP lW))∧st'.env 5=.ptr 5 0 0∧st'.heap 5 0=some (.cells (bV c))∧st'.env 6=.ptr 6 0 0∧st'.heap 6 0=some (.cells (aP t)))∧(st'.env 9=.v (.slice none 0 0)∨∃(L:List xI) (g:Nat),st'.env 9=.own 48 g∧st'.heap 48 g=some (.row 190 446 L.length (Lr L))∧∀y∈L,pI y)∧TI t v Q R 24000 6144) (body 24 (by omega) (by omega) _ (by simp only[E8,seval]<;>rfl)) ?rest
  rintro e st ⟨rfl,t,v,Q,R,hI,hX|⟨L,g,hX,hh,hL⟩,T⟩
  ·have ft:=T.td.flat
   simp only[ZG,seval,Bool.false_and,Prod.mk.injEq,Xs,hI,hX];exact⟨_,fM rfl (by simp only[bY,Z8,seval,hI]<;>rfl) (by simp only[bY,Z8,seval,hX]<;>rfl) (by simp only[bY,Z8,seval,hI]<;>rfl) (eB fc) (eB (.v _)) (eB ft),c,_,t,v,Q,R,rfl,fc,.v _,T⟩
  ·have ft:=T.td.flat
   have ex:=aFr L.length L hL
   simp only[ZG,seval,Bool.false_and,Prod.mk.injEq,Xs,hI,hX,hh];exact⟨_,fM rfl (by simp only[bY,Z8,seval,hI]<;>rfl) (by simp only[bY,Z8,seval,hX]<;>rfl) (by simp only[bY,Z8,seval,hI]<;>rfl) (eB fc) (by simp only[Z8,seval,hh,ex]<;>rfl) (eB ft),c,_,t,v,Q,R,rfl,fc,.sl _ _ (Ra L hL),T⟩
 ·simp only[ZG,seval,Bool.false_and,Prod.mk.injEq,Xs,aCN,k144,dM,k16,hN,k17,g1];refine Jg (a:=kO (Tryz.f75.body.getD .skip)) (fun e st'=>e=.exit 0∧∃(t:State) (v:SV) (Q R:Option (List Request)),(st'.env 2=.ptr 2 0 0∧st'.heap 2 0=some (.cells (bV mO))∧st'.env 4=.ptr 4 0 0∧st'.heap 4 0=some (.cells (aP lW))∧st'.env 5=.ptr 5 0 0∧st'.heap 5 0=some (.cells (bV c))∧st'.env 6=.ptr 6 0 0∧st'.heap 6 0=some (.cells (aP t)))∧(st'.env 9=.v (.slice none 0 0)∨∃(L:List xI) (g:Nat),st'.env 9=.own 48 g∧st'.heap 48 g=some (.row 190 446 L.length (Lr L))∧∀y∈L,pI y)∧TI t v Q R 24000 6144) (body N (by omega) (by omega) _ (by simp only[E8,seval]<;>rfl)) ?Xg
  rintro e st ⟨rfl,t,v,Q,R,hI,hX|⟨L,g,hX,hh,hL⟩,T⟩
  ·have ft:=T.td.flat
   simp only[ZG,seval,Bool.false_and,Prod.mk.injEq,Xs,hI,hX];exact⟨_,fM rfl (by simp only[bY,Z8,seval,hI]<;>rfl) (by simp only[bY,Z8,seval,hX]<;>rfl) (by simp only[bY,Z8,seval,hI]<;>rfl) (eB fc) (eB (.v _)) (eB ft),c,_,t,v,Q,R,rfl,fc,.v _,T⟩
  ·have ft:=T.td.flat
   have ex:=aFr L.length L hL
   simp only[ZG,seval,Bool.false_and,Prod.mk.injEq,Xs,hI,hX,hh];exact⟨_,fM rfl (by simp only[bY,Z8,seval,hI]<;>rfl) (by simp only[bY,Z8,seval,hX]<;>rfl) (by simp only[bY,Z8,seval,hI]<;>rfl) (eB fc) (by simp only[Z8,seval,hh,ex]<;>rfl) (eB ft),c,_,t,v,Q,R,rfl,fc,.sl _ _ (Ra L hL),T⟩
theorem x24 (l:List Int) (hl:(l.length:Int)≤9223372036854775807):∃(t:State) (v:SV) (Q R:Option (List Request)),aB Tryz.prog 24 [.sl l.length (aK l)]=some (.agg (aP t))∧TI t v Q R 24000 6144:=by
 suffices h:∃r,aB Tryz.prog 24 [.sl l.length (aK l)]=some r∧∃(t:State) (v:SV) (Q R:Option (List Request)),r=.agg (aP t)∧TI t v Q R 24000 6144 by
  obtain⟨r,h,t,v,Q,R,rfl,T⟩:=h
  exact⟨t,v,Q,R,h,T⟩
 obtain⟨y,hy,c,X,t,v,Q,R,rfl,fc,fX,T⟩:=x75 l hl
 have ft:=T.td.flat
 have k75:=kx hy (cU (Kx l)) (.eE _ (mD fc fX ft))
 rw[cL Tryz.func24 rfl aRW rfl];simp only[Z8,seval,k75,dM];exact⟨_,fK rfl (by simp only[E8,seval,ft]<;>rfl) (by simp only[Z8,seval,ft]<;>rfl) (by simp only[dV,and_self,ft]),t,v,Q,R,rfl,T⟩
theorem U9 {s:aL} (h:1≤s.cFg.kE∧s.cFg.kE≤64) {e x:Int} (e0:0≤e) (he:e≤xM s x) (hx:Rg x):vO s e=(e * s.cFg.kE,0)∧e * s.cFg.kE≤x:=by
 have h1:xM s x=x / s.cFg.kE:=by
  unfold xM;rw[Int.tdiv_eq_ediv_of_nonneg hx.1];have:=Int.ediv_le_self s.cFg.kE hx.1
  have:=hx.2
  exact BI _ (Int.ediv_nonneg hx.1 (by omega)) (by omega)
 rw[h1] at he;have hm:e * s.cFg.kE≤x:=(Int.le_ediv_iff_mul_le (by omega)).1 he
 have h0:0≤e * s.cFg.kE:=Int.mul_nonneg e0 (by omega)
 have hb:=hx.2
 refine⟨?_,hm⟩
 unfold vO Nd BD;rw[if_pos h];have ht:Int.tdiv 18446744073709551615 s.cFg.kE=18446744073709551615 / s.cFg.kE:=Int.tdiv_eq_ediv_of_nonneg (by omega)
 have hq:=Int.ediv_le_self s.cFg.kE (show (0:Int)≤18446744073709551615 by omega)
 have hq0:=Int.ediv_nonneg (show (0:Int)≤18446744073709551615 by omega) (show 0≤s.cFg.kE by omega)
 rw[ht,BI _ hq0 (by omega),if_neg (fun k=>by have:=(Int.ediv_lt_iff_lt_mul (by omega)).1 k.2;omega),BI _ h0 (by omega)]
theorem EW (n:Node) (r:cJ):aM [n] r=if n.block.root=r then 0 else -1:=by
 unfold aM;by_cases h:n.block.root=r<;>simp[List.findIdx?_cons,h]
theorem aMC {a b:Int} (a0:0≤a) (a1:a<256) (b0:0≤b) (b1:b<256) (h:a≠b):mkRoot a≠mkRoot b:=fun e=>by
 have e1:IntKind.u8.wrap a=IntKind.u8.wrap b:=by rw[← wY,← wY,e]
 rw[Hl a0 a1,Hl b0 b1] at e1;exact h e1
theorem GI.now {s:aL} {v:SV} {q:Int} (h:GI s v q) (n:Int):GI { s with now:=n } v q :=
 ⟨⟨h.sd.iP,h.sd.eA,h.sd.gW,h.sd.early,h.sd.bK,h.sd.tree,h.sd.tables,h.sd.eV,h.sd.tB,h.sd.nB,h.sd.nL,h.sd.nQ,h.sd.nE,h.sd.nO,h.sd.nT,h.sd.nn⟩,h.up,h.DT,h.pos,h.nl,h.UE,h.kE,h.MH,h.nB,h.nO,h.MI,h.nE,h.SO,h.nT,h.SP,h.nQ,h.P1,h.gJ⟩
theorem RG.U2 {s:aL} {v:SV} (r:RG s v) (hs:1≤s.cFg.kE) {n:Int} (h0:s.now≤n) (h1:n≤1099511627776):RG { s with now:=n } v :=
 ⟨⟨by have:=r.now.1;show 0≤n;omega,h1⟩,r.j,r.f,fun a ha=>⟨(r.nd a ha).1,by have:=(r.nd a ha).2;show a.block.slot≤n;omega⟩,r.or,r.rt,⟨r.fe.1,Int.le_trans r.fe.2 (show xM s s.now≤xM s n from NC hs r.now.1 h0 (by omega))⟩,r.ds,r.tb,r.ne⟩
theorem NO {c:Config} {b:List Int} (h:Hh c b):aM (An c b).ns c.cW=0∧aM (An c b).ns (mkRoot 9)=-1:=by
 have e:(An c b).ns=[⟨MQ c,-1,1⟩]:=rfl
 rw[e,EW,EW,if_pos (show (MQ c).root=c.cW from rfl),if_neg (show ¬(MQ c).root=mkRoot 9 by show ¬c.cW=mkRoot 9;rw[h.gen];exact aMC (by omega) (by omega) (by omega) (by omega) (by omega))]
 exact⟨rfl,rfl⟩
end Go.Ab.Tryz
namespace Go.Ab.Tryz
open Classical Go.Proofs Go.Ab
open Classical Go.Proofs Go.Ab
end Go.Ab.Tryz
namespace Go.Ab.Tryz
open Classical Go.Proofs Go.Ab
def uo {α:Type} (e sz:Nat) (c:List α→List AV):Option (List α)→AV
 | none=>.v (.slice none 0 0)
 | some l=>.uniq e sz l.length (c l)
def rl {α:Type} (e sz:Nat) (c:List α→List AV):Option (List α)→List nU
 | none=>[]
 | some l=>[.row e sz l.length (c l)]
def rv {α:Type} (d k:Nat):Option (List α)→AV
 | none=>.v (.slice none 0 0)
 | some _=>.own d k
def SS (d:Nat) (es:List nU):Option (Nat × List nU):=if es=[] then none else some (d,es)
theorem V0 (st:St) (d:Nat):st.news d []=st:=by
 unfold St.news;cases st with
 | mk env heap aQ =>
   simp only[List.length_nil,Nat.not_lt_zero,and_false,if_false,Nat.add_zero,St.mk.injEq,true_and];funext s
   split
   ·rename_i h;rw[h]
   ·rfl
theorem D8 (x:Option Nat) (v:AV) (d:Nat) (es:List nU) (st:St):({ dst:=x,val:=v,new:=SS d es }:rT).apply st=(st.news d es).put x v:=by
 unfold SS;by_cases h:es=[]
 ·rw[if_pos h,h,V0];rfl
 ·rw[if_neg h];rfl
theorem V1 (st:St) (t d:Nat) (es:List nU):(st.news d es).env t=st.env t:=rfl
theorem V5 (st:St) (t d:Nat) (es:List nU):(st.news d es).aQ t=if t=d then st.aQ d+es.length else st.aQ t:=rfl
theorem yS (st:St) (s g d:Nat) (es:List nU):(st.news d es).heap s g=if s=d∧st.aQ d≤g∧g-st.aQ d<es.length then es[g-st.aQ d]? else st.heap s g:=rfl
theorem Er {α:Type} {call:Nat→List AV→Option AV} {g e sz d:Nat} {args:List AV} {c:List α→List AV} {L:Option (List α)} {st:St} (hf:∀x∈args,Flat x) (h:call g args=some (uo e sz c L)) :
 aN call g args st (some d)=some { dst:=some d,val:=rv d (st.aQ d) L,new:=SS d (rl e sz c L)}:=by
 cases L with
 | none =>
   simp only[aN,if_pos hf,h,cK,uo,jC,if_pos (Flat.v _),rv,rl,SS];rfl
 | some l=>rw[jF hf h];simp only[rv,rl,SS,List.cons_ne_nil,if_false]
theorem rQ {α:Type} {st:St} {d k e sz:Nat} {c:List α→List AV} {L:Option (List α)} (hh:∀l,L=some l→st.heap d k=some (.row e sz l.length (c l))) (hf:∀l,L=some l→∀x∈c l,Flat x):kK st (rv d k L)=some (uo e sz c L):=by
 cases L with
 | none=>exact if_pos (Flat.v _)
 | some l =>
   have hn:¬Flat (.own d k):=by intro h;cases h
   simp only[rv,uo,kK,if_neg hn,hh l rfl,if_pos (hf l rfl)]
theorem ZU {α:Type} {c:List α→List AV} {z:Nat} (hc:∀l,(c l).length=l.length * z) (hz:0<z) {l:List α} (h:l≠[]):c l≠[]:=by
 intro he;have h1:=hc l
 rw[he] at h1;have h2:0<l.length:=List.length_pos_iff.mpr h
 have:=Nat.mul_pos h2 hz
 simp only[List.length_nil] at h1;omega
theorem aRX (L:Option (List Int)) (h:L≠some []) (hn:((ol L).length:Int)<1000000):aB Tryz.prog 160 [ov bJ L]=some (uo 23 1 bJ L):=by
 cases L with
 | none =>
   unfold ov;rw[cL Tryz.func160 rfl aFs rfl];simp only[Z8,seval];exact bX rfl (by simp only[E8,seval]<;>rfl) (.v _)
 | some l =>
   have hl:l≠[]:=fun h2=>h (by rw[h2])
   have gR:bJ l≠[]:=ZU (z:=1) (fun l=>by simp[Rb]) (by omega) hl
   have ha:=fun s g=>Ni (e:=23) (sz:=1) (by_:=8) (s:=s) (g:=g) (n:=l.length) (cs:=bJ l) (by simp[Rb]) (by simp only[ol,Option.getD_some] at hn;omega) (by simp only[ol,Option.getD_some] at hn;unfold maxLen;omega)
   unfold ov;rw[cL Tryz.func160 rfl aFs rfl];simp only[Z8,seval,gR,ha];exact tO rfl (by simp only[E8,seval];rfl) (by simp only[E8,seval]) (iF _)
theorem aMD (L:Option (List Int)) (h:L≠some []) (hn:((ol L).length:Int)<1000000) (st:St) (d:Nat):aN (aB Tryz.prog) 160 [ov bJ L] st (some d)=some { dst:=some d,val:=rv d (st.aQ d) L,new:=SS d (rl 23 1 bJ L)}:=Er (cU (dU L)) (aRX L h hn)
theorem aRY (L:Option (List kN)) (h:L≠some []) (hn:((ol L).length:Int)<1000000):aB Tryz.prog 190 [ov dC L]=some (uo 100 34 dC L):=by
 cases L with
 | none =>
   unfold ov;rw[cL Tryz.func190 rfl aFt rfl];simp only[Z8,seval];exact bX rfl (by simp only[E8,seval]<;>rfl) (.v _)
 | some l =>
   have hl:l≠[]:=fun h2=>h (by rw[h2])
   have gR:dC l≠[]:=ZU (z:=34) (fun l=>by simp) (by omega) hl
   have ha:=fun s g=>Ni (e:=100) (sz:=34) (by_:=48) (s:=s) (g:=g) (n:=l.length) (cs:=dC l) (by simp) (by simp only[ol,Option.getD_some] at hn;omega) (by simp only[ol,Option.getD_some] at hn;unfold maxLen;omega)
   unfold ov;rw[cL Tryz.func190 rfl aFt rfl];simp only[Z8,seval,gR,ha];exact tO rfl (by simp only[E8,seval];rfl) (by simp only[E8,seval]) (mY _)
theorem aRZ (L:Option (List kN)) (h:L≠some []) (hn:((ol L).length:Int)<1000000) (st:St) (d:Nat):aN (aB Tryz.prog) 190 [ov dC L] st (some d)=some { dst:=some d,val:=rv d (st.aQ d) L,new:=SS d (rl 100 34 dC L)}:=Er (cU (qY L)) (aRY L h hn)
theorem aR0 (L:Option (List Int)) (h:L≠some []) (hn:((ol L).length:Int)<1000000):aB Tryz.prog 191 [ov aK L]=some (uo 3 1 aK L):=by
 cases L with
 | none =>
   unfold ov;rw[cL Tryz.func191 rfl aFu rfl];simp only[Z8,seval];exact bX rfl (by simp only[E8,seval]<;>rfl) (.v _)
 | some l =>
   have hl:l≠[]:=fun h2=>h (by rw[h2])
   have gR:aK l≠[]:=ZU (z:=1) (fun l=>by simp[Jh]) (by omega) hl
   have ha:=fun s g=>Ni (e:=3) (sz:=1) (by_:=8) (s:=s) (g:=g) (n:=l.length) (cs:=aK l) (by simp[Jh]) (by simp only[ol,Option.getD_some] at hn;omega) (by simp only[ol,Option.getD_some] at hn;unfold maxLen;omega)
   unfold ov;rw[cL Tryz.func191 rfl aFu rfl];simp only[Z8,seval,gR,ha];exact tO rfl (by simp only[E8,seval];rfl) (by simp only[E8,seval]) (gF _)
theorem aME (L:Option (List Int)) (h:L≠some []) (hn:((ol L).length:Int)<1000000) (st:St) (d:Nat):aN (aB Tryz.prog) 191 [ov aK L] st (some d)=some { dst:=some d,val:=rv d (st.aQ d) L,new:=SS d (rl 3 1 aK L)}:=Er (cU (bW L)) (aR0 L h hn)
theorem aR1 (L:Option (List Block)) (h:L≠some []) (hn:((ol L).length:Int)<1000000):aB Tryz.prog 164 [ov aF L]=some (uo 74 238 aF L):=by
 cases L with
 | none =>
   unfold ov;rw[cL Tryz.func164 rfl aFv rfl];simp only[Z8,seval];exact bX rfl (by simp only[E8,seval]<;>rfl) (.v _)
 | some l =>
   have hl:l≠[]:=fun h2=>h (by rw[h2])
   have gR:aF l≠[]:=ZU (z:=238) (fun l=>by simp) (by omega) hl
   have ha:=fun s g=>Ni (e:=74) (sz:=238) (by_:=336) (s:=s) (g:=g) (n:=l.length) (cs:=aF l) (by simp) (by simp only[ol,Option.getD_some] at hn;omega) (by simp only[ol,Option.getD_some] at hn;unfold maxLen;omega)
   unfold ov;rw[cL Tryz.func164 rfl aFv rfl];simp only[Z8,seval,gR,ha];exact tO rfl (by simp only[E8,seval];rfl) (by simp only[E8,seval]) (lA _)
theorem aR2 (L:Option (List Block)) (h:L≠some []) (hn:((ol L).length:Int)<1000000) (st:St) (d:Nat):aN (aB Tryz.prog) 164 [ov aF L] st (some d)=some { dst:=some d,val:=rv d (st.aQ d) L,new:=SS d (rl 74 238 aF L)}:=Er (cU (uC L)) (aR1 L h hn)
theorem mK {α:Type} {st:St} {d k e sz:Nat} {c:List α→List AV} {L:Option (List α)} (hh:∀l,L=some l→st.heap d k=some (.row e sz l.length (c l))) (hf:∀l,L=some l→∀x∈c l,Flat x):cN st (rv d k L)=some (ov c L):=by
 cases L with
 | none=>exact if_pos (Flat.v _)
 | some l =>
   have hn:¬Flat (.own d k):=by intro h;cases h
   simp only[rv,ov,cN,if_neg hn,hh l rfl,if_pos (hf l rfl)]
theorem V6 {α:Type} (d k:Nat) (L:Option (List α)):(rv d k L).cells=[rv d k L]:=by cases L<;>rfl
theorem aCO {α:Type} (d k:Nat) (L:Option (List α)):(rv d k L).jD=true:=by cases L<;>rfl
def NW:=aj (aj (aj @D8 @V1) (aj @V5 @yS)) (aj @V6 @aCO)
theorem aR3 (a:sC) (V:Option (List Int)) (ha:a.eU=ov aK V) (h:V≠some []) (hn:((ol V).length:Int)<1000000):aB Tryz.prog 163 [.agg (iB a)]=some (.agg (iB a)):=by
 rw[cL Tryz.func163 rfl aMF rfl];simp only[Z8,seval,ha,aME V h hn,NW];refine eG rfl (by simp only[E8,seval,NW]<;>rfl) (cs:=iB { a with eU:=rv 5 0 V }) (by simp only[Z8,seval,NW]<;>rfl) ?_
 rw[bQ,lX,mK (e:=3) (sz:=1) (c:=aK) (L:=V) ?h (fun l _=>gF l),cK,cK,← ha]
 case h =>
  intro l hl;subst hl;simp only[E8,seval,yS,rl,List.length_cons,Nat.lt_add_left_iff_pos,Nat.zero_lt_succ,if_true]
end Go.Ab.Tryz
namespace Go.Ab
open Classical
theorem Ob [Ext] {P:Program} {call:Nat→List AV→Option AV} {ops:Array Oper} {d:Option Nat} {T:Nat} {pos:String} {eQ:Array Edge} {st:St} (t:Nat) (args:Array Operand) (tL:Array Nat) (g:Nat) (h:st.env t=.v (.func (.func g) #[] #[])):cH P call ops ⟨d,.call ⟨.value (.tmp t),args,tL⟩,T,pos,eQ,none⟩ st=cS (aN call g (args.toList.map st.ev) st d) fun e=>some (e.apply st):=by
 rw[eD];simp only[dO,iT,nY,St.ev,h,FZ,and_self,if_true,List.append_nil];cases aN call g (args.toList.map st.ev) st d<;>rfl
end Go.Ab
namespace Go.Ab.Tryz
open Classical Go.Proofs Go.Ab
theorem aR4 (a:Table) (V:Option (List Int)) (ha:a.iP=ov bJ V) (h:V≠some []) (hn:((ol V).length:Int)<1000000):aB Tryz.prog 194 [.agg (cA a)]=some (.agg (cA a)):=by
 rw[cL Tryz.func194 rfl aMG rfl];simp only[Z8,seval,ha,aMD V h hn,NW];refine eG rfl (by simp only[E8,seval,NW]<;>rfl) (cs:=cA { a with iP:=rv 5 0 V }) (by simp only[Z8,seval,NW]<;>rfl) ?_
 rw[bQ,tH,mK (e:=23) (sz:=1) (c:=bJ) (L:=V) ?h (fun l _=>iF l),cK,cK,← ha]
 case h =>
  intro l hl;subst hl;simp only[E8,seval,yS,rl,List.length_cons,Nat.lt_add_left_iff_pos,Nat.zero_lt_succ,if_true]
theorem ZV {α:Type} (z:α) (l:List α) (k:Nat) (h:k<l.length):l.take k++[gx z l (k:Int)]=l.take (k+1):=by
 rw[List.take_succ_eq_append_getElem h];congr 2
 simp[gx,h]
theorem aR5 (E:Option (List sC)) (h:E≠some []) (hn:((ol E).length:Int)<1000000) (hE:∀a∈ol E,∃V,a.eU=ov aK (some V)∧V≠[]) (hA:∀a∈ol E,Cw a) :
 aB Tryz.prog 162 [ov dN E,.v (.func (.func 163) #[] #[])]=some (uo 87 67 dN E):=by
 have pH:∀y∈ol E,Flat y.eU:=fun y m=>(hA y m).fl
 have kg:∀k:Nat,k<(ol E).length→∀(st:St) (d:Option Nat),aN (aB Tryz.prog) 163 [.agg (iB (gx Hk (ol E) (k:Int)))] st d=some { dst:=d,val:=.agg (iB (gx Hk (ol E) (k:Int)))}:=by
  intro k hk st d;have hm:gx Hk (ol E) (k:Int)∈ol E:=by
   have:gx Hk (ol E) (k:Int)=(ol E)[k]:=by simp[gx,hk]
   rw[this];exact List.getElem_mem hk
  obtain⟨V,hV,hV2⟩:=hE _ hm
  obtain⟨V',hV',Gk⟩:=hA _ hm
  have hfa:Flat (.agg (iB (gx Hk (ol E) (k:Int)))):=(zJ _).2 (hA _ hm).fl
  have e0:((ol (some V)).length:Int)<1000000:=by
   have h0:ov aK (some V)=ov aK V':=by rw[← hV,← hV']
   cases V' with
   | none=>cases h0
   | some W =>
     simp only[ov,AV.sl.injEq] at h0;simp only[ol,Option.getD_some] at Gk ⊢
     omega
  exact kx (aR3 _ (some V) hV (by simpa using hV2) e0) (cU hfa) hfa st d
 have hu:([ov dN E,.v (.func (.func 163) #[] #[])]:List AV).any tU=false:=by cases E<;>rfl
 rw[cL Tryz.func162 rfl aMI hu];simp only[Z8,seval];refine kI (fun m st=>∃k:Nat,(st.env 8=ov dN E∧st.env 9=.v (.int .i64 (ol E).length)∧st.env 10=.v (.int .i64 k)∧st.env 1=.v (.func (.func 163) #[] #[]))∧((k=0∧st.env 5=.v (.slice none 0 0))∨(0<k∧∃j,st.env 5=.own 19 j∧st.heap 19 j=some (.row 87 67 ((ol E).take k).length (dN ((ol E).take k)))))∧k≤(ol E).length∧m=(ol E).length-k)
  (fun e st=>e=.exit 0∧((ol E=[]∧st.env 5=.v (.slice none 0 0))∨(ol E≠[]∧∃j,st.env 5=.own 19 j∧st.heap 19 j=some (.row 87 67 (ol E).length (dN (ol E)))))) (ol E).length ?step ?start ?rest
 case step =>
  rintro m st ⟨k,hI,hR,hk,hm⟩
  by_cases bA:(k:Int)<(ol E).length
  ·have q0:(0:Int)≤k:=by omega
   have hw:IntKind.i64.wrap ((k:Int)+1)=((k+1:Nat):Int):=by rw[mZ _ (by omega) (by omega)];omega
   have ht:=ZV Hk (ol E) k (by omega)
   have kk:=kg k (by omega)
   rcases hR with ⟨qA,h5⟩|⟨qA,j,h5,h6⟩
   ·have ht':[gx Hk (ol E) (k:Int)]=(ol E).take (k+1):=by rw[← ht,show (ol E).take k=[] by rw[qA,List.take_zero],List.nil_append]
    apply oN ((ol E).length-(k+1))
    ·simp only[Z8,seval,hI,h5,bA,q0,kk,Ob 15 _ _ 163,HC,hw];rfl
    ·exact⟨k+1,⟨by simp only[E8,seval,hI],by simp only[E8,seval,hI],by simp only[E8,seval],by simp only[E8,seval,hI]⟩,.inr ⟨by omega,_,by simp only[E8,seval]<;>rfl,by rw[← ht'];simp only[E8,seval]<;>rfl⟩,by omega,rfl⟩
   ·have ao:=fun s g=>Vg ((ol E).take k) (gx Hk (ol E) (k:Int)) s g (by rw[List.length_take];omega)
    apply oN ((ol E).length-(k+1))
    ·simp only[Z8,seval,hI,h5,h6,bA,q0,kk,Ob 15 _ _ 163,ao,hw];rfl
    ·exact⟨k+1,⟨by simp only[E8,seval,hI],by simp only[E8,seval,hI],by simp only[E8,seval],by simp only[E8,seval,hI]⟩,.inr ⟨by omega,_,by simp only[E8,seval]<;>rfl,by rw[← ht];simp only[E8,seval]<;>rfl⟩,by omega,rfl⟩
  ·have Az:k=(ol E).length:=by omega
   have hF:(ol E=[]∧st.env 5=.v (.slice none 0 0))∨(ol E≠[]∧∃j,st.env 5=.own 19 j∧st.heap 19 j=some (.row 87 67 (ol E).length (dN (ol E)))):=by
    rcases hR with ⟨qA,h5⟩|⟨qA,j,h5,h6⟩
    ·exact .inl ⟨List.eq_nil_of_length_eq_zero (by omega),h5⟩
    ·exact .inr ⟨by intro h0;rw[h0] at Az;simp at Az;omega,j,h5,by rw[h6,Az,List.take_length]⟩
   apply oT (.exit 0)
   ·simp only[Z8,seval,hI,bA];rfl
   ·exact⟨rfl,by simp only[E8,seval];exact hF⟩
 case start=>exact⟨0,by simp only[E8,seval]<;>exact⟨rfl,rfl,rfl,rfl⟩,.inl ⟨rfl,by simp only[E8,seval]<;>rfl⟩,by omega,by omega⟩
 case rest =>
  rintro e st ⟨rfl,hR⟩
  rcases hR with ⟨h0,h5⟩|⟨h0,j,h5,h6⟩
  ·simp only[Z8,seval,h5];cases E with
   | none=>exact bX rfl (by simp only[E8,seval]<;>rfl) (.v _)
   | some l=>exact absurd (show (some l:Option (List sC))=some [] by rw[show l=[] from h0]) h
  ·simp only[Z8,seval,h5];cases E with
   | none=>exact absurd rfl h0
   | some l=>exact tO rfl (by simp only[E8,seval];rfl) (by simp only[E8,seval];exact h6) (sW _ pH)
theorem aR9 (E:Option (List sC)) (h:E≠some []) (hn:((ol E).length:Int)<1000000) (hE:∀a∈ol E,∃V,a.eU=ov aK (some V)∧V≠[]) (hA:∀a∈ol E,Cw a) (st:St) (d:Nat) :
 aN (aB Tryz.prog) 162 [ov dN E,.v (.func (.func 163) #[] #[])] st (some d)=some { dst:=some d,val:=rv d (st.aQ d) E,new:=SS d (rl 87 67 dN E)} :=
 Er (fun x m=>by
  rcases List.mem_cons.1 m with rfl|m
  ·exact Wt E fun y m=>(hA y m).fl
  ·rw[List.mem_singleton.1 m];exact .v _) (aR5 E h hn hE hA)
theorem aSa (E:Option (List Table)) (h:E≠some []) (hn:((ol E).length:Int)<1000000) (hE:∀a∈ol E,∃V,a.iP=ov bJ (some V)∧V≠[]) (hA:∀a∈ol E,qJ a) :
 aB Tryz.prog 193 [ov aI E,.v (.func (.func 194) #[] #[])]=some (uo 118 34 aI E):=by
 have pH:∀y∈ol E,Flat y.iP:=fun y m=>(hA y m).fl
 have kg:∀k:Nat,k<(ol E).length→∀(st:St) (d:Option Nat),aN (aB Tryz.prog) 194 [.agg (cA (gx dX (ol E) (k:Int)))] st d=some { dst:=d,val:=.agg (cA (gx dX (ol E) (k:Int)))}:=by
  intro k hk st d;have hm:gx dX (ol E) (k:Int)∈ol E:=by
   have:gx dX (ol E) (k:Int)=(ol E)[k]:=by simp[gx,hk]
   rw[this];exact List.getElem_mem hk
  obtain⟨V,hV,hV2⟩:=hE _ hm
  obtain⟨V',hV',Gk⟩:=hA _ hm
  have hfa:Flat (.agg (cA (gx dX (ol E) (k:Int)))):=(iE _).2 (hA _ hm).fl
  have e0:((ol (some V)).length:Int)<1000000:=by
   have h0:ov bJ (some V)=ov bJ V':=by rw[← hV,← hV']
   cases V' with
   | none=>cases h0
   | some W =>
     simp only[ov,AV.sl.injEq] at h0;simp only[ol,Option.getD_some] at Gk ⊢
     omega
  exact kx (aR4 _ (some V) hV (by simpa using hV2) e0) (cU hfa) hfa st d
 have hu:([ov aI E,.v (.func (.func 194) #[] #[])]:List AV).any tU=false:=by cases E<;>rfl
 rw[cL Tryz.func193 rfl aMJ hu];simp only[Z8,seval];refine kI (fun m st=>∃k:Nat,(st.env 8=ov aI E∧st.env 9=.v (.int .i64 (ol E).length)∧st.env 10=.v (.int .i64 k)∧st.env 1=.v (.func (.func 194) #[] #[]))∧((k=0∧st.env 5=.v (.slice none 0 0))∨(0<k∧∃j,st.env 5=.own 19 j∧st.heap 19 j=some (.row 118 34 ((ol E).take k).length (aI ((ol E).take k)))))∧k≤(ol E).length∧m=(ol E).length-k)
  (fun e st=>e=.exit 0∧((ol E=[]∧st.env 5=.v (.slice none 0 0))∨(ol E≠[]∧∃j,st.env 5=.own 19 j∧st.heap 19 j=some (.row 118 34 (ol E).length (aI (ol E)))))) (ol E).length ?step ?start ?rest
 case step =>
  rintro m st ⟨k,hI,hR,hk,hm⟩
  by_cases bA:(k:Int)<(ol E).length
  ·have q0:(0:Int)≤k:=by omega
   have hw:IntKind.i64.wrap ((k:Int)+1)=((k+1:Nat):Int):=by rw[mZ _ (by omega) (by omega)];omega
   have ht:=ZV dX (ol E) k (by omega)
   have kk:=kg k (by omega)
   rcases hR with ⟨qA,h5⟩|⟨qA,j,h5,h6⟩
   ·have ht':[gx dX (ol E) (k:Int)]=(ol E).take (k+1):=by rw[← ht,show (ol E).take k=[] by rw[qA,List.take_zero],List.nil_append]
    apply oN ((ol E).length-(k+1))
    ·simp only[Z8,seval,hI,h5,bA,q0,kk,Ob 15 _ _ 194,EX,hw];rfl
    ·exact⟨k+1,⟨by simp only[E8,seval,hI],by simp only[E8,seval,hI],by simp only[E8,seval],by simp only[E8,seval,hI]⟩,.inr ⟨by omega,_,by simp only[E8,seval]<;>rfl,by rw[← ht'];simp only[E8,seval]<;>rfl⟩,by omega,rfl⟩
   ·have ao:=fun s g=>Qn ((ol E).take k) (gx dX (ol E) (k:Int)) s g (by rw[List.length_take];omega)
    apply oN ((ol E).length-(k+1))
    ·simp only[Z8,seval,hI,h5,h6,bA,q0,kk,Ob 15 _ _ 194,ao,hw];rfl
    ·exact⟨k+1,⟨by simp only[E8,seval,hI],by simp only[E8,seval,hI],by simp only[E8,seval],by simp only[E8,seval,hI]⟩,.inr ⟨by omega,_,by simp only[E8,seval]<;>rfl,by rw[← ht];simp only[E8,seval]<;>rfl⟩,by omega,rfl⟩
  ·have Az:k=(ol E).length:=by omega
   have hF:(ol E=[]∧st.env 5=.v (.slice none 0 0))∨(ol E≠[]∧∃j,st.env 5=.own 19 j∧st.heap 19 j=some (.row 118 34 (ol E).length (aI (ol E)))):=by
    rcases hR with ⟨qA,h5⟩|⟨qA,j,h5,h6⟩
    ·exact .inl ⟨List.eq_nil_of_length_eq_zero (by omega),h5⟩
    ·exact .inr ⟨by intro h0;rw[h0] at Az;simp at Az;omega,j,h5,by rw[h6,Az,List.take_length]⟩
   apply oT (.exit 0)
   ·simp only[Z8,seval,hI,bA];rfl
   ·exact⟨rfl,by simp only[E8,seval];exact hF⟩
 case start=>exact⟨0,by simp only[E8,seval]<;>exact⟨rfl,rfl,rfl,rfl⟩,.inl ⟨rfl,by simp only[E8,seval]<;>rfl⟩,by omega,by omega⟩
 case rest =>
  rintro e st ⟨rfl,hR⟩
  rcases hR with ⟨h0,h5⟩|⟨h0,j,h5,h6⟩
  ·simp only[Z8,seval,h5];cases E with
   | none=>exact bX rfl (by simp only[E8,seval]<;>rfl) (.v _)
   | some l=>exact absurd (show (some l:Option (List Table))=some [] by rw[show l=[] from h0]) h
  ·simp only[Z8,seval,h5];cases E with
   | none=>exact absurd rfl h0
   | some l=>exact tO rfl (by simp only[E8,seval];rfl) (by simp only[E8,seval];exact h6) (jV _ pH)
theorem aSb (E:Option (List Table)) (h:E≠some []) (hn:((ol E).length:Int)<1000000) (hE:∀a∈ol E,∃V,a.iP=ov bJ (some V)∧V≠[]) (hA:∀a∈ol E,qJ a) (st:St) (d:Nat) :
 aN (aB Tryz.prog) 193 [ov aI E,.v (.func (.func 194) #[] #[])] st (some d)=some { dst:=some d,val:=rv d (st.aQ d) E,new:=SS d (rl 118 34 aI E)} :=
 Er (fun x m=>by
  rcases List.mem_cons.1 m with rfl|m
  ·exact fY E fun y m=>(hA y m).fl
  ·rw[List.mem_singleton.1 m];exact .v _) (aSa E h hn hE hA)
theorem NP (f:Nat→AV→AV × List nU) (c:Nat) (xs ys:List AV):qM f c (xs++ys)=((qM f c xs).1++(qM f (c+(qM f c xs).2.length) ys).1,(qM f c xs).2++(qM f (c+(qM f c xs).2.length) ys).2):=by
 induction xs generalizing c with
 | nil=>simp[qM]
 | cons x xs ih=>simp only[List.cons_append,qM,ih,List.length_append,Nat.add_assoc,List.append_assoc]
theorem Ji (d c:Nat) {x:AV} (h:Flat x):yW d c x=(x,[]):=by cases h<;>rfl
theorem yU (d c:Nat) {xs:List AV} (h:∀x∈xs,Flat x):qM (yW d) c xs=(xs,[]):=by
 induction xs generalizing c with
 | nil=>rfl
 | cons x xs ih=>simp only[qM,Ji d c (h x (by simp)),List.length_nil,Nat.add_zero,ih c fun y m=>h y (by simp[m]),List.nil_append]
theorem HI {α:Type} (d c e sz:Nat) (cs:List α→List AV) (L:Option (List α)):qM (yW d) c [uo e sz cs L]=([rv d c L],rl e sz cs L):=by cases L<;>rfl
theorem ZW {call:Nat→List AV→Option AV} {g d:Nat} {args cs:List AV} {st:St} (hf:∀x∈args,Flat x) (h:call g args=some (.agg cs)) (hn:Flat (.agg cs)∨(qM (yW d) (st.aQ d) cs).2≠[]) :
 aN call g args st (some d)=some { dst:=some d,val:=.agg (qM (yW d) (st.aQ d) cs).1,new:=SS d (qM (yW d) (st.aQ d) cs).2 }:=by
 unfold aN;rw[if_pos hf,h,cK];unfold jC;by_cases hF:Flat (.agg cs)
 ·have hc:∀x∈cs,Flat x:=by cases hF with|agg _ h=>exact h
  rw[if_pos hF,yU d _ hc];rfl
 ·rw[if_neg hF];have h2:=hn.resolve_left hF
  simp only[SS,if_neg h2];rfl
noncomputable def BL (st:St) (cs:List AV):Option (List AV):=cM (cs.map (kK st))
theorem NQ (st:St) (a b:List AV):BL st (a++b)=cS (BL st a) fun x=>cS (BL st b) fun y=>some (x++y):=by
 unfold BL;induction a with
 | nil=>simp[cM,cS];cases cM (b.map (kK st))<;>rfl
 | cons c a ih =>
   simp only[List.cons_append,List.map_cons];cases kK st c with
   | none=>rfl
   | some c' =>
     simp only[cM,ih];cases cM (a.map (kK st))<;>simp[cS]<;>cases cM (b.map (kK st))<;>rfl
theorem Dg {st:St} {cs:List AV} (h:∀c∈cs,Flat c):BL st cs=some cs:=by
 unfold BL;induction cs with
 | nil=>rfl
 | cons c cs ih =>
   have h1:kK st c=some c:=if_pos (h c (by simp))
   simp only[List.map_cons,h1,cM,ih fun x hx=>h x (by simp[hx]),Option.map_some]
theorem uK {st:St} {x y:AV} (h:kK st x=some y):BL st [x]=some [y]:=by simp only[BL,List.map_cons,List.map_nil,h,cM,Option.map_some]
theorem EY {st:St} {cs ys:List AV} (h:BL st cs=some ys):Cp st (.agg cs)=some (.agg ys):=by
 show (cM (cs.map (kK st))).map AV.agg=_
 rw[show cM (cs.map (kK st))=some ys from h];rfl
theorem NR {x:AV} (h:Flat x):hU x=[]:=by cases h<;>rfl
theorem uL {cs:List AV} (h:∀c∈cs,Flat c):cs.flatMap hU=[]:=by
 induction cs with
 | nil=>rfl
 | cons c cs ih=>rw[List.flatMap_cons,NR (h c (by simp)),ih fun x hx=>h x (by simp[hx]),List.nil_append]
theorem EZ {α:Type} (d k:Nat) (L:Option (List α)):hU (rv d k L)=if L.isSome then [(d,k)] else []:=by cases L<;>rfl
theorem V7 (st:St) (g:Nat):st.ev (.func g)=.v (.func (.func g) #[] #[]):=rfl
theorem aSc (T:Option (List Table)) (h:T≠some []) (hn:((ol T).length:Int)<1000000) (hE:∀a∈ol T,∃V,a.iP=ov bJ (some V)∧V≠[]) (hA:∀a∈ol T,qJ a):aB Tryz.prog 166 [ov aI T]=some (uo 118 34 aI T):=by
 have pH:∀y∈ol T,Flat y.iP:=fun y m=>(hA y m).fl
 rw[cL Tryz.func166 rfl aMK (by cases T<;>rfl)]
 simp only[Z8,seval,V7,aSb T h hn hE hA,NW];cases T with
 | none=>exact bX rfl (by simp only[E8,seval]<;>rfl) (.v _)
 | some l=>exact tO rfl (by simp only[E8,seval]<;>rfl) (by simp only[E8,seval,yS,rl,List.length_cons,Nat.lt_add_left_iff_pos,Nat.zero_lt_succ,if_true]<;>rfl) (jV _ pH)
theorem aSd (T:Option (List Table)) (h:T≠some []) (hn:((ol T).length:Int)<1000000) (hE:∀a∈ol T,∃V,a.iP=ov bJ (some V)∧V≠[]) (hA:∀a∈ol T,qJ a) (st:St) (d:Nat) :
 aN (aB Tryz.prog) 166 [ov aI T] st (some d)=some { dst:=some d,val:=rv d (st.aQ d) T,new:=SS d (rl 118 34 aI T)}:=Er (cU (fY T fun y m=>(hA y m).fl)) (aSc T h hn hE hA)
theorem aSe (L:Option (List kN)) (Q:Option (List Int)) (h1:L≠some []) (h2:Q≠some []) (n1:((ol L).length:Int)<1000000) (n2:((ol Q).length:Int)<1000000) :
 aB Tryz.prog 161 [.agg (fD ⟨ov dC L,ov aK Q⟩)]=some (.agg (fD ⟨uo 100 34 dC L,uo 3 1 aK Q⟩)):=by
 rw[cL Tryz.func161 rfl aML rfl];simp only[Z8,seval,aRZ L h1 n1,aME Q h2 n2,NW];refine Wj rfl (.inl rfl) rfl (x:=.agg (fD ⟨rv 5 0 L,rv 8 0 Q⟩)) (by simp only[bY,Z8,seval,NW]) ?_ (EY ?_)
 ·simp only[lV,jE,fD,List.flatMap_append,List.flatMap_cons,List.flatMap_nil,List.append_nil,EZ];cases L<;>cases Q<;>simp
 ·unfold fD;rw[NQ,uK (rQ (e:=100) (sz:=34) (c:=dC) ?_ fun l _=>mY l),cK,uK (rQ (e:=3) (sz:=1) (c:=aK) ?_ fun l _=>gF l),cK]
  ·intro l hl;subst hl;simp only[E8,seval,yS,rl,List.length_cons,Nat.lt_add_left_iff_pos,Nat.zero_lt_succ,if_true]<;>rfl
  ·intro l hl;subst hl;simp only[E8,seval,yS,rl,List.length_cons,Nat.lt_add_left_iff_pos,Nat.zero_lt_succ,if_true]<;>rfl
theorem Xt (d c:Nat) (L:Option (List kN)) (Q:Option (List Int)):qM (yW d) c (fD ⟨uo 100 34 dC L,uo 3 1 aK Q⟩)=(fD ⟨rv d c L,rv d (c+(rl 100 34 dC L).length) Q⟩,rl 100 34 dC L++rl 3 1 aK Q):=by
 unfold fD;rw[NP,HI,HI]
theorem aSf (L:Option (List kN)) (Q:Option (List Int)) (h1:L≠some []) (h2:Q≠some []) (n1:((ol L).length:Int)<1000000) (n2:((ol Q).length:Int)<1000000) (st:St) (d:Nat) :
 aN (aB Tryz.prog) 161 [.agg (fD ⟨ov dC L,ov aK Q⟩)] st (some d)=some { dst:=some d,val:=.agg (fD ⟨rv d (st.aQ d) L,rv d (st.aQ d+(rl 100 34 dC L).length) Q⟩),new:=SS d (rl 100 34 dC L++rl 3 1 aK Q)}:=by
 rw[ZW (cU (.agg _ (qT _ (qY L) (bW Q)))) (aSe L Q h1 h2 n1 n2) ?_,Xt];rw[Xt];cases L with
 | some l=>exact .inr (by simp[rl])
 | none =>
   cases Q with
   | some q=>exact .inr (by simp[rl])
   | none=>exact .inl (.agg _ (qT _ (.v _) (.v _)))
def SU (s:aL) (b l q e o n t:AV):aL:={ s with cFg:={ s.cFg with iP:=b },gH:=⟨l,q⟩,cD:=⟨e,o⟩,tree:=⟨n⟩,tables:=t }
theorem UZ {st:St} (s:aL) {b l q e o n t b' l' q' e' o' n' t':AV} (h1:kK st b=some b') (h2:kK st l=some l') (h3:kK st q=some q') (h4:kK st e=some e') (h5:kK st o=some o') (h6:kK st n=some n') (h7:kK st t=some t') :
 BL st (aA (SU s b l q e o n t))=some (aA (SU s b' l' q' e' o' n' t')):=by
 simp only[SU,aA,bV,fD,jU,mS,NQ,uK h1,uK h2,uK h3,uK h4,uK h5,uK h6,uK h7,Dg (uM _),Dg (eC _),Dg (iQ _),Dg (dT _),Dg (lC _),cK]
theorem BM (s:aL) (b l q e o n t:AV):(aA (SU s b l q e o n t)).flatMap hU=hU b++(hU l++(hU q++(hU e++(hU o++(hU n++hU t))))):=by
 simp only[SU,aA,bV,fD,jU,mS,List.flatMap_append,List.flatMap_cons,List.flatMap_nil,List.append_nil,uL (uM _),uL (eC _),uL (iQ _),uL (dT _),uL (lC _),List.nil_append,List.append_assoc]
theorem Es {α:Type} (e sz:Nat) (c:List α→List AV) (l:List α):rl e sz c (some l)=[.row e sz l.length (c l)]:=rfl
theorem aSg {s:aL} {v:SV} (hs:SD s v) (gR:NEv v) (hB:v.B≠some []) (hL:v.L≠some []) (ht:0<v.ns.length) :
 aB Tryz.prog 109 [.agg (aA s)]=some (.agg (aA (SU s (uo 23 1 bJ v.B) (uo 100 34 dC v.L) (uo 3 1 aK v.Q) (uo 87 67 dN v.E) (uo 74 238 aF v.O) (.uniq 76 240 v.ns.length (bZ v.ns)) (uo 118 34 aI v.T)))):=by
 have hv:s.gH=⟨ov dC v.L,ov aK v.Q⟩:=by
  have h1:=hs.eA
  have h2:=hs.gW
  cases hc:s.gH with
  | mk a b=>rw[hc] at h1 h2;simp only at h1 h2;rw[h1,h2]
 rw[cL Tryz.func109 rfl aMM rfl];simp only[Z8,seval,hs.iP,hv,hs.early,hs.bK,hs.tree,hs.tables,V7,NW,aMD v.B hB hs.nB,aSf v.L v.Q hL gR.q hs.nL hs.nQ,aR9 v.E gR.e hs.nE gR.ea hs.eV,aR2 v.O gR.o hs.nO,aPE v.ns ht hs.nn,aSd v.T gR.t hs.nT gR.tb hs.tB];refine Wj rfl (.inl rfl) rfl (x:=.agg (aA (SU s (rv 6 0 v.B) (rv 11 0 v.L) (rv 11 (rl 100 34 dC v.L).length v.Q) (rv 16 0 v.E) (rv 22 0 v.O) (.own 27 0) (rv 31 0 v.T)))) ?x1 ?x2 (EY (UZ s ?b1 ?l1 ?q1 ?e1 ?o1 ?n1 ?t1))
 case x1=>simp only[bY,Z8,seval,NW,SU]
 case x2 =>
  show ((aA _).flatMap hU).Nodup
  rw[BM];simp only[EZ,show ∀a b,hU (.own a b)=[(a,b)] from fun _ _=>rfl]
  cases v.B<;>cases hvl:v.L<;>cases v.Q<;>cases v.E<;>cases v.O<;>cases v.T<;>simp[rl]
 case b1=>exact rQ (fun l hl=>by simp only[E8,seval,NW,hl,Es,List.length_cons,List.length_nil,Nat.lt_add_left_iff_pos,Nat.zero_lt_succ,if_true]<;>rfl) fun l _=>iF l
 case l1 =>
  refine rQ (fun l hl=>?_) fun l _=>mY l
  simp only[E8,seval,NW,hl,Es];simp
 case q1 =>
  refine rQ (fun l hl=>?_) fun l _=>gF l
  simp only[E8,seval,NW,hl,Es];simp
 case e1=>exact rQ (fun l hl=>by simp only[E8,seval,NW,hl,Es,List.length_cons,List.length_nil,Nat.lt_add_left_iff_pos,Nat.zero_lt_succ,if_true]<;>rfl) fun l hl=>sW l fun y m=>(hs.eV y (by rw[hl];exact m)).fl
 case o1=>exact rQ (fun l hl=>by simp only[E8,seval,NW,hl,Es,List.length_cons,List.length_nil,Nat.lt_add_left_iff_pos,Nat.zero_lt_succ,if_true]<;>rfl) fun l _=>lA l
 case n1=>exact rQ (L:=some v.ns) (fun l hl=>by cases hl;simp only[E8,seval,NW,Es,List.length_cons,List.length_nil,Nat.lt_add_left_iff_pos,Nat.zero_lt_succ,if_true]<;>rfl) fun l _=>iD l
 case t1=>exact rQ (fun l hl=>by simp only[E8,seval,NW,hl,Es,List.length_cons,List.length_nil,Nat.lt_add_left_iff_pos,Nat.zero_lt_succ,if_true]<;>rfl) fun l hl=>jV l fun y m=>(hs.tB y (by rw[hl];exact m)).fl
theorem V8 (d c e sz n:Nat) (cs:List AV):qM (yW d) c [.uniq e sz n cs]=([.own d c],[.row e sz n cs]):=rfl
def Ju (v:SV):List nU:=rl 23 1 bJ v.B++(rl 100 34 dC v.L++(rl 3 1 aK v.Q++(rl 87 67 dN v.E++(rl 74 238 aF v.O++([.row 76 240 v.ns.length (bZ v.ns)]++rl 118 34 aI v.T)))))
def nB (v:SV):Nat:=(rl 23 1 bJ v.B).length
def nL (v:SV):Nat:=nB v+(rl 100 34 dC v.L).length
def nQ (v:SV):Nat:=nL v+(rl 3 1 aK v.Q).length
def nE (v:SV):Nat:=nQ v+(rl 87 67 dN v.E).length
def nO (v:SV):Nat:=nE v+(rl 74 238 aF v.O).length
def Oc (s:aL) (v:SV) (d c:Nat):aL:=SU s (rv d c v.B) (rv d (c+nB v) v.L) (rv d (c+nL v) v.Q) (rv d (c+nQ v) v.E) (rv d (c+nE v) v.O) (.own d (c+nO v)) (rv d (c+nO v+1) v.T)
theorem Xu (s:aL) (v:SV) (d c:Nat):qM (yW d) c (aA (SU s (uo 23 1 bJ v.B) (uo 100 34 dC v.L) (uo 3 1 aK v.Q) (uo 87 67 dN v.E) (uo 74 238 aF v.O) (.uniq 76 240 v.ns.length (bZ v.ns)) (uo 118 34 aI v.T)))=(aA (Oc s v d c),Ju v):=by
 simp only[SU,Oc,aA,bV,fD,jU,mS,NP,HI,V8,yU d _ (uM _),yU d _ (eC _),yU d _ (iQ _),yU d _ (dT _),yU d _ (lC _),List.nil_append,List.length_nil,Nat.add_zero,List.append_assoc,List.length_append,List.length_cons,Ju,nO,nE,nQ,nL,nB,Nat.add_assoc,List.append_nil]
theorem aSh {s:aL} {v:SV} (hs:SD s v) (gR:NEv v) (hB:v.B≠some []) (hL:v.L≠some []) (ht:0<v.ns.length) (st:St) (d:Nat) :
 aN (aB Tryz.prog) 109 [.agg (aA s)] st (some d)=some { dst:=some d,val:=.agg (aA (Oc s v d (st.aQ d))),new:=some (d,Ju v)}:=by
 have h0:Ju v≠[]:=by simp[Ju]
 rw[ZW (cU hs.flat) (aSg hs gR hB hL ht) (by rw[Xu];exact .inr h0),Xu]
 simp only[SS,if_neg h0]
theorem NS (x:Option Nat) (y:AV) (d:Nat) (v:SV) (st:St):({ dst:=x,val:=y,new:=some (d,Ju v)}:rT).apply st=(st.news d (Ju v)).put x y:=rfl
theorem HJ {α:Type} (d k:Nat) (l:List α):rv d k (some l)=.own d k:=rfl
theorem aCP {α:Type} (d k:Nat):rv d k (none:Option (List α))=.v (.slice none 0 0):=rfl
theorem nN {α:Type} (a b:List α) (n i:Nat) (h:n=a.length+i):(a++b)[n]? = b[i]?:=by
 rw[h,List.getElem?_append_right (by omega)]
 congr 1
 omega
theorem aMN (v:SV) (l:List Int) (h:v.B=some l):(Ju v)[0]? = some (.row 23 1 l.length (bJ l)):=by simp[Ju,h,rl]
theorem aMO (v:SV) (l:List kN) (h:v.L=some l):(Ju v)[nB v]? = some (.row 100 34 l.length (dC l)):=by
 unfold Ju;rw[nN _ _ _ 0 (by simp[nB]),h];rfl
theorem aMP (v:SV) (l:List Int) (h:v.Q=some l):(Ju v)[nL v]? = some (.row 3 1 l.length (aK l)):=by
 unfold Ju;rw[nN _ _ _ _ (show nL v=_+_ from rfl),nN _ _ _ 0 (by simp),h];rfl
theorem aMQ (v:SV) (l:List sC) (h:v.E=some l):(Ju v)[nQ v]? = some (.row 87 67 l.length (dN l)):=by
 unfold Ju;rw[nN _ _ _ ((rl 100 34 dC v.L).length+(rl 3 1 aK v.Q).length) (by simp[nQ,nL,nB,Nat.add_assoc]),nN _ _ _ _ rfl,nN _ _ _ 0 (by simp),h];rfl
theorem aGS (v:SV) (l:List Block) (h:v.O=some l):(Ju v)[nE v]? = some (.row 74 238 l.length (aF l)):=by
 unfold Ju;rw[nN _ _ _ ((rl 100 34 dC v.L).length+((rl 3 1 aK v.Q).length+(rl 87 67 dN v.E).length)) (by simp[nE,nQ,nL,nB,Nat.add_assoc]),nN _ _ _ _ rfl,nN _ _ _ _ rfl,nN _ _ _ 0 (by simp),h];rfl
theorem aGT (v:SV):(Ju v)[nO v]? = some (.row 76 240 v.ns.length (bZ v.ns)):=by
 unfold Ju;rw[nN _ _ _ ((rl 100 34 dC v.L).length+((rl 3 1 aK v.Q).length+((rl 87 67 dN v.E).length+(rl 74 238 aF v.O).length))) (by simp[nO,nE,nQ,nL,nB,Nat.add_assoc]),nN _ _ _ _ rfl,nN _ _ _ _ rfl,nN _ _ _ _ rfl,nN _ _ _ 0 (by simp)];rfl
theorem aGU (v:SV) (l:List Table) (h:v.T=some l):(Ju v)[nO v+1]? = some (.row 118 34 l.length (aI l)):=by
 unfold Ju;rw[nN _ _ _ ((rl 100 34 dC v.L).length+((rl 3 1 aK v.Q).length+((rl 87 67 dN v.E).length+((rl 74 238 aF v.O).length+1)))) (by simp[nO,nE,nQ,nL,nB,Nat.add_assoc]),nN _ _ _ _ rfl,nN _ _ _ _ rfl,nN _ _ _ _ rfl,nN _ _ _ _ rfl,nN _ _ _ 0 (by simp),h];rfl
theorem NT (x:Int):(x != x)=false:=by simp
theorem VA (x:Int):(x == x)=true:=by simp
theorem aSi (o:Option (List Int)) (hn:((ol o).length:Int)<1000000):aB Tryz.prog 103 [ov bJ o,ov bJ o]=some (.v (.bool true)):=by
 rw[cL Tryz.func103 rfl aFa (by cases o<;>rfl)]
 refine iN ?_
 simp only[Z8,seval,NT];refine cF (fun m st=>∃k:Nat,(st.env 0=ov bJ o∧st.env 1=ov bJ o∧st.env 5=.v (.int .i64 k))∧k≤(ol o).length∧m=(ol o).length-k)
  (fun e st=>e=.exit 0) (ol o).length ?step ?start ?rest
 case step =>
  rintro m st ⟨k,hI,hk,hm⟩
  by_cases bA:(k:Int)<(ol o).length
  ·have q0:(0:Int)≤k:=by omega
   have hw:IntKind.i64.wrap ((k:Int)+1)=((k+1:Nat):Int):=by rw[mZ _ (by omega) (by omega)];omega
   apply oN ((ol o).length-(k+1))
   ·simp only[Z8,seval,hI,bA,q0,NT,hw];rfl
   ·exact⟨k+1,by simp only[E8,seval,hI],by omega,rfl⟩
  ·apply oT (.exit 0)
   ·simp only[Z8,seval,hI,bA];rfl
   ·exact rfl
 case start=>exact⟨0,by simp only[E8,seval]<;>exact⟨rfl,rfl,rfl⟩,by omega,by omega⟩
 case rest =>
  rintro e st rfl
  simp only[Z8,seval];exact⟨_,bX rfl (by simp only[E8,seval]<;>rfl) (by first|exact .v _|simp only[dV]),rfl⟩
theorem S3 (o:Option (List Int)) (hn:((ol o).length:Int)<1000000) (st:St) (d:Option Nat):aN (aB Tryz.prog) 103 [ov bJ o,ov bJ o] st d=some { dst:=d,val:=.v (.bool true)}:=bG (bE (dU o) (dU o)) (aSi o hn) (.v _)
theorem aSj (o:Option (List kN)) (hn:((ol o).length:Int)<1000000):aB Tryz.prog 104 [ov dC o,ov dC o]=some (.v (.bool true)):=by
 rw[cL Tryz.func104 rfl aMR (by cases o<;>rfl)]
 refine iN ?_
 simp only[Z8,seval,NT];refine cF (fun m st=>∃k:Nat,(st.env 0=ov dC o∧st.env 1=ov dC o∧st.env 5=.v (.int .i64 k))∧k≤(ol o).length∧m=(ol o).length-k)
  (fun e st=>e=.exit 0) (ol o).length ?step ?start ?rest
 case step =>
  rintro m st ⟨k,hI,hk,hm⟩
  by_cases bA:(k:Int)<(ol o).length
  ·have q0:(0:Int)≤k:=by omega
   have hw:IntKind.i64.wrap ((k:Int)+1)=((k+1:Nat):Int):=by rw[mZ _ (by omega) (by omega)];omega
   apply oN ((ol o).length-(k+1))
   ·simp only[Z8,seval,hI,bA,q0,NT,hw];rfl
   ·exact⟨k+1,by simp only[E8,seval,hI],by omega,rfl⟩
  ·apply oT (.exit 0)
   ·simp only[Z8,seval,hI,bA];rfl
   ·exact rfl
 case start=>exact⟨0,by simp only[E8,seval]<;>exact⟨rfl,rfl,rfl⟩,by omega,by omega⟩
 case rest =>
  rintro e st rfl
  simp only[Z8,seval];exact⟨_,bX rfl (by simp only[E8,seval]<;>rfl) (by first|exact .v _|simp only[dV]),rfl⟩
theorem aMS (o:Option (List kN)) (hn:((ol o).length:Int)<1000000) (st:St) (d:Option Nat):aN (aB Tryz.prog) 104 [ov dC o,ov dC o] st d=some { dst:=d,val:=.v (.bool true)}:=bG (bE (qY o) (qY o)) (aSj o hn) (.v _)
theorem aMT (o:Option (List Int)) (hn:((ol o).length:Int)<1000000):aB Tryz.prog 105 [ov aK o,ov aK o]=some (.v (.bool true)):=by
 rw[cL Tryz.func105 rfl aE9 (by cases o<;>rfl)]
 refine iN ?_
 simp only[Z8,seval,NT];refine cF (fun m st=>∃k:Nat,(st.env 0=ov aK o∧st.env 1=ov aK o∧st.env 5=.v (.int .i64 k))∧k≤(ol o).length∧m=(ol o).length-k)
  (fun e st=>e=.exit 0) (ol o).length ?step ?start ?rest
 case step =>
  rintro m st ⟨k,hI,hk,hm⟩
  by_cases bA:(k:Int)<(ol o).length
  ·have q0:(0:Int)≤k:=by omega
   have hw:IntKind.i64.wrap ((k:Int)+1)=((k+1:Nat):Int):=by rw[mZ _ (by omega) (by omega)];omega
   apply oN ((ol o).length-(k+1))
   ·simp only[Z8,seval,hI,bA,q0,NT,hw];rfl
   ·exact⟨k+1,by simp only[E8,seval,hI],by omega,rfl⟩
  ·apply oT (.exit 0)
   ·simp only[Z8,seval,hI,bA];rfl
   ·exact rfl
 case start=>exact⟨0,by simp only[E8,seval]<;>exact⟨rfl,rfl,rfl⟩,by omega,by omega⟩
 case rest =>
  rintro e st rfl
  simp only[Z8,seval];exact⟨_,bX rfl (by simp only[E8,seval]<;>rfl) (by first|exact .v _|simp only[dV]),rfl⟩
theorem V9 (o:Option (List Int)) (hn:((ol o).length:Int)<1000000) (st:St) (d:Option Nat):aN (aB Tryz.prog) 105 [ov aK o,ov aK o] st d=some { dst:=d,val:=.v (.bool true)}:=bG (bE (bW o) (bW o)) (aMT o hn) (.v _)
theorem aSk (a:sC) (V:Option (List Int)) (ha:a.eU=ov aK V) (hn:((ol V).length:Int)<1000000):aB Tryz.prog 108 [.agg (iB a),.agg (iB a)]=some (.v (.bool true)):=by
 rw[cL Tryz.func108 rfl aFb rfl];refine iN ?_
 simp only[Z8,seval,ha,VA,V9 V hn];exact⟨_,bX rfl (by simp only[E8,seval]<;>rfl) (by first|exact .v _|simp only[dV]),rfl⟩
theorem aMU (a:sC) (h:Cw a) (st:St) (d:Option Nat):aN (aB Tryz.prog) 108 [.agg (iB a),.agg (iB a)] st d=some { dst:=d,val:=.v (.bool true)}:=by
 obtain⟨V,ha,hl⟩:=h
 have hf:Flat (.agg (iB a)):=(zJ a).2 (by rw[ha];exact bW V)
 exact bG (bE hf hf) (aSk a V ha hl) (.v _)
theorem aSl (a:Table) (V:Option (List Int)) (ha:a.iP=ov bJ V) (hn:((ol V).length:Int)<1000000):aB Tryz.prog 159 [.agg (cA a),.agg (cA a)]=some (.v (.bool true)):=by
 rw[cL Tryz.func159 rfl aFc rfl];refine iN ?_
 simp only[Z8,seval,ha,VA,S3 V hn];exact⟨_,bX rfl (by simp only[E8,seval]<;>rfl) (by first|exact .v _|simp only[dV]),rfl⟩
theorem aMV (a:Table) (h:qJ a) (st:St) (d:Option Nat):aN (aB Tryz.prog) 159 [.agg (cA a),.agg (cA a)] st d=some { dst:=d,val:=.v (.bool true)}:=by
 obtain⟨V,ha,hl⟩:=h
 have hf:Flat (.agg (cA a)):=(iE a).2 (by rw[ha];exact dU V)
 exact bG (bE hf hf) (aSl a V ha hl) (.v _)
theorem aSm (o:Option (List Table)) (hn:((ol o).length:Int)<1000000) (hA:∀a∈ol o,qJ a):aB Tryz.prog 107 [ov aI o,ov aI o]=some (.v (.bool true)):=by
 rw[cL Tryz.func107 rfl aFw (by cases o<;>rfl)]
 refine iN ?_
 simp only[Z8,seval,NT,VA];refine cF (fun m st=>∃k:Nat,(st.env 0=ov aI o∧st.env 1=ov aI o∧st.env 5=.v (.int .i64 k))∧k≤(ol o).length∧m=(ol o).length-k)
  (fun e st=>e=.exit 0) ((ol o).length) ?step ?start ?rest
 case step =>
  rintro m st ⟨k,hI,hk,hm⟩
  by_cases bA:(k:Int)<((ol o).length:Nat)
  ·have q0:(0:Int)≤k:=by omega
   have hw:IntKind.i64.wrap ((k:Int)+1)=((k+1:Nat):Int):=by rw[mZ _ (by omega) (by omega)];omega
   have kk:=aMV _ (hA _ (pF (z:=dX) q0 bA))
   apply oN ((ol o).length-(k+1))
   ·simp only[Z8,seval,hI,bA,q0,kk,NT,hw,VA];rfl
   ·exact⟨k+1,by simp only[E8,seval,hI],by omega,rfl⟩
  ·apply oT (.exit 0)
   ·simp only[Z8,seval,hI,bA,VA];rfl
   ·exact rfl
 case start=>exact⟨0,by simp only[E8,seval]<;>exact⟨rfl,rfl,rfl⟩,by omega,by omega⟩
 case rest =>
  rintro e st rfl
  simp only[Z8,seval];exact⟨_,bX rfl (by simp only[E8,seval]<;>rfl) (by first|exact .v _|simp only[dV]),rfl⟩
theorem aSn (o:Option (List Table)) (hn:((ol o).length:Int)<1000000) (hA:∀a∈ol o,qJ a) (st:St) (d:Option Nat):aN (aB Tryz.prog) 107 [ov aI o,ov aI o] st d=some { dst:=d,val:=.v (.bool true)} :=
 bG (bE (fY o fun y m=>(hA y m).fl) (fY o fun y m=>(hA y m).fl)) (aSm o hn hA) (.v _)
end Go.Ab.Tryz
namespace Go.Ab.Tryz
open Classical Go.Proofs Go.Ab
end Go.Ab.Tryz
namespace Go.Ab.Tryz
open Classical Go.Proofs Go.Ab
def nS (v:SV):Nat:=(Ju v).length
def nR (v:SV) (Q:Option (List Request)):Nat:=nS v+(rl 63 35 aE Q).length
theorem W0 (v:SV) (j:Nat):(if j<(Ju v).length then (Ju v)[j]? else none)=(Ju v)[j]?:=by
 split
 ·rfl
 ·rw[List.getElem?_eq_none (by omega)]
theorem aGV {st:St} {s:aL} {v:SV} (hs:SD s v) {d c:Nat} (hh:∀j,j<nS v→st.heap d (c+j)=(Ju v)[j]?):Ua st (aA (Oc s v d c))=some (aA s):=by
 have ix:∀ {j:Nat} {e:nU},(Ju v)[j]? = some e→st.heap d (c+j)=some e:=fun h=>by rw[hh _ (List.getElem?_eq_some_iff.1 h).1,h]
 rw[gG];simp only[Oc,SU];rw[mK (e:=23) (sz:=1) (c:=bJ) (fun l hl=>by have:=ix (aMN v l hl);rwa [Nat.add_zero] at this) (fun l _=>iF l),cK,
  mK (e:=100) (sz:=34) (c:=dC) (fun l hl=>ix (aMO v l hl)) (fun l _=>mY l),cK,
  mK (e:=3) (sz:=1) (c:=aK) (fun l hl=>ix (aMP v l hl)) (fun l _=>gF l),cK,
  mK (e:=87) (sz:=67) (c:=dN) (fun l hl=>ix (aMQ v l hl)) (fun l hl=>sW l fun y m=>(hs.eV y (by rw[hl];exact m)).fl),cK,
  mK (e:=74) (sz:=238) (c:=aF) (fun l hl=>ix (aGS v l hl)) (fun l _=>lA l),cK,
  ← HJ d (c+nO v) v.ns,mK (e:=76) (sz:=240) (c:=bZ) (fun l hl=>by cases hl;exact ix (aGT v)) (fun l _=>iD l),cK,
  mK (e:=118) (sz:=34) (c:=aI) (fun l hl=>by have:=ix (aGU v l hl);rwa [← Nat.add_assoc] at this) (fun l hl=>jV l fun y m=>(hs.tB y (by rw[hl];exact m)).fl),cK]
 have hn:ov bZ (some v.ns)=s.tree.nodes:=by rw[hs.tree];rfl
 rw[hn,← hs.iP,← hs.eA,← hs.gW,← hs.early,← hs.bK,← hs.tables]
end Go.Ab.Tryz
namespace Go.Ab.Tryz
open Classical Go.Proofs Go.Ab
end Go.Ab.Tryz
namespace Go.Ab.Tryz
open Classical Go.Proofs Go.Ab
theorem aFx:aC 4 77 (some 54)=[]:=rfl
theorem x42 {s:aL} {v:SV} (hs:SD s v):∃r,aB Tryz.prog 42 [.agg (aA s),.agg (aA s)]=some r∧r=.v (.bool true):=by
 have pH:=hs.flat
 rw[cG Tryz.func42 rfl aMW (by kernel_rfl) rfl]
 have kB:=S3 v.B hs.nB
 have kL:=aMS v.L hs.nL
 have kQ:=V9 v.Q hs.nQ
 have kn:=aJ8 v.ns v.ns hs.nn
 have kT:=aSn v.T hs.nT hs.tB
 simp only[ZG,seval,Bool.false_and,Prod.mk.injEq,Od,aFx,hs.iP,hs.eA,hs.gW,hs.early,hs.bK,hs.tree,hs.tables,NT,VA,kB,kL,kQ,kn,kT,decide_true,Bool.not_true,lS,lU];refine jH (fun m st=>∃k:Nat,(st.env 2=.ptr 2 0 0∧st.heap 2 0=some (.cells (aA s))∧st.env 3=.ptr 3 0 0∧st.heap 3 0=some (.cells (aA s))∧st.env 7=.v (.int .i64 k))∧k≤(ol v.E).length∧m=(ol v.E).length-k)
  (fun e st=>e=.exit 0∧(st.env 2=.ptr 2 0 0∧st.heap 2 0=some (.cells (aA s))∧st.env 3=.ptr 3 0 0∧st.heap 3 0=some (.cells (aA s)))) (ol v.E).length ?step ?start ?rest
 case step =>
  rintro m st ⟨k,hI,hk,hm⟩
  have hn:=hs.nE
  by_cases bA:(k:Int)<(ol v.E).length
  ·have q0:(0:Int)≤k:=by omega
   have hw:IntKind.i64.wrap ((k:Int)+1)=((k+1:Nat):Int):=by rw[mZ _ (by omega) (by omega)];omega
   have kk:=aMU _ (hs.eV _ (pF (z:=Hk) q0 bA))
   apply Am ((ol v.E).length-(k+1))
   ·simp only[ZG,seval,Bool.false_and,Prod.mk.injEq,Od,hs.early,hI,bA,q0,kk,NT,Bool.not_true,hw];rfl
   ·exact⟨k+1,by simp only[E8,seval,hI],by omega,rfl⟩
  ·apply AX (.exit 0)
   ·simp only[ZG,seval,Bool.false_and,Prod.mk.injEq,Od,hs.early,hI,bA];rfl
   ·exact⟨rfl,by simp only[E8,seval,hI]⟩
 case start=>exact⟨0,by simp only[E8,seval]<;>exact⟨rfl,rfl,rfl,rfl,rfl⟩,by omega,by omega⟩
 case rest =>
  rintro e st ⟨rfl,hI⟩
  simp only[ZG,seval,Bool.false_and,Prod.mk.injEq,Od,hI];refine jH (fun m st=>∃k:Nat,(st.env 2=.ptr 2 0 0∧st.heap 2 0=some (.cells (aA s))∧st.env 3=.ptr 3 0 0∧st.heap 3 0=some (.cells (aA s))∧st.env 8=.v (.int .i64 k))∧k≤(ol v.O).length∧m=(ol v.O).length-k)
   (fun e st=>e=.exit 2) (ol v.O).length ?MK ?Xf ?Xg
  case MK =>
   rintro m st ⟨k,hI,hk,hm⟩
   have hn:=hs.nO
   by_cases bA:(k:Int)<(ol v.O).length
   ·have q0:(0:Int)≤k:=by omega
    have hw:IntKind.i64.wrap ((k:Int)+1)=((k+1:Nat):Int):=by rw[mZ _ (by omega) (by omega)];omega
    apply Am ((ol v.O).length-(k+1))
    ·simp only[ZG,seval,Bool.false_and,Prod.mk.injEq,Od,hs.bK,hI,bA,q0,NT,decide_true,Bool.not_true,hw];rfl
    ·exact⟨k+1,by simp only[E8,seval,hI],by omega,rfl⟩
   ·apply AX (.exit 2)
    ·simp only[ZG,seval,Bool.false_and,Prod.mk.injEq,Od,hs.bK,hI,bA];rfl
    ·exact rfl
  case Xf=>exact⟨0,by simp only[E8,seval,hI]<;>exact⟨rfl,rfl,rfl,rfl,rfl⟩,by omega,by omega⟩
  case Xg =>
   rintro e st rfl
   simp only[ZG,seval,Bool.false_and,Prod.mk.injEq,Od];exact⟨_,bX rfl (by simp only[E8,seval]<;>rfl) (by first|exact .v _|simp only[dV]),rfl⟩
theorem k42 {s:aL} {v:SV} (hs:SD s v) (st:St) (d:Option Nat):aN (aB Tryz.prog) 42 [.agg (aA s),.agg (aA s)] st d=some { dst:=d,val:=.v (.bool true)}:=by
 obtain⟨r,h,e⟩:=x42 hs
 subst e;exact bG (bE hs.flat hs.flat) h (.v _)
end Go.Ab.Tryz
namespace Go.Ab.Tryz
open Classical Go.Proofs Go.Ab
open Classical Go.Proofs Go.Ab
open Classical Go.Proofs Go.Ab
end Go.Ab.Tryz
namespace Go.Ab.Tryz
open Classical Go.Proofs Go.Ab
theorem beB (x:Bool):(x == x)=true:=by simp
theorem TI.lists {t:State} {v:SV} {Q R:Option (List Request)} {q m:Int} (T:TI t v Q R q m):v.B≠some []∧∃L,v.L=some L∧L≠[]:=by
 have h1:=T.toTI0.iP.1
 have h2:=T.gi.MH
 constructor
 ·intro h;rw[h] at h1;exact absurd h1 (by simp[ol])
 ·cases h:v.L with
  | none=>rw[h] at h2;simp only[ol,Option.getD_none,List.length_nil] at h2;simp only[ol] at h1;omega
  | some L =>
    refine⟨L,rfl,fun e=>?_⟩
    rw[h,e] at h2;simp only[ol,Option.getD_some,List.length_nil] at h2;simp only[ol] at h1;omega
end Go.Ab.Tryz
namespace Go.Ab.Tryz
open Classical Go.Proofs Go.Ab
end Go.Ab.Tryz
namespace Go.Ab.Tryz
open Classical Go.Proofs Go.Ab
structure WT (t:State) (v:SV):Prop where
 td:TD t v (some [⟨⟨1⟩,mkRoot 9,0,0⟩]) none
 ne:NEv v
 hB:v.B≠some []
 hL:v.L≠some []
 pos:0<v.ns.length
 op:zQ v.ns (mkRoot 9)
 tag:t.cZ=2
 now:t.store.now=1
end Go.Ab.Tryz
namespace Go.Ab.Tryz
open Classical Go.Proofs Go.Ab
end Go.Ab.Tryz
namespace Go.Ab.Tryz
open Go Go.Ab
def Dh:List Value:=[.int .u64 0]++([.int .i64 0]++tJ)
theorem aGW {n:Int} (hn:IntKind.u64.has n):Rg n:=by
 simp only[IntKind.has,IntKind.min,IntKind.max,IntKind.signed,IntKind.bits] at hn;simp at hn
 exact⟨by omega,by omega⟩
theorem NU {x:dP} (h:∀k n,AV.v (.int k n)∈aY x→k.has n):Rg x.aG:=aGW (h _ _ (by simp[aY,lI]))
end Go.Ab.Tryz
namespace Go.Ab.Tryz
open Classical Go.Proofs Go.Ab
end Go.Ab.Tryz
namespace Go.Ab.Tryz
open Classical Go.Proofs Go.Ab
theorem aFy (o:Option (List Table)) (hn:((ol o).length:Int)<1000000) (f:Nat) (mF:List AV) (p:Table→Bool) (kf:∀x∈ol o,∀(st:St) (d:Option Nat),aN (aB Tryz.prog) f ([.agg (cA x)]++mF) st d=some { dst:=d,val:=.v (.bool (p x))}):aB Tryz.prog 173 [ov aI o,.rS f mF]=some (.v (.int .i64 (uF (fun k=>p (gx dX (ol o) k)=true) (ol o).length))):=by
 rw[cL Tryz.func173 rfl aMX (by cases o<;>rfl)]
 refine iN ?_
 simp only[Z8,seval];refine cF (fun m st=>∃k:Nat,(st.env 0=ov aI o∧st.env 1=.rS f mF∧st.env 7=.v (.int .i64 (ol o).length)∧st.env 8=.v (.int .i64 k))∧(∀j:Nat,j<k→¬p (gx dX (ol o) j)=true)∧k≤(ol o).length∧m=(ol o).length-k)
  (fun e st=>(e=.ret∧∃k:Nat,k<(ol o).length∧p (gx dX (ol o) k)=true∧(∀j:Nat,j<k→¬p (gx dX (ol o) j)=true)∧st.env 4=.v (.int .i64 k))∨(e=.exit 0∧∀j:Nat,j<(ol o).length→¬p (gx dX (ol o) j)=true)) (ol o).length ?step ?start ?rest
 case step =>
  rintro m st ⟨k,hI,hj,hk,hm⟩
  by_cases bA:(k:Int)<(ol o).length
  ·have q0:(0:Int)≤k:=by omega
   have hw:IntKind.i64.wrap ((k:Int)+1)=((k+1:Nat):Int):=by rw[mZ _ (by omega) (by omega)];omega
   have kx':=kf _ (pF (z:=dX) q0 bA)
   by_cases hr:p (gx dX (ol o) k)=true
   ·rw[hr] at kx'
    apply oT (.ret)
    ·simp only[Z8,seval,hI,bA,q0,kx'];rfl
    ·exact .inl ⟨rfl,k,by omega,hr,hj,by simp only[E8,seval]⟩
   ·have hf:p (gx dX (ol o) k)=false:=by simpa using hr
    rw[hf] at kx'
    apply oN ((ol o).length-(k+1))
    ·simp only[Z8,seval,hI,bA,q0,kx',hw];rfl
    ·exact⟨k+1,by simp only[E8,seval,hI],fun j h=>(Nat.lt_succ_iff_lt_or_eq.1 h).elim (hj j) fun e=>by subst e;exact hr,by omega,rfl⟩
  ·apply oT (.exit 0)
   ·simp only[Z8,seval,hI,bA];rfl
   ·exact .inr ⟨rfl,fun j h=>hj j (by omega)⟩
 case start=>exact⟨0,by simp only[E8,seval]<;>rfl,fun j h=>by omega,by omega,by omega⟩
 case rest =>
  rintro e st (⟨rfl,k,hk,hh,hj,h⟩|⟨rfl,hj⟩)
  ·have hv:uF (fun k=>p (gx dX (ol o) k)=true) (ol o).length=k:=Bd hh hj _ hk
   simp only[Z8,seval];exact⟨_,bX rfl (by simp only[E8,seval,h]<;>rfl) (by first|exact .v _|simp only[dV,h]),by rw[hv]⟩
  ·have hv:uF (fun k=>p (gx dX (ol o) k)=true) (ol o).length=-1:=tG _ hj
   simp only[Z8,seval];exact⟨_,bX rfl (by simp only[E8,seval]<;>rfl) (by first|exact .v _|simp only[dV]),by rw[hv]⟩
theorem aFz (o:Option (List Block)) (hn:((ol o).length:Int)<1000000) (f:Nat) (mF:List AV) (p:Block→Bool) (kf:∀x∈ol o,∀(st:St) (d:Option Nat),aN (aB Tryz.prog) f ([.agg (aV x)]++mF) st d=some { dst:=d,val:=.v (.bool (p x))}):aB Tryz.prog 171 [ov aF o,.rS f mF]=some (.v (.int .i64 (uF (fun k=>p (gx dY (ol o) k)=true) (ol o).length))):=by
 rw[cL Tryz.func171 rfl aMY (by cases o<;>rfl)]
 refine iN ?_
 simp only[Z8,seval];refine cF (fun m st=>∃k:Nat,(st.env 0=ov aF o∧st.env 1=.rS f mF∧st.env 7=.v (.int .i64 (ol o).length)∧st.env 8=.v (.int .i64 k))∧(∀j:Nat,j<k→¬p (gx dY (ol o) j)=true)∧k≤(ol o).length∧m=(ol o).length-k)
  (fun e st=>(e=.ret∧∃k:Nat,k<(ol o).length∧p (gx dY (ol o) k)=true∧(∀j:Nat,j<k→¬p (gx dY (ol o) j)=true)∧st.env 4=.v (.int .i64 k))∨(e=.exit 0∧∀j:Nat,j<(ol o).length→¬p (gx dY (ol o) j)=true)) (ol o).length ?step ?start ?rest
 case step =>
  rintro m st ⟨k,hI,hj,hk,hm⟩
  by_cases bA:(k:Int)<(ol o).length
  ·have q0:(0:Int)≤k:=by omega
   have hw:IntKind.i64.wrap ((k:Int)+1)=((k+1:Nat):Int):=by rw[mZ _ (by omega) (by omega)];omega
   have kx':=kf _ (pF (z:=dY) q0 bA)
   by_cases hr:p (gx dY (ol o) k)=true
   ·rw[hr] at kx'
    apply oT (.ret)
    ·simp only[Z8,seval,hI,bA,q0,kx'];rfl
    ·exact .inl ⟨rfl,k,by omega,hr,hj,by simp only[E8,seval]⟩
   ·have hf:p (gx dY (ol o) k)=false:=by simpa using hr
    rw[hf] at kx'
    apply oN ((ol o).length-(k+1))
    ·simp only[Z8,seval,hI,bA,q0,kx',hw];rfl
    ·exact⟨k+1,by simp only[E8,seval,hI],fun j h=>(Nat.lt_succ_iff_lt_or_eq.1 h).elim (hj j) fun e=>by subst e;exact hr,by omega,rfl⟩
  ·apply oT (.exit 0)
   ·simp only[Z8,seval,hI,bA];rfl
   ·exact .inr ⟨rfl,fun j h=>hj j (by omega)⟩
 case start=>exact⟨0,by simp only[E8,seval]<;>rfl,fun j h=>by omega,by omega,by omega⟩
 case rest =>
  rintro e st (⟨rfl,k,hk,hh,hj,h⟩|⟨rfl,hj⟩)
  ·have hv:uF (fun k=>p (gx dY (ol o) k)=true) (ol o).length=k:=Bd hh hj _ hk
   simp only[Z8,seval];exact⟨_,bX rfl (by simp only[E8,seval,h]<;>rfl) (by first|exact .v _|simp only[dV,h]),by rw[hv]⟩
  ·have hv:uF (fun k=>p (gx dY (ol o) k)=true) (ol o).length=-1:=tG _ hj
   simp only[Z8,seval];exact⟨_,bX rfl (by simp only[E8,seval]<;>rfl) (by first|exact .v _|simp only[dV]),by rw[hv]⟩
theorem ZX (w:dP):Flat (.ip (aY w) 0):=.ip _ _ (bM w)
theorem aSp (x:Table) (J:dP) (fx:Flat (.agg (cA x))):aB Tryz.prog 120 [.agg (cA x),.ip (aY J) 0]=some (.v (.bool (decide (x.ck=J)))):=by
 rw[cL Tryz.func120 rfl aMZ rfl];refine iN ?_
 by_cases h:x.ck=J
 ·simp only[Z8,seval,h,decide_true];exact⟨_,bX rfl (by simp only[E8,seval]<;>rfl) (by first|exact .v _|simp only[dV]),rfl⟩
 ·simp only[Z8,seval,h,decide_false];exact⟨_,bX rfl (by simp only[E8,seval]<;>rfl) (by first|exact .v _|simp only[dV]),rfl⟩
theorem aM0 (x:Table) (J:dP):aB Tryz.prog 124 [.agg (cA x),.ip (aY J) 0]=some (.v (.bool (decide (x.ck.aG<J.aG)))):=by
 rw[cL Tryz.func124 rfl aM1 rfl];refine iN ?_
 by_cases h:x.ck.aG<J.aG
 ·simp only[Z8,seval,h,decide_true];exact⟨_,bX rfl (by simp only[E8,seval]<;>rfl) (by first|exact .v _|simp only[dV]),rfl⟩
 ·simp only[Z8,seval,h,decide_false];exact⟨_,bX rfl (by simp only[E8,seval]<;>rfl) (by first|exact .v _|simp only[dV]),rfl⟩
theorem aM2 (x:Block) (n:Int):aB Tryz.prog 127 [.agg (aV x),.ip (lI n) 0]=some (.v (.bool (decide (x.slot≤n)))):=by
 rw[cL Tryz.func127 rfl aM3 rfl];refine iN ?_
 by_cases h:x.slot≤n
 ·simp only[Z8,seval,h,decide_true];exact⟨_,bX rfl (by simp only[E8,seval]<;>rfl) (by first|exact .v _|simp only[dV]),rfl⟩
 ·simp only[Z8,seval,h,decide_false];exact⟨_,bX rfl (by simp only[E8,seval]<;>rfl) (by first|exact .v _|simp only[dV]),rfl⟩
theorem aSq (o:Option (List Table)) (hn:((ol o).length:Int)<1000000) (hB:∀y∈ol o,Flat y.iP) (J:dP):aB Tryz.prog 119 [ov aI o,.rS 120 [.ip (aY J) 0]]=some (.v (.bool (decide (0≤Ja (ol o) J)))):=by
 have h:=aFy o hn 120 [.ip (aY J) 0] (fun x=>decide (x.ck=J)) (fun x hx st d=>bG (bE ((iE _).2 (hB x hx)) (ZX J)) (aSp x J ((iE _).2 (hB x hx))) (.v _))
 have e:uF (fun k=>decide ((gx dX (ol o) k).ck=J)=true) (ol o).length=Ja (ol o) J:=by
  show uF _ _=uF _ _;exact congrArg (fun p=>uF p _) (funext fun k=>decide_eq_true_eq)
 rw[e] at h;have fo:=fY o hB
 have fc:Flat (.rS 120 [.ip (aY J) 0]):=.rS _ _ (cU (ZX J))
 have k173:=kx h (bE fo fc) (.v _)
 rw[cL Tryz.func119 rfl aM4 (by cases o<;>rfl)]
 refine iN ?_
 by_cases g:0≤Ja (ol o) J
 ·simp only[Z8,seval,k173,g,decide_true];exact⟨_,bX rfl (by simp only[E8,seval]<;>rfl) (by first|exact .v _|simp only[dV]),rfl⟩
 ·simp only[Z8,seval,k173,g,decide_false];exact⟨_,bX rfl (by simp only[E8,seval]<;>rfl) (by first|exact .v _|simp only[dV]),rfl⟩
def D9 (s:aL) (v:SV) (c:dP):Prop:=0≤aM v.ns c.root∧(nd v.ns (aM v.ns c.root)).status≠2∧(vO s c.aG).2=0∧(nd v.ns (aM v.ns c.root)).block.slot≤(vO s c.aG).1
noncomputable def ndI (v:SV) (c:dP):Int:=if 0≤aM v.ns c.root∧(nd v.ns (aM v.ns c.root)).status≠2 then aM v.ns c.root else -1
theorem aSr {s:aL} {v:SV} (hs:SD s v) (c:dP) (hc:Rg c.aG):aB Tryz.prog 118 [.agg (aA s),.agg (aY c)]=some (.eE [.v (.int .i64 (ndI v c)),.v (.bool (decide (D9 s v c)))]):=by
 have VB:∀(st:St) (d:Option Nat),aN (aB Tryz.prog) 95 [.v (.int .u64 c.aG),.v (.int .u64 s.cFg.kE)] st d=some { dst:=d,val:=.eE [.v (.int .u64 (vO s c.aG).1),.v (.int .i64 (vO s c.aG).2)]}:=fun st d=>k95 hc st d
 have fr:=eZ v.ns c.root
 rw[cL Tryz.func118 rfl aM5 rfl];refine iN ?_
 by_cases g1:aM v.ns c.root<0
 ·have e1:ndI v c=-1:=by unfold ndI;rw[if_neg (fun h=>by omega)]
  have e2:¬D9 s v c:=fun h=>by have:=h.1;omega
  simp only[Z8,seval,hs.tree,k89 _ _ hs.nn,g1];exact⟨_,dK rfl rfl rfl (by simp only[E8,seval]<;>rfl) (by simp only[E8,seval]<;>rfl),by rw[e1,decide_eq_false e2]⟩
 have q0:0≤aM v.ns c.root:=by omega
 by_cases g2:(nd v.ns (aM v.ns c.root)).status=2
 ·have e1:ndI v c=-1:=by unfold ndI;rw[if_neg (fun h=>h.2 g2)]
  have e2:¬D9 s v c:=fun h=>h.2.1 g2
  simp only[Z8,seval,hs.tree,k89 _ _ hs.nn,g1,q0,fr.2,bt g2];exact⟨_,dK rfl rfl rfl (by simp only[E8,seval]<;>rfl) (by simp only[E8,seval]<;>rfl),by rw[e1,decide_eq_false e2]⟩
 have e1:ndI v c=aM v.ns c.root:=by unfold ndI;rw[if_pos ⟨q0,g2⟩]
 by_cases g3:(vO s c.aG).2=0
 case neg =>
  have e2:¬D9 s v c:=fun h=>g3 h.2.2.1
  simp only[Z8,seval,hs.tree,k89 _ _ hs.nn,g1,q0,fr.2,bf g2,VB,dM,bf g3];exact⟨_,dK rfl rfl rfl (by simp only[E8,seval]<;>rfl) (by simp only[E8,seval]<;>rfl),by rw[e1,decide_eq_false e2]⟩
 by_cases g4:(nd v.ns (aM v.ns c.root)).block.slot≤(vO s c.aG).1
 ·have e2:D9 s v c:=⟨q0,g2,g3,g4⟩
  simp only[Z8,seval,hs.tree,k89 _ _ hs.nn,g1,q0,fr.2,bf g2,VB,dM,bt g3,g4];exact⟨_,dK rfl rfl rfl (by simp only[E8,seval]<;>rfl) (by simp only[E8,seval]<;>rfl),by rw[e1,decide_eq_true e2]⟩
 ·have e2:¬D9 s v c:=fun h=>g4 h.2.2.2
  simp only[Z8,seval,hs.tree,k89 _ _ hs.nn,g1,q0,fr.2,bf g2,VB,dM,bt g3,g4];exact⟨_,dK rfl rfl rfl (by simp only[E8,seval]<;>rfl) (by simp only[E8,seval]<;>rfl),by rw[e1,decide_eq_false e2]⟩
theorem Oe {s:aL} {v:SV} (hs:SD s v) (c:dP) (hc:Rg c.aG) (st:St) (d:Option Nat):aN (aB Tryz.prog) 118 [.agg (aA s),.agg (aY c)] st d=some { dst:=d,val:=.eE [.v (.int .i64 (ndI v c)),.v (.bool (decide (D9 s v c)))]}:=bG (bE hs.flat (.agg _ (bM c))) (aSr hs c hc) (.eE _ (bE (.v _) (.v _)))
def okC (s:aL) (v:SV) (J F:dP):Prop:=D9 s v F∧D9 s v J∧tP v.ns (aM v.ns F.root) (aM v.ns J.root)=true∧F.aG≤J.aG∧J.aG≤xM s s.now∧0≤Ja (ol v.T) J
theorem ZY {s:aL} {v:SV} (h:1≤s.cFg.kE∧s.cFg.kE≤64) (hx:Rg s.now) {J F:dP} (hJ:Rg J.aG) (hF:Rg F.aG):okC s v J F↔¬jW s v J F:=by
 have key:∀c:dP,Rg c.aG→c.aG≤xM s s.now→(vO s c.aG).2=0:=fun c hc hle=>by rw[(U9 h hc.1 hle hx).1]
 unfold okC D9 jW GJ;constructor
 ·rintro⟨⟨f1,f2,f3,f4⟩,⟨j1,j2,j3,j4⟩,a,b,c,d⟩ hb
  rcases hb with h|h|h|h|h|h|h|h|h|h
  ·omega
  ·omega
  ·exact j2 h
  ·exact f2 h
  ·exact h (.inr j4)
  ·exact h (.inr f4)
  ·rw[h] at a;cases a
  ·omega
  ·omega
  ·omega
 ·intro hb;simp only[not_or,Classical.not_not,Int.not_lt,Bool.not_eq_false] at hb;obtain⟨h1,h2,h3,h4,h5,h6,h7,h8,h9,h10⟩:=hb
  have hJ0:=key J hJ h9
  have hF0:=key F hF (by omega)
  exact⟨⟨h2,h4,hF0,Classical.byContradiction fun e=>h6 ⟨hF0,e⟩⟩,⟨h1,h3,hJ0,Classical.byContradiction fun e=>h5 ⟨hJ0,e⟩⟩,h7,h8,h9,h10⟩
theorem W1 {s:aL} {v:SV} {c:dP} (h:D9 s v c):ndI v c=aM v.ns c.root:=by unfold ndI;rw[if_pos ⟨h.1,h.2.1⟩]
theorem c58 {s:aL} {v:SV} (hs:SD s v) (hu:gM v.ns) (hp:1≤s.cFg.kE∧s.cFg.kE≤64) (hx:Rg s.now) (hj:Rg s.aU.gJ.aG) (Sz:Rg s.aU.fin.aG) (c1 c2:dP) (h1:Rg c1.aG) (h2:Rg c2.aG):aB Tryz.prog 58 [.agg (aA s),.agg (aY c1),.agg (aY c2)]=some (Jr s v c1 c2):=by
 have hf:=hs.flat
 have hB:=fun y hy=>(hs.tB y hy).fl
 have fo:=fY v.T hB
 have rJ:Rg (rK s c1).aG:=by unfold rK;split<;>assumption
 have rF:Rg (tQ s c2).aG:=by unfold tQ;split<;>assumption
 have VC:∀(args:List AV) (st:St) (d:Option Nat),aN (aB Tryz.prog) 119 args st d=tX (aB Tryz.prog) 119 (cM (args.map (fO st))) (decide (∀x∈args,Flat x)) st d:=fun args st d=>jS _ _ _ _ _
 have VD:∀(J:dP) (fl:Bool) (st:St) (d:Option Nat),tX (aB Tryz.prog) 119 (some [ov aI v.T,.rS 120 [.ip (aY J) 0]]) fl st d=some { dst:=d,val:=.v (.bool (decide (0≤Ja (ol v.T) J)))}:=fun J fl st d=>Qi (aSq v.T hs.nT hB J)
 have eV:∀(J:dP) (st:St) (o:Nat),Ss st (some (.cells (aY J))) o=some (.ip (aY J) o):=fun J st o=>sS st (bM J) o
 have eT:∀st:St,fO st (ov aI v.T)=some (ov aI v.T):=fun st=>eB fo
 have VE:=fun x=>k94 (s:=s) hp x
 rw[cG Tryz.func58 rfl aSt (by kernel_rfl) rfl]
 refine iN ?_
 obtain⟨J,eJ⟩:∃J,rK s c1=J:=⟨_,rfl⟩
 obtain⟨F,eF⟩:∃F,tQ s c2=F:=⟨_,rfl⟩
 have aGX:=ZY (v:=v) hp hx rJ rF
 unfold Jr;rw[eJ,eF] at aGX ⊢;rw[eJ] at rJ;rw[eF] at rF;have nb:¬okC s v J F→jW s v J F:=fun h=>Classical.byContradiction fun e=>h (aGX.2 e)
 simp only[ZG,seval,Bool.false_and,Prod.mk.injEq,HK,lS,lU];refine Vd (fun a=>a.1=.normal∧a.2.env 3=.ptr 3 0 0∧a.2.heap 3 0=some (.cells (aA s))∧a.2.env 5=.ptr 5 0 0∧a.2.heap 5 0=some (.cells (aY c2))∧a.2.env 6=.ptr 6 0 0∧a.2.heap 6 0=some (.cells (aY J))∧a.2.env 7=.ptr 7 0 0∧a.2.heap 7 0=some (.cells (aY s.aU.fin))) ?m1 ?r1
 case m1 =>
  unfold rK at eJ;by_cases a1:s.aU.gJ.aG<c1.aG
  ·rw[if_pos a1] at eJ;simp only[a1,decide_true,if_true];exact⟨_,rfl,rfl,by simp only[E8,seval,eJ]⟩
  ·rw[if_neg a1] at eJ;simp only[a1,decide_false,Bool.false_eq_true,if_false];exact⟨_,rfl,rfl,by simp only[E8,seval,eJ]⟩
 case r1 =>
  rintro⟨_,st⟩ ⟨rfl,hI⟩
  dsimp only at hI
  simp only[ZG,seval,Bool.false_and,Prod.mk.injEq,HK,lS,lU,hI];refine Vd (fun a=>a.1=.normal∧a.2.env 3=.ptr 3 0 0∧a.2.heap 3 0=some (.cells (aA s))∧a.2.env 6=.ptr 6 0 0∧a.2.heap 6 0=some (.cells (aY J))∧a.2.env 7=.ptr 7 0 0∧a.2.heap 7 0=some (.cells (aY F))) ?m2 ?r2
  case m2 =>
   unfold tQ at eF;by_cases a2:s.aU.fin.aG<c2.aG
   ·rw[if_pos a2] at eF;simp only[a2,decide_true,if_true];exact⟨_,rfl,rfl,by simp only[E8,seval,hI,eF]⟩
   ·rw[if_neg a2] at eF;simp only[a2,decide_false,Bool.false_eq_true,if_false];exact⟨_,rfl,rfl,by simp only[E8,seval,hI,eF]⟩
  case r2 =>
   rintro⟨_,st⟩ ⟨rfl,hJ⟩
   dsimp only at hJ
   by_cases g1:¬D9 s v F
   ·simp only[ZG,seval,Bool.false_and,Prod.mk.injEq,HK,lS,lU,hJ,Oe hs _ rJ,Oe hs _ rF,hs.tree,hs.tables,VC,eT,oF,eV,VD,dM,VE,TH _ hu,decide_true,decide_false,g1];exact⟨_,by apply fM;rfl;all_goals simp only[aH,bY,Z8,seval,hJ]<;>rfl,by rw[if_pos (nb (fun h=>by obtain⟨u1,u2,u3,u4,u5,u6⟩:=h;first|exact absurd u1 (by assumption)|exact absurd u2 (by assumption)|omega|exact absurd (u3.symm.trans g3) (by decide)))]⟩
   replace g1:=Classical.not_not.1 g1
   by_cases g2:¬D9 s v J
   ·simp only[ZG,seval,Bool.false_and,Prod.mk.injEq,HK,lS,lU,hJ,Oe hs _ rJ,Oe hs _ rF,hs.tree,hs.tables,VC,eT,oF,eV,VD,dM,VE,TH _ hu,decide_true,decide_false,g1,g2];exact⟨_,by apply fM;rfl;all_goals simp only[aH,bY,Z8,seval,hJ]<;>rfl,by rw[if_pos (nb (fun h=>by obtain⟨u1,u2,u3,u4,u5,u6⟩:=h;first|exact absurd u1 (by assumption)|exact absurd u2 (by assumption)|omega|exact absurd (u3.symm.trans g3) (by decide)))]⟩
   replace g2:=Classical.not_not.1 g2
   have e1:=W1 g1
   have e2:=W1 g2
   by_cases g3:tP v.ns (aM v.ns F.root) (aM v.ns J.root)=false
   ·simp only[ZG,seval,Bool.false_and,Prod.mk.injEq,HK,lS,lU,hJ,Oe hs _ rJ,Oe hs _ rF,hs.tree,hs.tables,VC,eT,oF,eV,VD,dM,VE,TH _ hu,decide_true,decide_false,g1,g2,e1,e2,g3];exact⟨_,by apply fM;rfl;all_goals simp only[aH,bY,Z8,seval,hJ]<;>rfl,by rw[if_pos (nb (fun h=>by obtain⟨u1,u2,u3,u4,u5,u6⟩:=h;first|exact absurd u1 (by assumption)|exact absurd u2 (by assumption)|omega|exact absurd (u3.symm.trans g3) (by decide)))]⟩
   replace g3:=(by simpa using g3:tP v.ns _ _=true)
   by_cases g4:J.aG<F.aG
   ·simp only[ZG,seval,Bool.false_and,Prod.mk.injEq,HK,lS,lU,hJ,Oe hs _ rJ,Oe hs _ rF,hs.tree,hs.tables,VC,eT,oF,eV,VD,dM,VE,TH _ hu,decide_true,decide_false,g1,g2,e1,e2,g3,g3,g4];exact⟨_,by apply fM;rfl;all_goals simp only[aH,bY,Z8,seval,hJ]<;>rfl,by rw[if_pos (nb (fun h=>by obtain⟨u1,u2,u3,u4,u5,u6⟩:=h;first|exact absurd u1 (by assumption)|exact absurd u2 (by assumption)|omega|exact absurd (u3.symm.trans g3) (by decide)))]⟩
   by_cases g5:xM s s.now<J.aG
   ·simp only[ZG,seval,Bool.false_and,Prod.mk.injEq,HK,lS,lU,hJ,Oe hs _ rJ,Oe hs _ rF,hs.tree,hs.tables,VC,eT,oF,eV,VD,dM,VE,TH _ hu,decide_true,decide_false,g1,g2,e1,e2,g3,g3,g4,g5];exact⟨_,by apply fM;rfl;all_goals simp only[aH,bY,Z8,seval,hJ]<;>rfl,by rw[if_pos (nb (fun h=>by obtain⟨u1,u2,u3,u4,u5,u6⟩:=h;first|exact absurd u1 (by assumption)|exact absurd u2 (by assumption)|omega|exact absurd (u3.symm.trans g3) (by decide)))]⟩
   by_cases g6:¬0≤Ja (ol v.T) J
   ·simp only[ZG,seval,Bool.false_and,Prod.mk.injEq,HK,lS,lU,hJ,Oe hs _ rJ,Oe hs _ rF,hs.tree,hs.tables,VC,eT,oF,eV,VD,dM,VE,TH _ hu,decide_true,decide_false,g1,g2,e1,e2,g3,g3,g4,g5,g6];exact⟨_,by apply fM;rfl;all_goals simp only[aH,bY,Z8,seval,hJ]<;>rfl,by rw[if_pos (nb (fun h=>by obtain⟨u1,u2,u3,u4,u5,u6⟩:=h;first|exact absurd u1 (by assumption)|exact absurd u2 (by assumption)|omega|exact absurd (u3.symm.trans g3) (by decide)))]⟩
   replace g6:=Classical.not_not.1 g6
   simp only[ZG,seval,Bool.false_and,Prod.mk.injEq,HK,lS,lU,hJ,Oe hs _ rJ,Oe hs _ rF,hs.tree,hs.tables,VC,eT,oF,eV,VD,dM,VE,TH _ hu,decide_true,decide_false,g1,g2,e1,e2,g3,g3,g4,g5,g6];exact⟨_,by apply fM;rfl;all_goals simp only[aH,bY,Z8,seval,hJ]<;>rfl,by rw[if_neg (aGX.1 ⟨g1,g2,g3,by omega,by omega,by omega⟩)]⟩
theorem k58 {s:aL} {v:SV} (hs:SD s v) (hu:gM v.ns) (hp:1≤s.cFg.kE∧s.cFg.kE≤64) (hx:Rg s.now) (hj:Rg s.aU.gJ.aG) (Sz:Rg s.aU.fin.aG) (c1 c2:dP) (h1:Rg c1.aG) (h2:Rg c2.aG) (st:St) (d:Option Nat):aN (aB Tryz.prog) 58 [.agg (aA s),.agg (aY c1),.agg (aY c2)] st d=some { dst:=d,val:=Jr s v c1 c2 }:=bG (mD hs.flat (.agg _ (bM c1)) (.agg _ (bM c2))) (c58 hs hu hp hx hj Sz c1 c2 h1 h2) (by unfold Jr;split<;>exact .eE _ (mD (.agg _ (bM _)) (.agg _ (bM _)) (.v _)))
end Go.Ab.Tryz
