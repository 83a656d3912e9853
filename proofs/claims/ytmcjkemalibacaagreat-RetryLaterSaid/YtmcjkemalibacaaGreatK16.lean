/-
  Part 16 of the proof: an evaluator of programs, its soundness, and what functions of this program compute.
-/
import Derived.Test.YtmcjkemalibacaaGreatK14
import Derived.Test.YtmcjkemalibacaaGreatK15
import Derived.Test.YtmcjkemalibacaaGreatK13
import Derived.Test.YtmcjkemalibacaaGreatK12
import Derived.Test.YtmcjkemalibacaaGreatK11
import Derived.Test.YtmcjkemalibacaaGreatK10
import Derived.Test.YtmcjkemalibacaaGreatK18
set_option linter.all false
set_option maxRecDepth 20000
set_option maxHeartbeats 40000000
namespace Go.Ab.Tryz
open Classical Go.Proofs Go.Ab
def aUd (s:aO) (v:SV) (q:Int) (r:AV):Prop:=∃(s':aO) (R:Option (List cJ)) (e:Int),r=.dX [.agg (aB s'),ov gS R,.v (.int .i64 e)]/\Flat (.agg (aB s'))/\((ol R).length:Int)<=70/\e≠21/\(e=0->∃v',GI s' v' q/\RG s' v'/\s'.cFg=s.cFg)
theorem aUe {s:aO} {v:SV} {q:Int} (h:GI s v q) (r:RG s v) (b:Block) (rb:RB b/\Pr b.root):∃r,aC Tryz.prog 203 [.agg (aB s),.agg (aT b)]=some r/\aUd s v q r:=by
 have hf:=h.sd.flat
 have lK:=h.sd.fl
 have hz:=Kq
 have YN:=k52 h.sd h.up h.sp
 have nO:=h.nO
 have QG:=h.QG
 have nn':=h.sd.nO
 rw[cL Tryz.func203 rfl aOH rfl];by_cases g1:Mq s v b=10
 ·by_cases g2:s.cFg.kF.xI<=((ol v.O).length:Int)
  ·simp only[Z8,seval,YN,bt g1,h.sd.bV,g2];exact⟨_,by apply gR;rfl;all_goals simp only[aJ,bX,Z8,seval,hz]<;>rfl,gK,none,11,rfl,hz,by simp[ol],by decide,fun h=>by cases h⟩
  ·have hw:=h.XV (some (ol v.O++[{ b with Gj:=false }])) (by show (((ol v.O++[{ b with Gj:=false }]).length:Nat):Int)<=s.cFg.kF.xI;rw[List.length_append,List.length_cons,List.length_nil];omega)
   have hwr:=r.XV (some (ol v.O++[{ b with Gj:=false }])) (ov aH (some (ol v.O++[{ b with Gj:=false }]))) (fun c hc=>(List.mem_append.1 hc).elim (r.or c) fun e=>by rw[List.mem_singleton] at e;subst e;exact⟨⟨rb.1.sl,rb.1.j,rb.1.f,rb.1.pj,rb.1.pf⟩,rb.2⟩) (by simp)
   simp only[Z8,seval,YN,bt g1,h.sd.bV,g2,iS _ nn',IN _ _ _ _ nn'];exact⟨_,by apply gR;rfl;all_goals simp only[aJ,bX,Z8,seval,bQ,gF,bG,uN,cN,dN,lK]<;>rfl,_,none,0,rfl,hw.sd.flat,by simp[ol],by decide,fun _=>⟨_,hw,hwr,rfl⟩⟩
 by_cases g2:Mq s v b=0
 case neg =>
  simp only[Z8,seval,YN,bf g1,bf g2];exact⟨_,by apply gR;rfl;all_goals simp only[aJ,bX,Z8,seval,hz]<;>rfl,gK,none,_,rfl,hz,by simp[ol],aId _ _ _,fun h=>absurd h g2⟩
 have E5:=aOr h g2
 have N6:=h.ins g2
 have aEq:=r.ins rb g2
 have hcf:=Cd s v b
 have hO1:=XX s v b
 cases g3:b.Gj
 · -- not timely
  have hG:GI (tK s v b) (lF s v b) q:=N6
  have oL:RG (tK s v b) (lF s v b):=aEq
  have hC:((tK s v b)).cFg=s.cFg:=hcf.1
  have pT:=QD hG.sd
  simp only[Z8,seval,YN,bf g1,bt g2,E5,g3,pT];refine Qv (a:=Cg) (N1 s v q) (KN (by omega) (m:=(ol (lF s v b).O).length) ⟨(tK s v b),lF s v b,_,[b.root],66,0, ?start,.inl ⟨rfl,rfl⟩,.inl rfl,hG,oL,hC,by simp;omega,rfl⟩) ?rest
  case start =>
   rw[tM hG.sd];simp only[E8,seval,gS,List.flatMap_cons,List.flatMap_nil,List.append_nil]<;>rfl
  case rest =>
   rintro e st ⟨rfl,S0,w,X,R,a,g,hI,ha,hX,hG,oL,hC,hR⟩
   have ha4:(a=4)=False:=eq_false ha
   have aIG:=hG.sd.fl
   have hfo:=hG.sd.bV
   rcases hX with rfl|⟨g',L,hL,rfl,J0⟩
   ·rw[tM hG.sd] at hI;have FD:=hG.sd.flat
    simp only[Z8,seval,hI];exact⟨_,by apply gR;rfl;all_goals simp only[aJ,bX,Z8,seval,hI,ha4,FD,wV]<;>rfl,S0,some R,0,rfl,FD,by simp only[ol,Option.getD_some];omega,by decide,fun _=>⟨w,hG,oL,hC⟩⟩
   ·have hex:=fun st' hh=>Ak (O:=L) (a:=91) (g:=g') hG.sd st' hh
    have RF:mU S0 (ov aH (some L))=S0:=by rw[<- hL];exact tM hG.sd
    rw[RF] at hex;simp only[Z8,seval,hI];exact⟨_,by apply gR;rfl;all_goals simp only[aJ,bX,Z8,seval,hI,ha4,J0,hex,wV]<;>rfl,S0,some R,0,rfl,hG.sd.flat,by simp only[ol,Option.getD_some];omega,by decide,fun _=>⟨w,hG,oL,hC⟩⟩
 by_cases g4:b.slot=s.now
 case neg =>
  have hG:GI (tK s v b) (lF s v b) q:=N6
  have oL:RG (tK s v b) (lF s v b):=aEq
  have hC:((tK s v b)).cFg=s.cFg:=hcf.1
  have pT:=QD hG.sd
  simp only[Z8,seval,YN,bf g1,bt g2,E5,g3,bf g4,pT];refine Qv (a:=Cg) (N1 s v q) (KN (by omega) (m:=(ol (lF s v b).O).length) ⟨(tK s v b),lF s v b,_,[b.root],66,0, ?start,.inl ⟨rfl,rfl⟩,.inl rfl,hG,oL,hC,by simp;omega,rfl⟩) ?rest
  case start =>
   rw[tM hG.sd];simp only[E8,seval,gS,List.flatMap_cons,List.flatMap_nil,List.append_nil]<;>rfl
  case rest =>
   rintro e st ⟨rfl,S0,w,X,R,a,g,hI,ha,hX,hG,oL,hC,hR⟩
   have ha4:(a=4)=False:=eq_false ha
   have aIG:=hG.sd.fl
   have hfo:=hG.sd.bV
   rcases hX with rfl|⟨g',L,hL,rfl,J0⟩
   ·rw[tM hG.sd] at hI;have FD:=hG.sd.flat
    simp only[Z8,seval,hI];exact⟨_,by apply gR;rfl;all_goals simp only[aJ,bX,Z8,seval,hI,ha4,FD,wV]<;>rfl,S0,some R,0,rfl,FD,by simp only[ol,Option.getD_some];omega,by decide,fun _=>⟨w,hG,oL,hC⟩⟩
   ·have hex:=fun st' hh=>Ak (O:=L) (a:=91) (g:=g') hG.sd st' hh
    have RF:mU S0 (ov aH (some L))=S0:=by rw[<- hL];exact tM hG.sd
    rw[RF] at hex;simp only[Z8,seval,hI];exact⟨_,by apply gR;rfl;all_goals simp only[aJ,bX,Z8,seval,hI,ha4,J0,hex,wV]<;>rfl,S0,some R,0,rfl,hG.sd.flat,by simp only[ol,Option.getD_some];omega,by decide,fun _=>⟨w,hG,oL,hC⟩⟩
 by_cases g5:s.iQ=dK
 case neg =>
  have hG:GI (tK s v b) (lF s v b) q:=N6
  have oL:RG (tK s v b) (lF s v b):=aEq
  have hC:((tK s v b)).cFg=s.cFg:=hcf.1
  have pT:=QD hG.sd
  simp only[Z8,seval,YN,bf g1,bt g2,E5,g3,bt g4,g5,pT];refine Qv (a:=Cg) (N1 s v q) (KN (by omega) (m:=(ol (lF s v b).O).length) ⟨(tK s v b),lF s v b,_,[b.root],66,0, ?start,.inl ⟨rfl,rfl⟩,.inl rfl,hG,oL,hC,by simp;omega,rfl⟩) ?rest
  case start =>
   rw[tM hG.sd];simp only[E8,seval,gS,List.flatMap_cons,List.flatMap_nil,List.append_nil]<;>rfl
  case rest =>
   rintro e st ⟨rfl,S0,w,X,R,a,g,hI,ha,hX,hG,oL,hC,hR⟩
   have ha4:(a=4)=False:=eq_false ha
   have aIG:=hG.sd.fl
   have hfo:=hG.sd.bV
   rcases hX with rfl|⟨g',L,hL,rfl,J0⟩
   ·rw[tM hG.sd] at hI;have FD:=hG.sd.flat
    simp only[Z8,seval,hI];exact⟨_,by apply gR;rfl;all_goals simp only[aJ,bX,Z8,seval,hI,ha4,FD,wV]<;>rfl,S0,some R,0,rfl,FD,by simp only[ol,Option.getD_some];omega,by decide,fun _=>⟨w,hG,oL,hC⟩⟩
   ·have hex:=fun st' hh=>Ak (O:=L) (a:=91) (g:=g') hG.sd st' hh
    have RF:mU S0 (ov aH (some L))=S0:=by rw[<- hL];exact tM hG.sd
    rw[RF] at hex;simp only[Z8,seval,hI];exact⟨_,by apply gR;rfl;all_goals simp only[aJ,bX,Z8,seval,hI,ha4,J0,hex,wV]<;>rfl,S0,some R,0,rfl,hG.sd.flat,by simp only[ol,Option.getD_some];omega,by decide,fun _=>⟨w,hG,oL,hC⟩⟩
 have hG:GI { tK s v b with iQ:=b.root } (lF s v b) q:=N6.iQ b.root
 have oL:RG { tK s v b with iQ:=b.root } (lF s v b):=aEq.iQ b.root
 have hC:({ tK s v b with iQ:=b.root }).cFg=s.cFg:=hcf.1
 have pT:=QD hG.sd
 simp only[Z8,seval,YN,bf g1,bt g2,E5,g3,bt g4,g5,pT];refine Qv (a:=Cg) (N1 s v q) (KN (by omega) (m:=(ol (lF s v b).O).length) ⟨{ tK s v b with iQ:=b.root },lF s v b,_,[b.root],66,0, ?start,.inl ⟨rfl,rfl⟩,.inl rfl,hG,oL,hC,by simp;omega,rfl⟩) ?rest
 case start =>
  rw[tM hG.sd];simp only[E8,seval,gS,List.flatMap_cons,List.flatMap_nil,List.append_nil]<;>rfl
 case rest =>
  rintro e st ⟨rfl,S0,w,X,R,a,g,hI,ha,hX,hG,oL,hC,hR⟩
  have ha4:(a=4)=False:=eq_false ha
  have aIG:=hG.sd.fl
  have hfo:=hG.sd.bV
  rcases hX with rfl|⟨g',L,hL,rfl,J0⟩
  ·rw[tM hG.sd] at hI;have FD:=hG.sd.flat
   simp only[Z8,seval,hI];exact⟨_,by apply gR;rfl;all_goals simp only[aJ,bX,Z8,seval,hI,ha4,FD,wV]<;>rfl,S0,some R,0,rfl,FD,by simp only[ol,Option.getD_some];omega,by decide,fun _=>⟨w,hG,oL,hC⟩⟩
  ·have hex:=fun st' hh=>Ak (O:=L) (a:=91) (g:=g') hG.sd st' hh
   have RF:mU S0 (ov aH (some L))=S0:=by rw[<- hL];exact tM hG.sd
   rw[RF] at hex;simp only[Z8,seval,hI];exact⟨_,by apply gR;rfl;all_goals simp only[aJ,bX,Z8,seval,hI,ha4,J0,hex,wV]<;>rfl,S0,some R,0,rfl,hG.sd.flat,by simp only[ol,Option.getD_some];omega,by decide,fun _=>⟨w,hG,oL,hC⟩⟩
def PfR (q m:Int) (r:AV):Prop:=∃(t':State) (e:Int),r=.dX [.agg (aF t'),.v (.int .i64 e)]/\Flat (.agg (aF t'))/\(e=0\/e=21->∃v' Q' R',TI t' v' Q' R' (q+1000) (m+256))
theorem RH {t:State} (h:Flat (.agg (aF t))) {s':aO} (hs:Flat (.agg (aB s'))):Flat (.agg (aF { t with store:=s' })):=by
 obtain⟨_,_,_,_,_,_,_,h8,h9⟩:=(pP t).1 h
 obtain⟨h1,h2,h3,h4,h5,h6,h7⟩:=(Is s').1 hs
 exact (pP _).2 ⟨h1,h2,h3,h4,h5,h6,h7,h8,h9⟩
theorem aUf {t:State} {v:SV} {Q R:Option (List Request)} {q m:Int} (h:TI t v Q R q m) (x:xU) (hx:pH x) (hp:x.kind=2->Pr x.block.root) (hq:q+1000<=900000) (hm:m+256<=100000) :
 ∃r,aC Tryz.prog 185 [.agg (aF t),.agg (kX x)]=some r/\PfR q m r:=by
 have hf:=h.td.flat
 have B6:=h.gi.sd.flat
 have KE:=hx.flat
 have aEr:=hx.fl
 have up:∀ {t':State} {v':SV} {Q' R':Option (List Request)} {q' m':Int},TI t' v' Q' R' q' m'->q'<=q+1000->m'<=m+256->∃v' Q' R',TI t' v' Q' R' (q+1000) (m+256):=fun g a b=>⟨_,_,_,g.mono a hq b hm⟩
 have nt:=h.nt
 have mB:=h.mB
 have lq:=h.lq
 have lr:=h.lr
 have rB:=h.aAO
 rw[cL Tryz.func185 rfl aOI rfl];by_cases k1:x.kind=1
 ·obtain⟨y,hy,s',e,rfl,E6,ne,ho⟩:=aTT h.gi h.rg
  have k202:=kx hy (cT B6) (.dX _ (bH E6 (.v _)))
  have ft:=RH hf E6
  by_cases e0:e=0
  ·obtain⟨v',g,r,c⟩:=ho e0
   have T0:=h.toTI0.store g r c
   have T1:=T0.drop
   have T2:=T1.due hm
   have k36:=kx (c36 T0.td) (cT ft) T1.td.flat
   have k74:=kx (c74 T1.td (by have:=T1.lq;have:=T1.lr;have:=T1.aAO;omega)) (cT T1.td.flat) T2.td.flat
   have ft2:=T2.td.flat
   simp only[Z8,seval,bt k1,k202,eC,bt e0,k36,k74];exact⟨_,by apply dJ;rfl;all_goals simp only[aJ,bX,Z8,seval,ft2]<;>rfl,_,e,rfl,ft2,fun _=>up T2 (by omega) (by omega)⟩
  ·simp only[Z8,seval,bt k1,k202,eC,bf e0];exact⟨_,by apply dJ;rfl;all_goals simp only[aJ,bX,Z8,seval,ft]<;>rfl,_,e,rfl,ft,fun h=>absurd h (by omega)⟩
 by_cases k2:x.kind=2
 ·obtain⟨y,hy,s',L,e,rfl,E6,nL,ne,ho⟩:=aUe h.gi h.rg x.block ⟨hx.rb,hp k2⟩
  have k203:=kx hy (bH B6 (vJ _)) (.dX _ (oW E6 (Jc L) (.v _)))
  have ft:=RH hf E6
  by_cases e0:e=0
  ·obtain⟨v',g,r,c⟩:=ho e0
   have T0:=h.toTI0.store g r c
   have T1:=T0.drop
   have T2:=T1.open (ol L) (by omega) hm
   have k36:=kx (c36 T0.td) (cT ft) T1.td.flat
   have k32:∀(st:St) (d:Option Nat),eY (aC Tryz.prog) 32 _ st d=_:=fun st d=>Jd (bH T1.td.flat (Jc L)) (c32 T1.td L (by have:=T1.lq;omega)) T2.td.flat
   have ft2:=T2.td.flat
   simp only[Z8,seval,bf k1,bt k2,k203,eC,bt e0,k36,k32];exact⟨_,by apply dJ;rfl;all_goals simp only[aJ,bX,Z8,seval,ft2]<;>rfl,_,e,rfl,ft2,fun _=>up T2 (by omega) (by omega)⟩
  ·simp only[Z8,seval,bf k1,bt k2,k203,eC,bf e0];exact⟨_,by apply dJ;rfl;all_goals simp only[aJ,bX,Z8,seval,ft]<;>rfl,_,e,rfl,ft,fun h=>absurd h (by omega)⟩
 by_cases k3:x.kind=3
 ·obtain⟨V,hV,nV⟩:=hx.Hp
  obtain⟨y,hy,s',e,rfl,E6,ne,ho⟩:=aS3 h.gi h.rg x.Hp V hV (by omega)
  have k204:=kx hy (bH B6 ((Ah _).2 aEr.1)) (.dX _ (bH E6 (.v _)))
  have ft:=RH hf E6
  have fin:e=0\/e=21->∃v' Q' R',TI { t with store:=s' } v' Q' R' (q+1000) (m+256):=fun he=>by
   obtain⟨v',g,r,c,en⟩:=ho (by omega)
   exact up ⟨h.toTI0.store g r c,by rw[en];exact h.X3,by rw[en];exact h.X4⟩ (by omega) (by omega)
  simp only[Z8,seval,bf k1,bf k2,bt k3,k204,eC];exact⟨_,by apply dJ;rfl;all_goals simp only[aJ,bX,Z8,seval,ft]<;>rfl,_,e,rfl,ft,fin⟩
 by_cases k4:x.kind=4
 ·obtain⟨V,hV,nV⟩:=hx.c1
  obtain⟨W,hW,nW⟩:=hx.c2
  obtain⟨y,hy,s',e,rfl,E6,ne,ho⟩:=aS2 h.gi h.rg x.oX V W hV hW nV nW hq
  have k205:=kx hy (bH B6 ((nF _).2 ⟨aEr.2.1,aEr.2.2.1⟩)) (.dX _ (bH E6 (.v _)))
  have ft:=RH hf E6
  have fin:e=0\/e=21->∃v' Q' R',TI { t with store:=s' } v' Q' R' (q+1000) (m+256):=fun he=>by
   obtain⟨v',g,r,c,en⟩:=ho (by omega)
   exact up ⟨h.toTI0.store g r c,by rw[en];exact h.X3,by rw[en];exact h.X4⟩ (by omega) (by omega)
  simp only[Z8,seval,bf k1,bf k2,bf k3,bt k4,k205,eC];exact⟨_,by apply dJ;rfl;all_goals simp only[aJ,bX,Z8,seval,ft]<;>rfl,_,e,rfl,ft,fin⟩
 by_cases k5:x.kind=5
 ·have nT:=h.gi.nT
  have XT:=h.gi.XT
  obtain⟨y,hy,s',e,rfl,E6,ne,ho⟩:=aSE h.gi.sd (by omega) x.table hx.aAy
  have k117:=kx hy (bH B6 ((kK _).2 aEr.2.2.2)) (.dX _ (bH E6 (.v _)))
  have ft:=RH hf E6
  have fin:e=0\/e=21->∃v' Q' R',TI { t with store:=s' } v' Q' R' (q+1000) (m+256):=fun he=>by
   obtain⟨o',rfl,nl,tb,sub,ne1,ne2⟩:=ho (by omega)
   have g:GI { t.store with tables:=ov aR o' } { v with T:=o' } q :=
    ⟨⟨h.gi.sd.jQ,h.gi.sd.dO,h.gi.sd.gW,h.gi.sd.early,h.gi.sd.bV,h.gi.sd.tree,rfl,h.gi.sd.eV,tb,h.gi.sd.nB,h.gi.sd.nL,h.gi.sd.nQ,h.gi.sd.nE,h.gi.sd.nO,by show ((ol o').length:Int)<_;omega,h.gi.sd.nn⟩,h.gi.up,h.gi.PI,h.gi.pos,h.gi.nl,h.gi.XS,h.gi.rD,h.gi.QF,h.gi.nB,h.gi.nO,h.gi.QG,h.gi.nE,h.gi.WG,by show ((ol o').length:Int)<=t.store.cFg.kF.rE;omega,h.gi.XT,h.gi.nQ,h.gi.Z6,h.gi.gX⟩
   have r:RG { t.store with tables:=ov aR o' } { v with T:=o' }:=⟨h.rg.now,h.rg.j,h.rg.f,h.rg.nd,h.rg.or,h.rg.rt,h.rg.fe,h.rg.ds,by obtain⟨tb,h1,h2⟩:=h.rg.tb;exact⟨tb,sub h1,h2⟩,⟨h.rg.ne.q,h.rg.ne.e,h.rg.ne.o,ne1,h.rg.ne.ea,fun x hx=>(ne2 x hx).elim (h.rg.ne.tb x) fun ⟨B,h1,h2⟩=>⟨B,h1,fun e=>by have h3:=h.jQ.1;rw[e] at h2;simp at h2;omega⟩⟩⟩
   exact up ⟨h.toTI0.store g r rfl,h.X3,h.X4⟩ (by omega) (by omega)
  simp only[Z8,seval,bf k1,bf k2,bf k3,bf k4,bt k5,k117,eC];exact⟨_,by apply dJ;rfl;all_goals simp only[aJ,bX,Z8,seval,ft]<;>rfl,_,e,rfl,ft,fin⟩
 by_cases k6:x.kind=6
 ·obtain⟨y,hy,t',e,v',Q',R',rfl,g⟩:=aUb h x.verdict
  have k206:=kx hy (bH hf (.agg _ (jT _))) (.dX _ (bH g.td.flat (.v _)))
  have ft:=g.td.flat
  simp only[Z8,seval,bf k1,bf k2,bf k3,bf k4,bf k5,bt k6,k206,eC];exact⟨_,by apply dJ;rfl;all_goals simp only[aJ,bX,Z8,seval,ft]<;>rfl,_,e,rfl,ft,fun _=>up g (by omega) (by omega)⟩
 simp only[Z8,seval,bf k1,bf k2,bf k3,bf k4,bf k5,bf k6];exact⟨_,by apply dJ;rfl;all_goals simp only[aJ,bX,Z8,seval,hf]<;>rfl,t,2,rfl,hf,fun h=>absurd h (by omega)⟩
theorem aUh {t:State} {v:SV} {Q R:Option (List Request)} {q m:Int} (h:TI t v Q R q m) (x:xU) (hx:pH x) (hp:x.kind=2->Pr x.block.root) (hq:q+1000<=900000) (hm:m+256<=100000) :
 ∃r,aC Tryz.prog 147 [.agg (aF t),.agg (kX x)]=some r/\∃(t':State) (y:AV) (e:Int) (v':SV) (Q' R':Option (List Request)),r=.dX [.agg (aF t'),y,.v (.int .i64 e)]/\Flat y/\TI t' v' Q' R' (q+1000) (m+256):=by
 have hf:=h.td.flat
 have KE:=hx.flat
 have h':=h.mono (q':=q+1000) (m':=m+256) (by omega) hq (by omega) hm
 obtain⟨y1,hy1,e1,rfl⟩:=aTo x hx
 have aEs:=kx hy1 (cT KE) (.v _)
 obtain⟨y2,hy2,t2,e2,rfl,ft2,ho⟩:=aUf h x hx hp hq hm
 have aIH:=kx hy2 (bH hf KE) (.dX _ (bH ft2 (.v _)))
 rw[cL Tryz.func147 rfl aOJ rfl];cases g0:t.halted
 case true =>
  simp only[Z8,seval,g0];exact⟨_,by apply gR;rfl;all_goals simp only[aJ,bX,Z8,seval,hf]<;>rfl,t,_,22,v,Q,R,rfl,.v _,h'⟩
 by_cases g1:e1=0
 case neg =>
  simp only[Z8,seval,g0,aEs,bf g1];exact⟨_,by apply gR;rfl;all_goals simp only[aJ,bX,Z8,seval,hf]<;>rfl,t,_,e1,v,Q,R,rfl,.v _,h'⟩
 by_cases g2:e2=21
 ·obtain⟨v',Q',R',T⟩:=ho (.inr g2)
  simp only[Z8,seval,g0,aEs,bt g1,aIH,eC,bt g2];exact⟨_,by apply gR;rfl;all_goals simp only[aJ,bX,Z8,seval,ft2]<;>rfl,t2,_,e2,v',Q',R',rfl,.v _,T⟩
 by_cases g3:e2=0
 case neg =>
  simp only[Z8,seval,g0,aEs,bt g1,aIH,eC,bf g2,bf g3];exact⟨_,by apply gR;rfl;all_goals simp only[aJ,bX,Z8,seval,hf]<;>rfl,t,_,e2,v,Q,R,rfl,.v _,h'⟩
 obtain⟨v',Q',R',T⟩:=ho (.inl g3)
 obtain⟨y3,hy3,b,c,y,rfl,fy⟩:=aNO t2 ft2 T.gi
 have T':=T.emit b c
 have ft3:=T'.td.flat
 have aII:=kx hy3 (cT ft2) (.dX _ (bH ft3 fy))
 simp only[Z8,seval,g0,aEs,bt g1,aIH,eC,bf g2,bt g3,aII];exact⟨_,gR rfl (by simp only[bX,Z8,seval]<;>rfl) (by simp only[bX,Z8,seval]<;>rfl) (by simp only[bX,E8,seval]<;>rfl) (dQ ft3) (dQ fy) (dQ (.v _)),_,y,0,v',Q',R',rfl,fy,T'⟩
theorem Jh (n:Int):(mkRoot n)[0]=IntKind.u8.wrap n:=by
 simp[mkRoot]
theorem BC {n:Int} (h0:0<=n) (h1:n<256):IntKind.u8.wrap n=n:=by
 simp only[IntKind.wrap,IntKind.bits,IntKind.signed];simp
 omega
theorem aG9 {n:Int} (h0:1<=n) (h1:n<=98):Pr (mkRoot n):=by
 refine⟨fun e=>?_,fun e=>?_⟩
 ·have e1:IntKind.u8.wrap n=dK[0]:=by rw[<- Jh,e]
  rw[BC (by omega) (by omega),show dK[0]=0 from rfl] at e1
  omega
 ·have e1:IntKind.u8.wrap n=IntKind.u8.wrap 99:=by rw[<- Jh,<- Jh,e]
  rw[BC (by omega) (by omega),BC (by omega) (by omega)] at e1
  omega
theorem RG.new {c:Config} {b:List Int} (h:Vy c b):RG (M8 c b) (aAr c b):=by
 have hg:Pr c.iA:=by rw[h.gen];exact aG9 (by omega) (by omega)
 have z:Rg 0:=D9
 refine⟨⟨by show (0:Int)<=0;omega,by show (0:Int)<=_;omega⟩,z,z,fun n hn=>?_,(fun o ho=>by cases ho),fun n hn=>?_,⟨by show (0:Int)<=0;omega, ?_⟩, ?_, ?_, ?_⟩
 ·rw[show n=⟨aEe c,-1,1⟩ from List.mem_singleton.1 hn];exact⟨⟨z,z,z,z,z⟩,by show (0:Int)<=0;omega⟩
 ·rw[show n=⟨aEe c,-1,1⟩ from List.mem_singleton.1 hn];exact hg
 ·show (0:Int)<=IntKind.u64.wrap (Int.tdiv 0 c.rD)
  rw[Int.zero_tdiv];decide
 ·show ([c.iA]:List cJ).Nodup
  simp
 ·exact⟨⟨⟨0,c.iA⟩,ov bD (some b)⟩,List.mem_singleton.2 rfl,rfl⟩
 ·exact⟨nofun,nofun,nofun,by simp[aAr],(fun a ha=>by cases ha),fun t ht=>⟨b,by rw[show t=⟨⟨0,c.iA⟩,ov bD (some b)⟩ from List.mem_singleton.1 ht],fun e=>by have:=h.nb.1;rw[e] at this;simp at this⟩⟩
def aAR (c:Config) (b:List Int):State:={ lD with store:=M8 c b,cV:=1 }
theorem TI.new {c:Config} {b:List Int} (h:Vy c b):TI (aAR c b) (aAr c b) none none 0 0:=by
 have g:=GI.new h
 have r:=RG.new h
 have hr:=h.lM
 exact⟨⟨⟨g.sd,rfl,rfl,by show ((0:Nat):Int)<_;omega,by show ((0:Nat):Int)<_;omega⟩,g,r,⟨b,h⟩,⟨by show (1:Int)<=1;omega,(fun r hr=>by cases hr),List.Pairwise.nil⟩,⟨(fun r hr=>by cases hr),List.Pairwise.nil⟩,by show (1:Int)<=1+0;omega,by show ((0:Nat):Int)<=0;omega,by show ((0:Nat):Int)<=c.kF.lM;omega,by omega,nofun,nofun⟩,(fun r hr=>by cases hr),(fun r hr=>by cases hr)⟩
theorem aUk {c:Config} {b:List Int} (h:Vy c b):∃r,aC Tryz.prog 144 [.agg (bU c)]=some r/\∃(Ny:Bool) (last:Command) (y:AV),r=.dX [.agg (aF { aAR c b with Ny:=Ny,last:=last }),y,.v (.int .i64 0)]/\Flat y:=by
 have T:=TI.new h
 have fc:Flat (.agg (bU c)):=(Dr c).2 (by rw[h.jQ];exact dP _)
 have fs:=T.gi.sd.flat
 have k102:=kx (aS8 h) (cT fc) (.dX _ (bH fs (.v _)))
 obtain⟨y3,hy3,s,l,y,rfl,fy⟩:=aNO (aAR c b) T.td.flat T.gi
 have ft3:=(T.emit s l).td.flat
 have aII:=kx hy3 (cT T.td.flat) (.dX _ (bH ft3 fy))
 have eb:({ lD with store:=M8 c b,cV:=1 }:State)=aAR c b:=rfl
 rw[cL Tryz.func144 rfl aOM rfl];simp only[Z8,seval,k102,eC,eb,aII];exact⟨_,gR rfl (by simp only[bX,Z8,seval]<;>rfl) (by simp only[bX,Z8,seval]<;>rfl) (by simp only[bX,E8,seval]<;>rfl) (dQ ft3) (dQ fy) (dQ (.v _)),s,l,y,rfl,fy⟩
def Of (l:List xU):List AV:=l.flatMap kX
theorem aAS (x:xU):yY 190 446 720 (some (1,kX x))=some (none,.row 190 446 [x].length (Of [x])):=by simp[yY,maxLen,Of]
theorem aAT (l:List xU) (x:xU) (s g:Nat) (h:(l.length:Int)<1000000):yK 190 446 720 (some (.row 190 446 l.length (Of l))) s g (some (1,kX x))=some (some (s,g),.row 190 446 (l++[x]).length (Of (l++[x]))):=by
 simp only[yK];rw[if_pos ⟨by simp,trivial,trivial,by omega,by simp only[maxLen];omega⟩]
 simp[Of,List.flatMap_append]
theorem Tu (l:List xU) (h:∀y∈l,pH y):∀x∈Of l,Flat x:=by
 intro x hx;obtain⟨y,hm,hy⟩:=List.mem_flatMap.1 hx
 have hf:=(h y hm).flat
 cases hf with
 | agg _ hc=>exact hc x hy
theorem aHa (n:Nat) (l:List xU) (h:∀y∈l,pH y):jE (some (.row 190 446 n (Of l)))=some (.sl n (Of l)):=by
 unfold jE;simp only;rw[if_pos (Tu l h)]
theorem x75 (l:List Int) (hl:(l.length:Int)<=9223372036854775807):∃r,aC Tryz.prog 75 [.sl l.length (aI l)]=some r/\∃(c:Config) (X:AV) (t:State) (v:SV) (Q R:Option (List Request)),r=.dX [.agg (bU c),X,.agg (aF t)]/\Flat (.agg (bU c))/\Flat X/\TI t v Q R 24000 6144:=by
 obtain⟨y1,hy1,c,b,rfl,hc⟩:=aT6 l hl
 have fc:Flat (.agg (bU c)):=(Dr c).2 (by rw[hc.jQ];exact dP _)
 have k101:∀(st:St) (d:Option Nat),eY (aC Tryz.prog) 101 _ st d=_:=fun st d=>Jd (cT (Tc l)) hy1 fc
 obtain⟨y2,hy2,Ny,last,y,rfl,fy⟩:=aUk hc
 have T0:=(TI.new hc).emit Ny last
 have k144:=kx hy2 (cT fc) (.dX _ (oW T0.td.flat fy (.v _)))
 have k16:=Pz l hl 16 (by omega) (by omega)
 have k17:=Pz l hl 17 (by omega) (by omega)
 have n0:=(Py l hl 16 (by omega) (by omega)).2.1
 obtain⟨n1,n2⟩:=eB (n:=25) n0 (by omega)
 obtain⟨N,hN⟩:∃N,(JR l 16).tmod 25=N:=⟨_,rfl⟩
 rw[hN] at n1 n2;rw[cG Tryz.func75 rfl aUl (by kernel_rfl) rfl]
 have body:∀(M:Int),0<=M->M<=24->∀st:St,(st.env 0=.sl l.length (aI l)/\st.env 2=.ptr 2 0 0/\st.heap 2 0=some (.cells (bU oA))/\st.env 4=.ptr 4 0 0/\st.heap 4 0=some (.cells (aF lD))/\st.env 5=.ptr 5 0 0/\st.heap 5 0=some (.cells (bU c))/\st.env 6=.ptr 6 0 0/\st.heap 6 0=some (.cells (aF { aAR c b with Ny:=Ny,last:=last }))/\st.env 9=.v (.slice none 0 0)/\st.env 10=.v (.int .i64 M)/\st.env 11=.v (.int .i64 0))->∃e st',wW Tryz.prog true (kP (Tryz.f75.body.getD .skip)) st=some (e,st')/\(e=.exit 0/\∃(t:State) (v:SV) (Q R:Option (List Request)),(st'.env 2=.ptr 2 0 0/\st'.heap 2 0=some (.cells (bU oA))/\st'.env 4=.ptr 4 0 0/\st'.heap 4 0=some (.cells (aF lD))/\st'.env 5=.ptr 5 0 0/\st'.heap 5 0=some (.cells (bU c))/\st'.env 6=.ptr 6 0 0/\st'.heap 6 0=some (.cells (aF t)))/\(st'.env 9=.v (.slice none 0 0)\/∃(L:List xU) (g:Nat),st'.env 9=.own 48 g/\st'.heap 48 g=some (.row 190 446 L.length (Of L))/\∀y∈L,pH y)/\TI t v Q R 24000 6144):=by
  intro M hM0 hM1 st hs;suffices key:∃r,cA (wW Tryz.prog true (kP (Tryz.f75.body.getD .skip)) st) some=some r/\(r.1=.exit 0/\∃(t:State) (v:SV) (Q R:Option (List Request)),(r.2.env 2=.ptr 2 0 0/\r.2.heap 2 0=some (.cells (bU oA))/\r.2.env 4=.ptr 4 0 0/\r.2.heap 4 0=some (.cells (aF lD))/\r.2.env 5=.ptr 5 0 0/\r.2.heap 5 0=some (.cells (bU c))/\r.2.env 6=.ptr 6 0 0/\r.2.heap 6 0=some (.cells (aF t)))/\(r.2.env 9=.v (.slice none 0 0)\/∃(L:List xU) (g:Nat),r.2.env 9=.own 48 g/\r.2.heap 48 g=some (.row 190 446 L.length (Of L))/\∀y∈L,pH y)/\TI t v Q R 24000 6144) by
   obtain⟨r,h,hq⟩:=key
   cases hx:wW Tryz.prog true (kP (Tryz.f75.body.getD .skip)) st with
   | none=>rw[hx] at h;cases h
   | some y=>rw[hx] at h;simp only[cI,Option.some.injEq] at h;subst h;exact⟨y.1,y.2,rfl,hq⟩
  simp only[Tryz.f75,Option.getD_some,kP];refine mD (fun m st=>∃(k:Nat) (t:State) (v:SV) (Q R:Option (List Request)),(st.env 0=.sl l.length (aI l)/\st.env 2=.ptr 2 0 0/\st.heap 2 0=some (.cells (bU oA))/\st.env 4=.ptr 4 0 0/\st.heap 4 0=some (.cells (aF lD))/\st.env 5=.ptr 5 0 0/\st.heap 5 0=some (.cells (bU c))/\st.env 6=.ptr 6 0 0/\st.heap 6 0=some (.cells (aF t))/\st.env 10=.v (.int .i64 M)/\st.env 11=.v (.int .i64 k))/\(st.env 9=.v (.slice none 0 0)\/∃(L:List xU) (g:Nat),(st.env 9=.own 48 g/\st.heap 48 g=some (.row 190 446 L.length (Of L)))/\g<st.aK 48/\(∀y∈L,pH y)/\L.length<=k)/\TI t v Q R (1000 * k) (256 * k)/\(k:Int)<=M/\m=(M-k).toNat)
   (fun e st=>e=.exit 0/\∃(t:State) (v:SV) (Q R:Option (List Request)),(st.env 2=.ptr 2 0 0/\st.heap 2 0=some (.cells (bU oA))/\st.env 4=.ptr 4 0 0/\st.heap 4 0=some (.cells (aF lD))/\st.env 5=.ptr 5 0 0/\st.heap 5 0=some (.cells (bU c))/\st.env 6=.ptr 6 0 0/\st.heap 6 0=some (.cells (aF t)))/\(st.env 9=.v (.slice none 0 0)\/∃(L:List xU) (g:Nat),st.env 9=.own 48 g/\st.heap 48 g=some (.row 190 446 L.length (Of L))/\∀y∈L,pH y)/\TI t v Q R 24000 6144) M.toNat ?step ?start ?rest
  case start=>exact⟨0,_,_,_,_,⟨hs.1,hs.2.1,hs.2.2.1,hs.2.2.2.1,hs.2.2.2.2.1,hs.2.2.2.2.2.1,hs.2.2.2.2.2.2.1,hs.2.2.2.2.2.2.2.1,hs.2.2.2.2.2.2.2.2.1,hs.2.2.2.2.2.2.2.2.2.2.1,hs.2.2.2.2.2.2.2.2.2.2.2⟩,.inl hs.2.2.2.2.2.2.2.2.2.1,T0,by omega,by omega⟩
  case rest=>exact fun e st h=>⟨_,rfl,h⟩
  case step =>
   clear hs
   rintro m st ⟨k,t,v,Q,R,hI,hX,T,hk,hm⟩
   by_cases aZ:(k:Int)<M
   case neg =>
    have hX':st.env 9=.v (.slice none 0 0)\/∃(L:List xU) (g:Nat),st.env 9=.own 48 g/\st.heap 48 g=some (.row 190 446 L.length (Of L))/\∀y∈L,pH y:=hX.imp id fun ⟨L,g,h1,_,h3,_⟩=>⟨L,g,h1.1,h1.2,h3⟩
    apply OS (.exit 0)
    ·simp only[ZG,seval,BD,hI,aZ];rfl
    ·exact⟨rfl,t,v,Q,R,by simp only[E8,seval,hI],by simpa only[E8,seval] using hX',T.mono (by omega) (by omega) (by omega) (by omega)⟩
   have hw:IntKind.i64.wrap ((k:Int)+1)=((k+1:Nat):Int):=by rw[pM _ (by omega) (by omega)];omega
   obtain⟨j,hj⟩:∃j:Int,j=18+(k:Int):=⟨_,rfl⟩
   have hwj:IntKind.i64.wrap (18+(k:Int))=j:=by rw[pM _ (by omega) (by omega),hj]
   obtain⟨n,hn⟩:∃n:Int,n=10+(k:Int):=⟨_,rfl⟩
   have hwn:IntKind.i64.wrap (10+(k:Int))=n:=by rw[pM _ (by omega) (by omega),hn]
   have kj:=Pz l hl j (by omega) (by omega)
   have j0:=(Py l hl j (by omega) (by omega)).2.1
   have op:∀z:Int,0<=z->∃(y:xU) (t':State) (w:AV) (e:Int) (v':SV) (Q' R':Option (List Request)),(∀(st:St) (d:Option Nat),aN (aC Tryz.prog) 146 [.agg (aF t),.v (.int .i64 n),.v (.int .i64 z)] st d=some { dst:=d,val:=.agg (kX y)})/\(∀(st:St) (d:Option Nat),aN (aC Tryz.prog) 147 [.agg (aF t),.agg (kX y)] st d=some { dst:=d,val:=.dX [.agg (aF t'),w,.v (.int .i64 e)]})/\pH y/\TI t' v' Q' R' (1000 * ((k+1:Nat):Int)) (256 * ((k+1:Nat):Int)):=by
    intro z hz;obtain⟨y3,hy3,o,rfl,ho,hr⟩:=aT3 T.td T.gi T.rg T.jQ (fun r hr=>by obtain⟨h1,h2,_⟩:=T.tq.all r hr;have:=T.nt;exact⟨by omega,by omega⟩) n z hz
    have hp:o.kind=2->Pr o.block.root:=fun h2=>by
     rcases hr h2 with h|⟨a,ha,h⟩
     ·rw[h];exact aG9 (by omega) (by omega)
     ·rw[h];exact T.rg.rt a ha
    obtain⟨y4,hy4,t',w,e,v',Q',R',rfl,fw,T'⟩:=aUh T o ho hp (by omega) (by omega)
    exact⟨o,t',w,e,v',Q',R',kx hy3 (oW T.td.flat (.v _) (.v _)) ho.flat,kx hy4 (bH T.td.flat ho.flat) (.dX _ (oW T'.td.flat fw (.v _))),ho,T'.mono (by omega) (by omega) (by omega) (by omega)⟩
   by_cases k0:(k:Int)=0
   ·obtain⟨o,t',w,e,v',Q',R',aAU,aAV,ho,T'⟩:=op 0 (by omega)
    rcases hX with hX|⟨L,g,hX,hg,hL,hLk⟩
    ·apply Ge ((M-((k+1:Nat):Int)).toNat)
     ·simp only[ZG,seval,BD,hI,hX,aZ,hwj,kj,bt k0,hwn,aAU,aAS,aAV,eC,hw];rfl
     ·exact⟨k+1,t',v',Q',R',by simp only[E8,seval,hI],.inr ⟨[o],_,⟨by simp only[E8,seval]<;>rfl,by simp only[E8,seval]<;>rfl⟩,by simp only[E8,seval]<;>omega,(fun y hy=>by rw[List.mem_singleton] at hy;rw[hy];exact ho),by simp⟩,T',by omega,rfl⟩
    ·have nL:(L.length:Int)<1000000:=by omega
     have wB:(g=st.aK 48)=False:=eq_false (by omega)
     apply Ge ((M-((k+1:Nat):Int)).toNat)
     ·simp only[ZG,seval,BD,hI,hX,wB,aZ,hwj,kj,bt k0,hwn,aAU,aAT _ _ _ _ nL,aAV,eC,hw];rfl
     ·exact⟨k+1,t',v',Q',R',by simp only[E8,seval,hI],.inr ⟨L++[o],_,⟨by simp only[E8,seval]<;>rfl,by simp only[E8,seval]<;>rfl⟩,by simp only[E8,seval]<;>omega,(fun y hy=>(List.mem_append.1 hy).elim (hL y) fun h=>by rw[List.mem_singleton] at h;rw[h];exact ho),by rw[List.length_append,List.length_cons,List.length_nil];omega⟩,T',by omega,rfl⟩
   ·obtain⟨o,t',w,e,v',Q',R',aAU,aAV,ho,T'⟩:=op (JR l j) j0
    rcases hX with hX|⟨L,g,hX,hg,hL,hLk⟩
    ·apply Ge ((M-((k+1:Nat):Int)).toNat)
     ·simp only[ZG,seval,BD,hI,hX,aZ,hwj,kj,bf k0,hwn,aAU,aAS,aAV,eC,hw];rfl
     ·exact⟨k+1,t',v',Q',R',by simp only[E8,seval,hI],.inr ⟨[o],_,⟨by simp only[E8,seval]<;>rfl,by simp only[E8,seval]<;>rfl⟩,by simp only[E8,seval]<;>omega,(fun y hy=>by rw[List.mem_singleton] at hy;rw[hy];exact ho),by simp⟩,T',by omega,rfl⟩
    ·have nL:(L.length:Int)<1000000:=by omega
     have wB:(g=st.aK 48)=False:=eq_false (by omega)
     apply Ge ((M-((k+1:Nat):Int)).toNat)
     ·simp only[ZG,seval,BD,hI,hX,wB,aZ,hwj,kj,bf k0,hwn,aAU,aAT _ _ _ _ nL,aAV,eC,hw];rfl
     ·exact⟨k+1,t',v',Q',R',by simp only[E8,seval,hI],.inr ⟨L++[o],_,⟨by simp only[E8,seval]<;>rfl,by simp only[E8,seval]<;>rfl⟩,by simp only[E8,seval]<;>omega,(fun y hy=>(List.mem_append.1 hy).elim (hL y) fun h=>by rw[List.mem_singleton] at h;rw[h];exact ho),by rw[List.length_append,List.length_cons,List.length_nil];omega⟩,T',by omega,rfl⟩
 by_cases g1:0<(JR l 17).tmod 4
 ·simp only[ZG,seval,BD,k101,k144,eC,k16,hN,k17,g1];refine Kx (a:=kP (Tryz.f75.body.getD .skip)) (fun e st'=>e=.exit 0/\∃(t:State) (v:SV) (Q R:Option (List Request)),(st'.env 2=.ptr 2 0 0/\st'.heap 2 0=some (.cells (bU oA))/\st'.env 4=.ptr 4 0 0/\st'.heap 4 0=some (.cells (aF lD))/\st'.env 5=.ptr 5 0 0/\st'.heap 5 0=some (.cells (bU c))/\st'.env 6=.ptr 6 0 0/\st'.heap 6 0=some (.cells (aF t)))/\(st'.env 9=.v (.slice none 0 0)\/∃(L:List xU) (g:Nat),st'.env 9=.own 48 g/\st'.heap 48 g=some (.row 190 446 L.length (Of L))/\∀y∈L,pH y)/\TI t v Q R 24000 6144) (body 24 (by omega) (by omega) _ (by simp only[E8,seval]<;>rfl)) ?rest
  rintro e st ⟨rfl,t,v,Q,R,hI,hX|⟨L,g,hX,hh,hL⟩,T⟩
  ·have ft:=T.td.flat
   simp only[ZG,seval,BD,hI,hX];exact⟨_,gR rfl (by simp only[bX,Z8,seval,hI]<;>rfl) (by simp only[bX,Z8,seval,hX]<;>rfl) (by simp only[bX,Z8,seval,hI]<;>rfl) (dQ fc) (dQ (.v _)) (dQ ft),c,_,t,v,Q,R,rfl,fc,.v _,T⟩
  ·have ft:=T.td.flat
   have ex:=aHa L.length L hL
   simp only[ZG,seval,BD,hI,hX,hh];exact⟨_,gR rfl (by simp only[bX,Z8,seval,hI]<;>rfl) (by simp only[bX,Z8,seval,hX]<;>rfl) (by simp only[bX,Z8,seval,hI]<;>rfl) (dQ fc) (by simp only[Z8,seval,hh,ex]<;>rfl) (dQ ft),c,_,t,v,Q,R,rfl,fc,.sl _ _ (Tu L hL),T⟩
 ·simp only[ZG,seval,BD,k101,k144,eC,k16,hN,k17,g1];refine Kx (a:=kP (Tryz.f75.body.getD .skip)) (fun e st'=>e=.exit 0/\∃(t:State) (v:SV) (Q R:Option (List Request)),(st'.env 2=.ptr 2 0 0/\st'.heap 2 0=some (.cells (bU oA))/\st'.env 4=.ptr 4 0 0/\st'.heap 4 0=some (.cells (aF lD))/\st'.env 5=.ptr 5 0 0/\st'.heap 5 0=some (.cells (bU c))/\st'.env 6=.ptr 6 0 0/\st'.heap 6 0=some (.cells (aF t)))/\(st'.env 9=.v (.slice none 0 0)\/∃(L:List xU) (g:Nat),st'.env 9=.own 48 g/\st'.heap 48 g=some (.row 190 446 L.length (Of L))/\∀y∈L,pH y)/\TI t v Q R 24000 6144) (body N (by omega) (by omega) _ (by simp only[E8,seval]<;>rfl)) ?QH
  rintro e st ⟨rfl,t,v,Q,R,hI,hX|⟨L,g,hX,hh,hL⟩,T⟩
  ·have ft:=T.td.flat
   simp only[ZG,seval,BD,hI,hX];exact⟨_,gR rfl (by simp only[bX,Z8,seval,hI]<;>rfl) (by simp only[bX,Z8,seval,hX]<;>rfl) (by simp only[bX,Z8,seval,hI]<;>rfl) (dQ fc) (dQ (.v _)) (dQ ft),c,_,t,v,Q,R,rfl,fc,.v _,T⟩
  ·have ft:=T.td.flat
   have ex:=aHa L.length L hL
   simp only[ZG,seval,BD,hI,hX,hh];exact⟨_,gR rfl (by simp only[bX,Z8,seval,hI]<;>rfl) (by simp only[bX,Z8,seval,hX]<;>rfl) (by simp only[bX,Z8,seval,hI]<;>rfl) (dQ fc) (by simp only[Z8,seval,hh,ex]<;>rfl) (dQ ft),c,_,t,v,Q,R,rfl,fc,.sl _ _ (Tu L hL),T⟩
theorem x24 (l:List Int) (hl:(l.length:Int)<=9223372036854775807):∃(t:State) (v:SV) (Q R:Option (List Request)),aC Tryz.prog 24 [.sl l.length (aI l)]=some (.agg (aF t))/\TI t v Q R 24000 6144:=by
 suffices h:∃r,aC Tryz.prog 24 [.sl l.length (aI l)]=some r/\∃(t:State) (v:SV) (Q R:Option (List Request)),r=.agg (aF t)/\TI t v Q R 24000 6144 by
  obtain⟨r,h,t,v,Q,R,rfl,T⟩:=h
  exact⟨t,v,Q,R,h,T⟩
 obtain⟨y,hy,c,X,t,v,Q,R,rfl,fc,fX,T⟩:=x75 l hl
 have ft:=T.td.flat
 have k75:=kx hy (cT (Tc l)) (.dX _ (oW fc fX ft))
 rw[cL Tryz.func24 rfl aUm rfl];simp only[Z8,seval,k75,eC];exact⟨_,fK rfl (by simp only[E8,seval,ft]<;>rfl) (by simp only[Z8,seval,ft]<;>rfl) (by simp only[dN,and_self,ft]),t,v,Q,R,rfl,T⟩
end Go.Ab.Tryz
namespace Go.Ab.Tryz
open Classical Go.Proofs Go.Ab
end Go.Ab.Tryz
namespace Go.Ab.Tryz
open Classical Go.Proofs Go.Ab
theorem GI.now {s:aO} {v:SV} {q:Int} (h:GI s v q) (n:Int):GI { s with now:=n } v q :=
 ⟨⟨h.sd.jQ,h.sd.dO,h.sd.gW,h.sd.early,h.sd.bV,h.sd.tree,h.sd.tables,h.sd.eV,h.sd.tB,h.sd.nB,h.sd.nL,h.sd.nQ,h.sd.nE,h.sd.nO,h.sd.nT,h.sd.nn⟩,h.up,h.PI,h.pos,h.nl,h.XS,h.rD,h.QF,h.nB,h.nO,h.QG,h.nE,h.WG,h.nT,h.XT,h.nQ,h.Z6,h.gX⟩
theorem RG.aAP {s:aO} {v:SV} (r:RG s v) (hs:1<=s.cFg.rD) {n:Int} (h0:s.now<=n) (h1:n<=1099511627776):RG { s with now:=n } v :=
 ⟨⟨by have:=r.now.1;show 0<=n;omega,h1⟩,r.j,r.f,fun a ha=>⟨(r.nd a ha).1,by have:=(r.nd a ha).2;show a.block.slot<=n;omega⟩,r.or,r.rt,⟨r.fe.1,Int.le_trans r.fe.2 (show Fl s s.now<=Fl s n from QU hs r.now.1 h0 (by omega))⟩,r.ds,r.tb,r.ne⟩
end Go.Ab.Tryz
namespace Go.Ab.Tryz
open Classical Go.Proofs Go.Ab
open Classical Go.Proofs Go.Ab
end Go.Ab.Tryz
namespace Go.Ab.Tryz
open Classical Go.Proofs Go.Ab
def uo {α:Type} (e sz:Nat) (c:List α->List AV):Option (List α)->AV
 | none=>.v (.slice none 0 0)
 | some l=>.uniq e sz l.length (c l)
def rl {α:Type} (e sz:Nat) (c:List α->List AV):Option (List α)->List jC
 | none=>[]
 | some l=>[.row e sz l.length (c l)]
def rv {α:Type} (d k:Nat):Option (List α)->AV
 | none=>.v (.slice none 0 0)
 | some _=>.own d k
def OT (d:Nat) (es:List jC):Option (Nat × List jC):=if es=[] then none else some (d,es)
theorem aAW (st:St) (d:Nat):st.news d []=st:=by
 unfold St.news;cases st with
 | mk env heap aK =>
   simp only[List.length_nil,Nat.not_lt_zero,and_false,if_false,Nat.add_zero,St.mk.injEq,true_and];funext s
   split
   ·rename_i h;rw[h]
   ·rfl
theorem N7 (x:Option Nat) (v:AV) (d:Nat) (es:List jC) (st:St):({ dst:=x,val:=v,new:=OT d es }:mA).apply st=(st.news d es).put x v:=by
 unfold OT;by_cases h:es=[]
 ·rw[if_pos h,h,aAW];rfl
 ·rw[if_neg h];rfl
theorem aAX (st:St) (t d:Nat) (es:List jC):(st.news d es).env t=st.env t:=rfl
theorem aAY (st:St) (t d:Nat) (es:List jC):(st.news d es).aK t=if t=d then st.aK d+es.length else st.aK t:=rfl
theorem zM (st:St) (s g d:Nat) (es:List jC):(st.news d es).heap s g=if s=d/\st.aK d<=g/\g-st.aK d<es.length then es[g-st.aK d]? else st.heap s g:=rfl
theorem Ci {α:Type} {call:Nat->List AV->Option AV} {g e sz d:Nat} {args:List AV} {c:List α->List AV} {L:Option (List α)} {st:St} (hf:∀x∈args,Flat x) (h:call g args=some (uo e sz c L)) :
 aN call g args st (some d)=some { dst:=some d,val:=rv d (st.aK d) L,new:=OT d (rl e sz c L)}:=by
 cases L with
 | none =>
   simp only[aN,if_pos hf,h,cI,uo,iG,if_pos (Flat.v _),rv,rl,OT];rfl
 | some l=>rw[jD hf h];simp only[rv,rl,OT,List.cons_ne_nil,if_false]
theorem iT {α:Type} {st:St} {d k e sz:Nat} {c:List α->List AV} {L:Option (List α)} (hh:∀l,L=some l->st.heap d k=some (.row e sz l.length (c l))) (hf:∀l,L=some l->∀x∈c l,Flat x):jU st (rv d k L)=some (uo e sz c L):=by
 cases L with
 | none=>exact if_pos (Flat.v _)
 | some l =>
   have hn:¬Flat (.own d k):=by intro h;cases h
   simp only[rv,uo,jU,if_neg hn,hh l rfl,if_pos (hf l rfl)]
theorem RI {α:Type} {c:List α->List AV} {z:Nat} (hc:∀l,(c l).length=l.length * z) (hz:0<z) {l:List α} (h:l≠[]):c l≠[]:=by
 intro he;have h1:=hc l
 rw[he] at h1;have h2:0<l.length:=List.length_pos_iff.mpr h
 have:=Nat.mul_pos h2 hz
 simp only[List.length_nil] at h1;omega
theorem aEt {l:List Block} (h:l≠[]):Ext.ext 164 [.sl l.length (aH l)]=none:=by
 cases l with
 | nil=>exact absurd rfl h
 | cons x r=>rfl
theorem aUn (L:Option (List Int)) (h:L≠some []) (hn:((ol L).length:Int)<1000000):aC Tryz.prog 160 [ov bD L]=some (uo 23 1 bD L):=by
 cases L with
 | none =>
   unfold ov;rw[cL Tryz.func160 rfl aHb rfl];simp only[Z8,seval];exact bT rfl (by simp only[E8,seval]<;>rfl) (.v _)
 | some l =>
   have hl:l≠[]:=fun h2=>h (by rw[h2])
   have gI:bD l≠[]:=RI (z:=1) (fun l=>by simp[Tv]) (by omega) hl
   have ha:=fun s g=>Fy (e:=23) (sz:=1) (by_:=8) (s:=s) (g:=g) (n:=l.length) (cs:=bD l) (by simp[Tv]) (by simp only[ol,Option.getD_some] at hn;omega) (by simp only[ol,Option.getD_some] at hn;unfold maxLen;omega)
   unfold ov;rw[cL Tryz.func160 rfl aHb rfl];simp only[Z8,seval,gI,ha];exact tH rfl (by simp only[E8,seval];rfl) (by simp only[E8,seval]) (iC _)
theorem aON (L:Option (List Int)) (h:L≠some []) (hn:((ol L).length:Int)<1000000) (st:St) (d:Nat):aN (aC Tryz.prog) 160 [ov bD L] st (some d)=some { dst:=some d,val:=rv d (st.aK d) L,new:=OT d (rl 23 1 bD L)}:=Ci (cT (dP L)) (aUn L h hn)
theorem aUo (L:Option (List kO)) (h:L≠some []) (hn:((ol L).length:Int)<1000000):aC Tryz.prog 190 [ov cP L]=some (uo 100 34 cP L):=by
 cases L with
 | none =>
   unfold ov;rw[cL Tryz.func190 rfl aHc rfl];simp only[Z8,seval];exact bT rfl (by simp only[E8,seval]<;>rfl) (.v _)
 | some l =>
   have hl:l≠[]:=fun h2=>h (by rw[h2])
   have gI:cP l≠[]:=RI (z:=34) (fun l=>by simp) (by omega) hl
   have ha:=fun s g=>Fy (e:=100) (sz:=34) (by_:=48) (s:=s) (g:=g) (n:=l.length) (cs:=cP l) (by simp) (by simp only[ol,Option.getD_some] at hn;omega) (by simp only[ol,Option.getD_some] at hn;unfold maxLen;omega)
   unfold ov;rw[cL Tryz.func190 rfl aHc rfl];simp only[Z8,seval,gI,ha];exact tH rfl (by simp only[E8,seval];rfl) (by simp only[E8,seval]) (nG _)
theorem aUp (L:Option (List kO)) (h:L≠some []) (hn:((ol L).length:Int)<1000000) (st:St) (d:Nat):aN (aC Tryz.prog) 190 [ov cP L] st (some d)=some { dst:=some d,val:=rv d (st.aK d) L,new:=OT d (rl 100 34 cP L)}:=Ci (cT (rA L)) (aUo L h hn)
theorem aUq (L:Option (List Int)) (h:L≠some []) (hn:((ol L).length:Int)<1000000):aC Tryz.prog 191 [ov aI L]=some (uo 3 1 aI L):=by
 cases L with
 | none =>
   unfold ov;rw[cL Tryz.func191 rfl aHd rfl];simp only[Z8,seval];exact bT rfl (by simp only[E8,seval]<;>rfl) (.v _)
 | some l =>
   have hl:l≠[]:=fun h2=>h (by rw[h2])
   have gI:aI l≠[]:=RI (z:=1) (fun l=>by simp[Ky]) (by omega) hl
   have ha:=fun s g=>Fy (e:=3) (sz:=1) (by_:=8) (s:=s) (g:=g) (n:=l.length) (cs:=aI l) (by simp[Ky]) (by simp only[ol,Option.getD_some] at hn;omega) (by simp only[ol,Option.getD_some] at hn;unfold maxLen;omega)
   unfold ov;rw[cL Tryz.func191 rfl aHd rfl];simp only[Z8,seval,gI,ha];exact tH rfl (by simp only[E8,seval];rfl) (by simp only[E8,seval]) (fS _)
theorem aOO (L:Option (List Int)) (h:L≠some []) (hn:((ol L).length:Int)<1000000) (st:St) (d:Nat):aN (aC Tryz.prog) 191 [ov aI L] st (some d)=some { dst:=some d,val:=rv d (st.aK d) L,new:=OT d (rl 3 1 aI L)}:=Ci (cT (bR L)) (aUq L h hn)
theorem aOP (L:Option (List Block)) (h:L≠some []) (hn:((ol L).length:Int)<1000000):aC Tryz.prog 164 [ov aH L]=some (uo 74 238 aH L):=by
 cases L with
 | none =>
   unfold ov;rw[Qw Tryz.prog Tryz.func164 rfl aHe _ rfl rfl];simp only[Z8,seval];exact bT rfl (by simp only[E8,seval]<;>rfl) (.v _)
 | some l =>
   have hl:l≠[]:=fun h2=>h (by rw[h2])
   have gI:aH l≠[]:=RI (z:=238) (fun l=>by simp) (by omega) hl
   have ha:=fun s g=>Fy (e:=74) (sz:=238) (by_:=336) (s:=s) (g:=g) (n:=l.length) (cs:=aH l) (by simp) (by simp only[ol,Option.getD_some] at hn;omega) (by simp only[ol,Option.getD_some] at hn;unfold maxLen;omega)
   unfold ov;rw[Qw Tryz.prog Tryz.func164 rfl aHe _ (aEt hl) rfl];simp only[Z8,seval,gI,ha];exact tH rfl (by simp only[E8,seval];rfl) (by simp only[E8,seval]) (pF _)
theorem aUr (L:Option (List Block)) (h:L≠some []) (hn:((ol L).length:Int)<1000000) (st:St) (d:Nat):aN (aC Tryz.prog) 164 [ov aH L] st (some d)=some { dst:=some d,val:=rv d (st.aK d) L,new:=OT d (rl 74 238 aH L)}:=Ci (cT (Ga L)) (aOP L h hn)
theorem aUs (L:Option (List Request)) (h:L≠some []) (hn:((ol L).length:Int)<1000000):aC Tryz.prog 148 [ov aA L]=some (uo 63 35 aA L):=by
 cases L with
 | none =>
   unfold ov;rw[cL Tryz.func148 rfl aHf rfl];simp only[Z8,seval];exact bT rfl (by simp only[E8,seval]<;>rfl) (.v _)
 | some l =>
   have hl:l≠[]:=fun h2=>h (by rw[h2])
   have gI:aA l≠[]:=RI (z:=35) (fun l=>by simp) (by omega) hl
   have ha:=fun s g=>Fy (e:=63) (sz:=35) (by_:=56) (s:=s) (g:=g) (n:=l.length) (cs:=aA l) (by simp) (by simp only[ol,Option.getD_some] at hn;omega) (by simp only[ol,Option.getD_some] at hn;unfold maxLen;omega)
   unfold ov;rw[cL Tryz.func148 rfl aHf rfl];simp only[Z8,seval,gI,ha];exact tH rfl (by simp only[E8,seval];rfl) (by simp only[E8,seval]) (fF _)
theorem aOQ (L:Option (List Request)) (h:L≠some []) (hn:((ol L).length:Int)<1000000) (st:St) (d:Nat):aN (aC Tryz.prog) 148 [ov aA L] st (some d)=some { dst:=some d,val:=rv d (st.aK d) L,new:=OT d (rl 63 35 aA L)}:=Ci (cT (eD L)) (aUs L h hn)
theorem pV {α:Type} {st:St} {d k e sz:Nat} {c:List α->List AV} {L:Option (List α)} (hh:∀l,L=some l->st.heap d k=some (.row e sz l.length (c l))) (hf:∀l,L=some l->∀x∈c l,Flat x):cC st (rv d k L)=some (ov c L):=by
 cases L with
 | none=>exact if_pos (Flat.v _)
 | some l =>
   have hn:¬Flat (.own d k):=by intro h;cases h
   simp only[rv,ov,cC,if_neg hn,hh l rfl,if_pos (hf l rfl)]
theorem aAZ {α:Type} (d k:Nat) (L:Option (List α)):(rv d k L).cells=[rv d k L]:=by cases L<;>rfl
theorem aEu {α:Type} (d k:Nat) (L:Option (List α)):(rv d k L).jO=true:=by cases L<;>rfl
def NW:=aj (aj (aj @N7 @aAX) (aj @aAY @zM)) (aj @aAZ @aEu)
theorem aUt (a:sP) (V:Option (List Int)) (ha:a.eU=ov aI V) (h:V≠some []) (hn:((ol V).length:Int)<1000000):aC Tryz.prog 163 [.agg (gZ a)]=some (.agg (gZ a)):=by
 rw[cL Tryz.func163 rfl aOR rfl];simp only[Z8,seval,ha,aOO V h hn,NW];refine dY rfl (by simp only[E8,seval,NW]<;>rfl) (cs:=gZ { a with eU:=rv 5 0 V }) (by simp only[Z8,seval,NW]<;>rfl) ?_
 rw[bQ,lT,pV (e:=3) (sz:=1) (c:=aI) (L:=V) ?h (fun l _=>fS l),cI,cI,<- ha]
 case h =>
  intro l hl;subst hl;simp only[E8,seval,zM,rl,List.length_cons,Nat.lt_add_left_iff_pos,Nat.zero_lt_succ,if_true]
end Go.Ab.Tryz
namespace Go.Ab
open Classical
theorem Au [Ext] {P:Program} {call:Nat->List AV->Option AV} {ops:Array Oper} {d:Option Nat} {T:Nat} {pos:String} {eK:Array Edge} {st:St} (t:Nat) (args:Array Operand) (tN:Array Nat) (g:Nat) (h:st.env t=.v (.func (.func g) #[] #[])):cE P call ops ⟨d,.call ⟨.value (.tmp t),args,tN⟩,T,pos,eK,none⟩ st=cA (aN call g (args.toList.map st.ev) st d) fun e=>some (e.apply st):=by
 rw[dS];simp only[cZ,hU,mP,St.ev,h,EP,and_self,if_true,List.append_nil];cases aN call g (args.toList.map st.ev) st d<;>rfl
end Go.Ab
namespace Go.Ab.Tryz
open Classical Go.Proofs Go.Ab
theorem aUu (a b:Int):aC Tryz.prog 177 [.sl 2 (aI [a,b])]=some (.v (.int .i64 (if a=0 then b else a))):=by
 obtain⟨l,hl⟩:∃l,l=[a,b]:=⟨_,rfl⟩
 have h2:l.length=2:=by rw[hl];rfl
 have i0:it l ((0:Nat):Int)=a:=by rw[hl];rfl
 have i1:it l ((1:Nat):Int)=b:=by rw[hl];rfl
 rw[<- hl,<- h2];rw[cL Tryz.func177 rfl aOS rfl];refine iX ?_
 simp only[Z8,seval];refine cB (fun m st=>∃k:Nat,(st.env 6=.sl l.length (aI l)/\st.env 7=.v (.int .i64 l.length)/\st.env 3=.v (.int .i64 0)/\st.env 8=.v (.int .i64 k))/\(∀j:Nat,j<k->¬((it l (j:Int) != 0)=true))/\k<=l.length/\m=l.length-k)
  (fun e st=>(e=.ret/\∃k:Nat,k<l.length/\((it l (k:Int) != 0)=true)/\(∀j:Nat,j<k->¬((it l (j:Int) != 0)=true))/\st.env 2=.v (.int .i64 (it l (k:Int))))\/(e=.exit 0/\(∀j:Nat,j<l.length->¬((it l (j:Int) != 0)=true))/\st.env 6=.sl l.length (aI l)/\st.env 7=.v (.int .i64 l.length)/\st.env 3=.v (.int .i64 0))) (l.length) ?step ?start ?rest
 case step =>
  rintro m st ⟨k,hI,hj,hk,hm⟩
  by_cases aZ:(k:Int)<l.length
  ·have q0:(0:Int)<=k:=by omega
   have hw:IntKind.i64.wrap ((k:Int)+1)=((k+1:Nat):Int):=by rw[pM _ (by omega) (by omega)];omega
   have gi:=nU q0 aZ
   by_cases hh:(it l (k:Int) != 0)=true
   ·apply oT (.ret)
    ·simp only[Z8,seval,hI,aZ,q0,hh,gi];rfl
    ·exact .inl ⟨rfl,k,by omega,hh,hj,by simp only[E8,seval]⟩
   ·have hn:(it l (k:Int) != 0)=false:=by simpa using hh
    apply oN (l.length-(k+1))
    ·simp only[Z8,seval,hI,aZ,q0,hn,gi,hw];rfl
    ·exact⟨k+1,by simp only[E8,seval,hI],fun j h=>(Nat.lt_succ_iff_lt_or_eq.1 h).elim (hj j) fun e=>by subst e;exact hh,by omega,rfl⟩
  ·apply oT (.exit 0)
   ·simp only[Z8,seval,hI,aZ,aZ];rfl
   ·exact .inr ⟨rfl,fun j h=>hj j (by omega),by simp only[E8,seval,hI]⟩
 case start=>exact⟨0,by simp only[E8,seval]<;>rfl,fun j h=>by omega,by omega,by omega⟩
 case rest =>
  rintro e st (⟨rfl,k,hk,hh,hj,h⟩|⟨rfl,hj,hI⟩)
  ·have e:(if a=0 then b else a)=it l (k:Int):=by
    rw[h2] at hk;cases k with
    | zero=>rw[i0] at hh ⊢;rw[if_neg (by simpa using hh)]
    | succ k =>
      have:k=0:=by omega
      subst this;have:=hj 0 (by omega)
      rw[i0] at this;rw[if_pos (by simpa using this),<- i1]
   simp only[Z8,seval];exact⟨_,bT rfl (by simp only[E8,seval,h]<;>rfl) (by first|exact .v _|simp only[dN,h]),by rw[e]⟩
  ·have e:(if a=0 then b else a)=0:=by
    have a0:=hj 0 (by omega)
    have a1:=hj 1 (by omega)
    rw[i0] at a0;rw[i1] at a1;have a0:a=0:=by simpa using a0
    have a1:b=0:=by simpa using a1
    rw[if_pos a0,a1]
   simp only[Z8,seval,hI];exact⟨_,bT rfl (by simp only[E8,seval,hI]<;>rfl) (by first|exact .v _|simp only[dN,hI]),by rw[e]⟩
def aA0 (x y:Request):Int:=if QZ x.due y.due=0 then QZ x.tagged.tag y.tagged.tag else QZ x.due y.due
theorem IP (x y:Request):aA0 x y<0↔jA x y:=by
 unfold aA0 QZ jA;repeat' split
 all_goals omega
theorem aUv (x y:Request):aC Tryz.prog 141 [.agg (bA x),.agg (bA y)]=some (.v (.int .i64 (aA0 x y))):=by
 have k178:=fun a b=>kx (aT2 a b) (bH (.v _) (.v _)) (.v _)
 have k177:∀(a b:Int) (sA:St) (s g:Nat) (d:Option Nat),sA.heap s g=some (.row 3 1 2 (aI [a,b]))->aN (aC Tryz.prog) 177 [.own s g] sA d=some { dst:=d,val:=.v (.int .i64 (if a=0 then b else a))}:=fun a b sA s g d hh=>by
  rw[kJ,List.map_cons,List.map_nil,RJ hh (fS _),bJ,gB];exact Zs (aUu a b)
 obtain⟨A,hA⟩:∃A,QZ x.due y.due=A:=⟨_,rfl⟩
 obtain⟨B,hB⟩:∃B,QZ x.tagged.tag y.tagged.tag=B:=⟨_,rfl⟩
 have hbs:∀(ops:Array Oper) (sA:St) (T:Nat) (pos:String) (eK:Array Edge),sA.env 9=.v (.int .i64 A)->sA.env 16=.v (.int .i64 B)->cE Tryz.prog (aC Tryz.prog) ops ⟨some 17,.buildSlice 22 2 #[(0,.tmp 9),(1,.tmp 16)],T,pos,eK,none⟩ sA=some ((sA.new 17 (.row 3 1 2 (aI [A,B]))).put (some 17) (.own 17 (sA.aK 17))):=fun ops sA T pos eK h1 h2=>by
  have h1:sA.ev (.tmp 9)=_:=h1
  have h2:sA.ev (.tmp 16)=_:=h2
  rw[jS,Lx];simp[cA,ze3,gM,h1,h2,AV.jO,AV.cells,Value.oneCell']
  rfl
 rw[cL Tryz.func141 rfl aOT rfl];refine iX ?_
 have k177x:=k177 A B
 simp only[Z8,seval,k178,k177x,hA,hB,hbs];exact⟨_,bT rfl (by simp only[E8,seval]<;>rfl) (by first|exact .v _|simp only[dN]),by unfold aA0;rw[hA,hB]⟩
theorem aUw (a:Table) (V:Option (List Int)) (ha:a.jQ=ov bD V) (h:V≠some []) (hn:((ol V).length:Int)<1000000):aC Tryz.prog 194 [.agg (cF a)]=some (.agg (cF a)):=by
 rw[cL Tryz.func194 rfl aOU rfl];simp only[Z8,seval,ha,aON V h hn,NW];refine dY rfl (by simp only[E8,seval,NW]<;>rfl) (cs:=cF { a with jQ:=rv 5 0 V }) (by simp only[Z8,seval,NW]<;>rfl) ?_
 rw[bQ,tU,pV (e:=23) (sz:=1) (c:=bD) (L:=V) ?h (fun l _=>iC l),cI,cI,<- ha]
 case h =>
  intro l hl;subst hl;simp only[E8,seval,zM,rl,List.length_cons,Nat.lt_add_left_iff_pos,Nat.zero_lt_succ,if_true]
theorem E7 {α:Type} (z:α) (l:List α) (k:Nat) (h:k<l.length):l.take k++[gx z l (k:Int)]=l.take (k+1):=by
 rw[List.take_succ_eq_append_getElem h];congr 2
 simp[gx,h]
theorem aUx (E:Option (List sP)) (h:E≠some []) (hn:((ol E).length:Int)<1000000) (hE:∀a∈ol E,∃V,a.eU=ov aI (some V)/\V≠[]) (hA:∀a∈ol E,Dt a) :
 aC Tryz.prog 162 [ov dE E,.v (.func (.func 163) #[] #[])]=some (uo 87 67 dE E):=by
 have lK:∀y∈ol E,Flat y.eU:=fun y m=>(hA y m).fl
 have kg:∀k:Nat,k<(ol E).length->∀(st:St) (d:Option Nat),aN (aC Tryz.prog) 163 [.agg (gZ (gx Ma (ol E) (k:Int)))] st d=some { dst:=d,val:=.agg (gZ (gx Ma (ol E) (k:Int)))}:=by
  intro k hk st d;have hm:gx Ma (ol E) (k:Int)∈ol E:=by
   have:gx Ma (ol E) (k:Int)=(ol E)[k]:=by simp[gx,hk]
   rw[this];exact List.getElem_mem hk
  obtain⟨V,hV,hV2⟩:=hE _ hm
  obtain⟨V',hV',Hz⟩:=hA _ hm
  have hfa:Flat (.agg (gZ (gx Ma (ol E) (k:Int)))):=(Ah _).2 (hA _ hm).fl
  have e0:((ol (some V)).length:Int)<1000000:=by
   have h0:ov aI (some V)=ov aI V':=by rw[<- hV,<- hV']
   cases V' with
   | none=>cases h0
   | some W =>
     simp only[ov,AV.sl.injEq] at h0;simp only[ol,Option.getD_some] at Hz ⊢
     omega
  exact kx (aUt _ (some V) hV (by simpa using hV2) e0) (cT hfa) hfa st d
 have hu:([ov dE E,.v (.func (.func 163) #[] #[])]:List AV).any oC=false:=by cases E<;>rfl
 rw[cL Tryz.func162 rfl aOW hu];simp only[Z8,seval];refine lP (fun m st=>∃k:Nat,(st.env 8=ov dE E/\st.env 9=.v (.int .i64 (ol E).length)/\st.env 10=.v (.int .i64 k)/\st.env 1=.v (.func (.func 163) #[] #[]))/\((k=0/\st.env 5=.v (.slice none 0 0))\/(0<k/\∃j,st.env 5=.own 19 j/\st.heap 19 j=some (.row 87 67 ((ol E).take k).length (dE ((ol E).take k)))))/\k<=(ol E).length/\m=(ol E).length-k)
  (fun e st=>e=.exit 0/\((ol E=[]/\st.env 5=.v (.slice none 0 0))\/(ol E≠[]/\∃j,st.env 5=.own 19 j/\st.heap 19 j=some (.row 87 67 (ol E).length (dE (ol E)))))) (ol E).length ?step ?start ?rest
 case step =>
  rintro m st ⟨k,hI,hR,hk,hm⟩
  by_cases aZ:(k:Int)<(ol E).length
  ·have q0:(0:Int)<=k:=by omega
   have hw:IntKind.i64.wrap ((k:Int)+1)=((k+1:Nat):Int):=by rw[pM _ (by omega) (by omega)];omega
   have ht:=E7 Ma (ol E) k (by omega)
   have kk:=kg k (by omega)
   rcases hR with ⟨xE,h5⟩|⟨xE,j,h5,h6⟩
   ·have ht':[gx Ma (ol E) (k:Int)]=(ol E).take (k+1):=by rw[<- ht,show (ol E).take k=[] by rw[xE,List.take_zero],List.nil_append]
    apply oN ((ol E).length-(k+1))
    ·simp only[Z8,seval,hI,h5,aZ,q0,kk,Au 15 _ _ 163,KR,hw];rfl
    ·exact⟨k+1,⟨by simp only[E8,seval,hI],by simp only[E8,seval,hI],by simp only[E8,seval],by simp only[E8,seval,hI]⟩,.inr ⟨by omega,_,by simp only[E8,seval]<;>rfl,by rw[<- ht'];simp only[E8,seval]<;>rfl⟩,by omega,rfl⟩
   ·have ao:=fun s g=>Yo ((ol E).take k) (gx Ma (ol E) (k:Int)) s g (by rw[List.length_take];omega)
    apply oN ((ol E).length-(k+1))
    ·simp only[Z8,seval,hI,h5,h6,aZ,q0,kk,Au 15 _ _ 163,ao,hw];rfl
    ·exact⟨k+1,⟨by simp only[E8,seval,hI],by simp only[E8,seval,hI],by simp only[E8,seval],by simp only[E8,seval,hI]⟩,.inr ⟨by omega,_,by simp only[E8,seval]<;>rfl,by rw[<- ht];simp only[E8,seval]<;>rfl⟩,by omega,rfl⟩
  ·have Hy:k=(ol E).length:=by omega
   have hF:(ol E=[]/\st.env 5=.v (.slice none 0 0))\/(ol E≠[]/\∃j,st.env 5=.own 19 j/\st.heap 19 j=some (.row 87 67 (ol E).length (dE (ol E)))):=by
    rcases hR with ⟨xE,h5⟩|⟨xE,j,h5,h6⟩
    ·exact .inl ⟨List.eq_nil_of_length_eq_zero (by omega),h5⟩
    ·exact .inr ⟨by intro h0;rw[h0] at Hy;simp at Hy;omega,j,h5,by rw[h6,Hy,List.take_length]⟩
   apply oT (.exit 0)
   ·simp only[Z8,seval,hI,aZ];rfl
   ·exact⟨rfl,by simp only[E8,seval];exact hF⟩
 case start=>exact⟨0,by simp only[E8,seval]<;>exact⟨rfl,rfl,rfl,rfl⟩,.inl ⟨rfl,by simp only[E8,seval]<;>rfl⟩,by omega,by omega⟩
 case rest =>
  rintro e st ⟨rfl,hR⟩
  rcases hR with ⟨h0,h5⟩|⟨h0,j,h5,h6⟩
  ·simp only[Z8,seval,h5];cases E with
   | none=>exact bT rfl (by simp only[E8,seval]<;>rfl) (.v _)
   | some l=>exact absurd (show (some l:Option (List sP))=some [] by rw[show l=[] from h0]) h
  ·simp only[Z8,seval,h5];cases E with
   | none=>exact absurd rfl h0
   | some l=>exact tH rfl (by simp only[E8,seval];rfl) (by simp only[E8,seval];exact h6) (tL _ lK)
theorem aUB (E:Option (List sP)) (h:E≠some []) (hn:((ol E).length:Int)<1000000) (hE:∀a∈ol E,∃V,a.eU=ov aI (some V)/\V≠[]) (hA:∀a∈ol E,Dt a) (st:St) (d:Nat) :
 aN (aC Tryz.prog) 162 [ov dE E,.v (.func (.func 163) #[] #[])] st (some d)=some { dst:=some d,val:=rv d (st.aK d) E,new:=OT d (rl 87 67 dE E)} :=
 Ci (fun x m=>by
  rcases List.mem_cons.1 m with rfl|m
  ·exact AD E fun y m=>(hA y m).fl
  ·rw[List.mem_singleton.1 m];exact .v _) (aUx E h hn hE hA)
theorem aUC (E:Option (List Table)) (h:E≠some []) (hn:((ol E).length:Int)<1000000) (hE:∀a∈ol E,∃V,a.jQ=ov bD (some V)/\V≠[]) (hA:∀a∈ol E,sS a) :
 aC Tryz.prog 193 [ov aR E,.v (.func (.func 194) #[] #[])]=some (uo 118 34 aR E):=by
 have lK:∀y∈ol E,Flat y.jQ:=fun y m=>(hA y m).fl
 have kg:∀k:Nat,k<(ol E).length->∀(st:St) (d:Option Nat),aN (aC Tryz.prog) 194 [.agg (cF (gx iW (ol E) (k:Int)))] st d=some { dst:=d,val:=.agg (cF (gx iW (ol E) (k:Int)))}:=by
  intro k hk st d;have hm:gx iW (ol E) (k:Int)∈ol E:=by
   have:gx iW (ol E) (k:Int)=(ol E)[k]:=by simp[gx,hk]
   rw[this];exact List.getElem_mem hk
  obtain⟨V,hV,hV2⟩:=hE _ hm
  obtain⟨V',hV',Hz⟩:=hA _ hm
  have hfa:Flat (.agg (cF (gx iW (ol E) (k:Int)))):=(kK _).2 (hA _ hm).fl
  have e0:((ol (some V)).length:Int)<1000000:=by
   have h0:ov bD (some V)=ov bD V':=by rw[<- hV,<- hV']
   cases V' with
   | none=>cases h0
   | some W =>
     simp only[ov,AV.sl.injEq] at h0;simp only[ol,Option.getD_some] at Hz ⊢
     omega
  exact kx (aUw _ (some V) hV (by simpa using hV2) e0) (cT hfa) hfa st d
 have hu:([ov aR E,.v (.func (.func 194) #[] #[])]:List AV).any oC=false:=by cases E<;>rfl
 rw[cL Tryz.func193 rfl aOX hu];simp only[Z8,seval];refine lP (fun m st=>∃k:Nat,(st.env 8=ov aR E/\st.env 9=.v (.int .i64 (ol E).length)/\st.env 10=.v (.int .i64 k)/\st.env 1=.v (.func (.func 194) #[] #[]))/\((k=0/\st.env 5=.v (.slice none 0 0))\/(0<k/\∃j,st.env 5=.own 19 j/\st.heap 19 j=some (.row 118 34 ((ol E).take k).length (aR ((ol E).take k)))))/\k<=(ol E).length/\m=(ol E).length-k)
  (fun e st=>e=.exit 0/\((ol E=[]/\st.env 5=.v (.slice none 0 0))\/(ol E≠[]/\∃j,st.env 5=.own 19 j/\st.heap 19 j=some (.row 118 34 (ol E).length (aR (ol E)))))) (ol E).length ?step ?start ?rest
 case step =>
  rintro m st ⟨k,hI,hR,hk,hm⟩
  by_cases aZ:(k:Int)<(ol E).length
  ·have q0:(0:Int)<=k:=by omega
   have hw:IntKind.i64.wrap ((k:Int)+1)=((k+1:Nat):Int):=by rw[pM _ (by omega) (by omega)];omega
   have ht:=E7 iW (ol E) k (by omega)
   have kk:=kg k (by omega)
   rcases hR with ⟨xE,h5⟩|⟨xE,j,h5,h6⟩
   ·have ht':[gx iW (ol E) (k:Int)]=(ol E).take (k+1):=by rw[<- ht,show (ol E).take k=[] by rw[xE,List.take_zero],List.nil_append]
    apply oN ((ol E).length-(k+1))
    ·simp only[Z8,seval,hI,h5,aZ,q0,kk,Au 15 _ _ 194,IQ,hw];rfl
    ·exact⟨k+1,⟨by simp only[E8,seval,hI],by simp only[E8,seval,hI],by simp only[E8,seval],by simp only[E8,seval,hI]⟩,.inr ⟨by omega,_,by simp only[E8,seval]<;>rfl,by rw[<- ht'];simp only[E8,seval]<;>rfl⟩,by omega,rfl⟩
   ·have ao:=fun s g=>Ti ((ol E).take k) (gx iW (ol E) (k:Int)) s g (by rw[List.length_take];omega)
    apply oN ((ol E).length-(k+1))
    ·simp only[Z8,seval,hI,h5,h6,aZ,q0,kk,Au 15 _ _ 194,ao,hw];rfl
    ·exact⟨k+1,⟨by simp only[E8,seval,hI],by simp only[E8,seval,hI],by simp only[E8,seval],by simp only[E8,seval,hI]⟩,.inr ⟨by omega,_,by simp only[E8,seval]<;>rfl,by rw[<- ht];simp only[E8,seval]<;>rfl⟩,by omega,rfl⟩
  ·have Hy:k=(ol E).length:=by omega
   have hF:(ol E=[]/\st.env 5=.v (.slice none 0 0))\/(ol E≠[]/\∃j,st.env 5=.own 19 j/\st.heap 19 j=some (.row 118 34 (ol E).length (aR (ol E)))):=by
    rcases hR with ⟨xE,h5⟩|⟨xE,j,h5,h6⟩
    ·exact .inl ⟨List.eq_nil_of_length_eq_zero (by omega),h5⟩
    ·exact .inr ⟨by intro h0;rw[h0] at Hy;simp at Hy;omega,j,h5,by rw[h6,Hy,List.take_length]⟩
   apply oT (.exit 0)
   ·simp only[Z8,seval,hI,aZ];rfl
   ·exact⟨rfl,by simp only[E8,seval];exact hF⟩
 case start=>exact⟨0,by simp only[E8,seval]<;>exact⟨rfl,rfl,rfl,rfl⟩,.inl ⟨rfl,by simp only[E8,seval]<;>rfl⟩,by omega,by omega⟩
 case rest =>
  rintro e st ⟨rfl,hR⟩
  rcases hR with ⟨h0,h5⟩|⟨h0,j,h5,h6⟩
  ·simp only[Z8,seval,h5];cases E with
   | none=>exact bT rfl (by simp only[E8,seval]<;>rfl) (.v _)
   | some l=>exact absurd (show (some l:Option (List Table))=some [] by rw[show l=[] from h0]) h
  ·simp only[Z8,seval,h5];cases E with
   | none=>exact absurd rfl h0
   | some l=>exact tH rfl (by simp only[E8,seval];rfl) (by simp only[E8,seval];exact h6) (lR _ lK)
theorem aUD (E:Option (List Table)) (h:E≠some []) (hn:((ol E).length:Int)<1000000) (hE:∀a∈ol E,∃V,a.jQ=ov bD (some V)/\V≠[]) (hA:∀a∈ol E,sS a) (st:St) (d:Nat) :
 aN (aC Tryz.prog) 193 [ov aR E,.v (.func (.func 194) #[] #[])] st (some d)=some { dst:=some d,val:=rv d (st.aK d) E,new:=OT d (rl 118 34 aR E)} :=
 Ci (fun x m=>by
  rcases List.mem_cons.1 m with rfl|m
  ·exact lQ E fun y m=>(hA y m).fl
  ·rw[List.mem_singleton.1 m];exact .v _) (aUC E h hn hE hA)
theorem BE (f:Nat->AV->AV × List jC) (c:Nat) (xs ys:List AV):qA f c (xs++ys)=((qA f c xs).1++(qA f (c+(qA f c xs).2.length) ys).1,(qA f c xs).2++(qA f (c+(qA f c xs).2.length) ys).2):=by
 induction xs generalizing c with
 | nil=>simp[qA]
 | cons x xs ih=>simp only[List.cons_append,qA,ih,List.length_append,Nat.add_assoc,List.append_assoc]
theorem Kz (d c:Nat) {x:AV} (h:Flat x):yR d c x=(x,[]):=by cases h<;>rfl
theorem sB (d c:Nat) {xs:List AV} (h:∀x∈xs,Flat x):qA (yR d) c xs=(xs,[]):=by
 induction xs generalizing c with
 | nil=>rfl
 | cons x xs ih=>simp only[qA,Kz d c (h x (by simp)),List.length_nil,Nat.add_zero,ih c fun y m=>h y (by simp[m]),List.nil_append]
theorem Yr {α:Type} (d c e sz:Nat) (cs:List α->List AV) (L:Option (List α)):qA (yR d) c [uo e sz cs L]=([rv d c L],rl e sz cs L):=by cases L<;>rfl
theorem KX {call:Nat->List AV->Option AV} {g d:Nat} {args cs:List AV} {st:St} (hf:∀x∈args,Flat x) (h:call g args=some (.agg cs)) (hn:Flat (.agg cs)\/(qA (yR d) (st.aK d) cs).2≠[]) :
 aN call g args st (some d)=some { dst:=some d,val:=.agg (qA (yR d) (st.aK d) cs).1,new:=OT d (qA (yR d) (st.aK d) cs).2 }:=by
 unfold aN;rw[if_pos hf,h,cI];unfold iG;by_cases hF:Flat (.agg cs)
 ·have hc:∀x∈cs,Flat x:=by cases hF with|agg _ h=>exact h
  rw[if_pos hF,sB d _ hc];rfl
 ·rw[if_neg hF];have h2:=hn.resolve_left hF
  simp only[OT,if_neg h2];rfl
noncomputable def Xe (st:St) (cs:List AV):Option (List AV):=bK (cs.map (jU st))
theorem BF (st:St) (a b:List AV):Xe st (a++b)=cA (Xe st a) fun x=>cA (Xe st b) fun y=>some (x++y):=by
 unfold Xe;induction a with
 | nil=>simp[bK,cA];cases bK (b.map (jU st))<;>rfl
 | cons c a ih =>
   simp only[List.cons_append,List.map_cons];cases jU st c with
   | none=>rfl
   | some c' =>
     simp only[bK,ih];cases bK (a.map (jU st))<;>simp[cA]<;>cases bK (b.map (jU st))<;>rfl
theorem tX {st:St} {cs:List AV} (h:∀c∈cs,Flat c):Xe st cs=some cs:=by
 unfold Xe;induction cs with
 | nil=>rfl
 | cons c cs ih =>
   have h1:jU st c=some c:=if_pos (h c (by simp))
   simp only[List.map_cons,h1,bK,ih fun x hx=>h x (by simp[hx]),Option.map_some]
theorem rL {st:St} {x y:AV} (h:jU st x=some y):Xe st [x]=some [y]:=by simp only[Xe,List.map_cons,List.map_nil,h,bK,Option.map_some]
theorem Tw {st:St} {cs ys:List AV} (h:Xe st cs=some ys):yI st (.agg cs)=some (.agg ys):=by
 show (bK (cs.map (jU st))).map AV.agg=_
 rw[show bK (cs.map (jU st))=some ys from h];rfl
theorem RK {x:AV} (h:Flat x):gD x=[]:=by cases h<;>rfl
theorem nI {cs:List AV} (h:∀c∈cs,Flat c):cs.flatMap gD=[]:=by
 induction cs with
 | nil=>rfl
 | cons c cs ih=>rw[List.flatMap_cons,RK (h c (by simp)),ih fun x hx=>h x (by simp[hx]),List.nil_append]
theorem IS {α:Type} (d k:Nat) (L:Option (List α)):gD (rv d k L)=if L.isSome then [(d,k)] else []:=by cases L<;>rfl
theorem YO (st:St) (g:Nat):st.ev (.func g)=.v (.func (.func g) #[] #[]):=rfl
theorem aUE (T:Option (List Table)) (h:T≠some []) (hn:((ol T).length:Int)<1000000) (hE:∀a∈ol T,∃V,a.jQ=ov bD (some V)/\V≠[]) (hA:∀a∈ol T,sS a):aC Tryz.prog 166 [ov aR T]=some (uo 118 34 aR T):=by
 have lK:∀y∈ol T,Flat y.jQ:=fun y m=>(hA y m).fl
 rw[cL Tryz.func166 rfl aOY (by cases T<;>rfl)]
 simp only[Z8,seval,YO,aUD T h hn hE hA,NW];cases T with
 | none=>exact bT rfl (by simp only[E8,seval]<;>rfl) (.v _)
 | some l=>exact tH rfl (by simp only[E8,seval]<;>rfl) (by simp only[E8,seval,zM,rl,List.length_cons,Nat.lt_add_left_iff_pos,Nat.zero_lt_succ,if_true]<;>rfl) (lR _ lK)
theorem aUF (T:Option (List Table)) (h:T≠some []) (hn:((ol T).length:Int)<1000000) (hE:∀a∈ol T,∃V,a.jQ=ov bD (some V)/\V≠[]) (hA:∀a∈ol T,sS a) (st:St) (d:Nat) :
 aN (aC Tryz.prog) 166 [ov aR T] st (some d)=some { dst:=some d,val:=rv d (st.aK d) T,new:=OT d (rl 118 34 aR T)}:=Ci (cT (lQ T fun y m=>(hA y m).fl)) (aUE T h hn hE hA)
theorem aUG (L:Option (List kO)) (Q:Option (List Int)) (h1:L≠some []) (h2:Q≠some []) (n1:((ol L).length:Int)<1000000) (n2:((ol Q).length:Int)<1000000) :
 aC Tryz.prog 161 [.agg (eP ⟨ov cP L,ov aI Q⟩)]=some (.agg (eP ⟨uo 100 34 cP L,uo 3 1 aI Q⟩)):=by
 rw[cL Tryz.func161 rfl aOZ rfl];simp only[Z8,seval,aUp L h1 n1,aOO Q h2 n2,NW];refine Qc rfl (.inl rfl) rfl (x:=.agg (eP ⟨rv 5 0 L,rv 8 0 Q⟩)) (by simp only[bX,Z8,seval,NW]) ?_ (Tw ?_)
 ·simp only[jJ,iV,eP,List.flatMap_append,List.flatMap_cons,List.flatMap_nil,List.append_nil,IS];cases L<;>cases Q<;>simp
 ·unfold eP;rw[BF,rL (iT (e:=100) (sz:=34) (c:=cP) ?_ fun l _=>nG l),cI,rL (iT (e:=3) (sz:=1) (c:=aI) ?_ fun l _=>fS l),cI]
  ·intro l hl;subst hl;simp only[E8,seval,zM,rl,List.length_cons,Nat.lt_add_left_iff_pos,Nat.zero_lt_succ,if_true]<;>rfl
  ·intro l hl;subst hl;simp only[E8,seval,zM,rl,List.length_cons,Nat.lt_add_left_iff_pos,Nat.zero_lt_succ,if_true]<;>rfl
theorem BG (d c:Nat) (L:Option (List kO)) (Q:Option (List Int)):qA (yR d) c (eP ⟨uo 100 34 cP L,uo 3 1 aI Q⟩)=(eP ⟨rv d c L,rv d (c+(rl 100 34 cP L).length) Q⟩,rl 100 34 cP L++rl 3 1 aI Q):=by
 unfold eP;rw[BE,Yr,Yr]
theorem aUH (L:Option (List kO)) (Q:Option (List Int)) (h1:L≠some []) (h2:Q≠some []) (n1:((ol L).length:Int)<1000000) (n2:((ol Q).length:Int)<1000000) (st:St) (d:Nat) :
 aN (aC Tryz.prog) 161 [.agg (eP ⟨ov cP L,ov aI Q⟩)] st (some d)=some { dst:=some d,val:=.agg (eP ⟨rv d (st.aK d) L,rv d (st.aK d+(rl 100 34 cP L).length) Q⟩),new:=OT d (rl 100 34 cP L++rl 3 1 aI Q)}:=by
 rw[KX (cT (.agg _ (qT _ (rA L) (bR Q)))) (aUG L Q h1 h2 n1 n2) ?_,BG];rw[BG];cases L with
 | some l=>exact .inr (by simp[rl])
 | none =>
   cases Q with
   | some q=>exact .inr (by simp[rl])
   | none=>exact .inl (.agg _ (qT _ (.v _) (.v _)))
def WI (s:aO) (b l q e o n t:AV):aO:={ s with cFg:={ s.cFg with jQ:=b },gE:=⟨l,q⟩,dR:=⟨e,o⟩,tree:=⟨n⟩,tables:=t }
theorem BH {st:St} (s:aO) {b l q e o n t b' l' q' e' o' n' t':AV} (h1:jU st b=some b') (h2:jU st l=some l') (h3:jU st q=some q') (h4:jU st e=some e') (h5:jU st o=some o') (h6:jU st n=some n') (h7:jU st t=some t') :
 Xe st (aB (WI s b l q e o n t))=some (aB (WI s b' l' q' e' o' n' t')):=by
 simp only[WI,aB,bU,eP,jL,mI,BF,rL h1,rL h2,rL h3,rL h4,rL h5,rL h6,rL h7,tX (uQ _),tX (dZ _),tX (iN _),tX (dH _),tX (lC _),cI]
theorem Mt (s:aO) (b l q e o n t:AV):(aB (WI s b l q e o n t)).flatMap gD=gD b++(gD l++(gD q++(gD e++(gD o++(gD n++gD t))))):=by
 simp only[WI,aB,bU,eP,jL,mI,List.flatMap_append,List.flatMap_cons,List.flatMap_nil,List.append_nil,nI (uQ _),nI (dZ _),nI (iN _),nI (dH _),nI (lC _),List.nil_append,List.append_assoc]
theorem wX {α:Type} (e sz:Nat) (c:List α->List AV) (l:List α):rl e sz c (some l)=[.row e sz l.length (c l)]:=rfl
theorem aUI {s:aO} {v:SV} (hs:SD s v) (gI:NEv v) (hB:v.B≠some []) (hL:v.L≠some []) (ht:0<v.ns.length) :
 aC Tryz.prog 109 [.agg (aB s)]=some (.agg (aB (WI s (uo 23 1 bD v.B) (uo 100 34 cP v.L) (uo 3 1 aI v.Q) (uo 87 67 dE v.E) (uo 74 238 aH v.O) (.uniq 76 240 v.ns.length (cD v.ns)) (uo 118 34 aR v.T)))):=by
 have hv:s.gE=⟨ov cP v.L,ov aI v.Q⟩:=by
  have h1:=hs.dO
  have h2:=hs.gW
  cases hc:s.gE with
  | mk a b=>rw[hc] at h1 h2;simp only at h1 h2;rw[h1,h2]
 rw[cL Tryz.func109 rfl aO0 rfl];simp only[Z8,seval,hs.jQ,hv,hs.early,hs.bV,hs.tree,hs.tables,YO,NW,aON v.B hB hs.nB,aUH v.L v.Q hL gI.q hs.nL hs.nQ,aUB v.E gI.e hs.nE gI.ea hs.eV,aUr v.O gI.o hs.nO,aR0 v.ns ht hs.nn,aUF v.T gI.t hs.nT gI.tb hs.tB];refine Qc rfl (.inl rfl) rfl (x:=.agg (aB (WI s (rv 6 0 v.B) (rv 11 0 v.L) (rv 11 (rl 100 34 cP v.L).length v.Q) (rv 16 0 v.E) (rv 22 0 v.O) (.own 27 0) (rv 31 0 v.T)))) ?x1 ?x2 (Tw (BH s ?b1 ?l1 ?q1 ?e1 ?o1 ?n1 ?t1))
 case x1=>simp only[bX,Z8,seval,NW,WI]
 case x2 =>
  show ((aB _).flatMap gD).Nodup
  rw[Mt];simp only[IS,show ∀a b,gD (.own a b)=[(a,b)] from fun _ _=>rfl]
  cases v.B<;>cases hvl:v.L<;>cases v.Q<;>cases v.E<;>cases v.O<;>cases v.T<;>simp[rl]
 case b1=>exact iT (fun l hl=>by simp only[E8,seval,NW,hl,wX,List.length_cons,List.length_nil,Nat.lt_add_left_iff_pos,Nat.zero_lt_succ,if_true]<;>rfl) fun l _=>iC l
 case l1 =>
  refine iT (fun l hl=>?_) fun l _=>nG l
  simp only[E8,seval,NW,hl,wX];simp
 case q1 =>
  refine iT (fun l hl=>?_) fun l _=>fS l
  simp only[E8,seval,NW,hl,wX];simp
 case e1=>exact iT (fun l hl=>by simp only[E8,seval,NW,hl,wX,List.length_cons,List.length_nil,Nat.lt_add_left_iff_pos,Nat.zero_lt_succ,if_true]<;>rfl) fun l hl=>tL l fun y m=>(hs.eV y (by rw[hl];exact m)).fl
 case o1=>exact iT (fun l hl=>by simp only[E8,seval,NW,hl,wX,List.length_cons,List.length_nil,Nat.lt_add_left_iff_pos,Nat.zero_lt_succ,if_true]<;>rfl) fun l _=>pF l
 case n1=>exact iT (L:=some v.ns) (fun l hl=>by cases hl;simp only[E8,seval,NW,wX,List.length_cons,List.length_nil,Nat.lt_add_left_iff_pos,Nat.zero_lt_succ,if_true]<;>rfl) fun l _=>kE l
 case t1=>exact iT (fun l hl=>by simp only[E8,seval,NW,hl,wX,List.length_cons,List.length_nil,Nat.lt_add_left_iff_pos,Nat.zero_lt_succ,if_true]<;>rfl) fun l hl=>lR l fun y m=>(hs.tB y (by rw[hl];exact m)).fl
theorem aA1 (d c e sz n:Nat) (cs:List AV):qA (yR d) c [.uniq e sz n cs]=([.own d c],[.row e sz n cs]):=rfl
def Gl (v:SV):List jC:=rl 23 1 bD v.B++(rl 100 34 cP v.L++(rl 3 1 aI v.Q++(rl 87 67 dE v.E++(rl 74 238 aH v.O++([.row 76 240 v.ns.length (cD v.ns)]++rl 118 34 aR v.T)))))
def nB (v:SV):Nat:=(rl 23 1 bD v.B).length
def nL (v:SV):Nat:=nB v+(rl 100 34 cP v.L).length
def nQ (v:SV):Nat:=nL v+(rl 3 1 aI v.Q).length
def nE (v:SV):Nat:=nQ v+(rl 87 67 dE v.E).length
def nO (v:SV):Nat:=nE v+(rl 74 238 aH v.O).length
def WJ (s:aO) (v:SV) (d c:Nat):aO:=WI s (rv d c v.B) (rv d (c+nB v) v.L) (rv d (c+nL v) v.Q) (rv d (c+nQ v) v.E) (rv d (c+nE v) v.O) (.own d (c+nO v)) (rv d (c+nO v+1) v.T)
theorem Og (s:aO) (v:SV) (d c:Nat):qA (yR d) c (aB (WI s (uo 23 1 bD v.B) (uo 100 34 cP v.L) (uo 3 1 aI v.Q) (uo 87 67 dE v.E) (uo 74 238 aH v.O) (.uniq 76 240 v.ns.length (cD v.ns)) (uo 118 34 aR v.T)))=(aB (WJ s v d c),Gl v):=by
 simp only[WI,WJ,aB,bU,eP,jL,mI,BE,Yr,aA1,sB d _ (uQ _),sB d _ (dZ _),sB d _ (iN _),sB d _ (dH _),sB d _ (lC _),List.nil_append,List.length_nil,Nat.add_zero,List.append_assoc,List.length_append,List.length_cons,Gl,nO,nE,nQ,nL,nB,Nat.add_assoc,List.append_nil]
theorem aUJ {s:aO} {v:SV} (hs:SD s v) (gI:NEv v) (hB:v.B≠some []) (hL:v.L≠some []) (ht:0<v.ns.length) (st:St) (d:Nat) :
 aN (aC Tryz.prog) 109 [.agg (aB s)] st (some d)=some { dst:=some d,val:=.agg (aB (WJ s v d (st.aK d))),new:=some (d,Gl v)}:=by
 have h0:Gl v≠[]:=by simp[Gl]
 rw[KX (cT hs.flat) (aUI hs gI hB hL ht) (by rw[Og];exact .inr h0),Og]
 simp only[OT,if_neg h0]
theorem aA2 (x:Option Nat) (y:AV) (d:Nat) (v:SV) (st:St):({ dst:=x,val:=y,new:=some (d,Gl v)}:mA).apply st=(st.news d (Gl v)).put x y:=rfl
theorem aEv {α:Type} (d k:Nat) (l:List α):rv d k (some l)=.own d k:=rfl
theorem lU {α:Type} (a b:List α) (n i:Nat) (h:n=a.length+i):(a++b)[n]? = b[i]?:=by
 rw[h,List.getElem?_append_right (by omega)]
 congr 1
 omega
theorem aO1 (v:SV) (l:List Int) (h:v.B=some l):(Gl v)[0]? = some (.row 23 1 l.length (bD l)):=by simp[Gl,h,rl]
theorem aO2 (v:SV) (l:List kO) (h:v.L=some l):(Gl v)[nB v]? = some (.row 100 34 l.length (cP l)):=by
 unfold Gl;rw[lU _ _ _ 0 (by simp[nB]),h];rfl
theorem aO3 (v:SV) (l:List Int) (h:v.Q=some l):(Gl v)[nL v]? = some (.row 3 1 l.length (aI l)):=by
 unfold Gl;rw[lU _ _ _ _ (show nL v=_+_ from rfl),lU _ _ _ 0 (by simp),h];rfl
theorem aO4 (v:SV) (l:List sP) (h:v.E=some l):(Gl v)[nQ v]? = some (.row 87 67 l.length (dE l)):=by
 unfold Gl;rw[lU _ _ _ ((rl 100 34 cP v.L).length+(rl 3 1 aI v.Q).length) (by simp[nQ,nL,nB,Nat.add_assoc]),lU _ _ _ _ rfl,lU _ _ _ 0 (by simp),h];rfl
theorem aO5 (v:SV) (l:List Block) (h:v.O=some l):(Gl v)[nE v]? = some (.row 74 238 l.length (aH l)):=by
 unfold Gl;rw[lU _ _ _ ((rl 100 34 cP v.L).length+((rl 3 1 aI v.Q).length+(rl 87 67 dE v.E).length)) (by simp[nE,nQ,nL,nB,Nat.add_assoc]),lU _ _ _ _ rfl,lU _ _ _ _ rfl,lU _ _ _ 0 (by simp),h];rfl
theorem aO6 (v:SV):(Gl v)[nO v]? = some (.row 76 240 v.ns.length (cD v.ns)):=by
 unfold Gl;rw[lU _ _ _ ((rl 100 34 cP v.L).length+((rl 3 1 aI v.Q).length+((rl 87 67 dE v.E).length+(rl 74 238 aH v.O).length))) (by simp[nO,nE,nQ,nL,nB,Nat.add_assoc]),lU _ _ _ _ rfl,lU _ _ _ _ rfl,lU _ _ _ _ rfl,lU _ _ _ 0 (by simp)];rfl
theorem aO7 (v:SV) (l:List Table) (h:v.T=some l):(Gl v)[nO v+1]? = some (.row 118 34 l.length (aR l)):=by
 unfold Gl;rw[lU _ _ _ ((rl 100 34 cP v.L).length+((rl 3 1 aI v.Q).length+((rl 87 67 dE v.E).length+((rl 74 238 aH v.O).length+1)))) (by simp[nO,nE,nQ,nL,nB,Nat.add_assoc]),lU _ _ _ _ rfl,lU _ _ _ _ rfl,lU _ _ _ _ rfl,lU _ _ _ _ rfl,lU _ _ _ 0 (by simp),h];rfl
theorem E9 (x:Int):(x != x)=false:=by simp
theorem beI (x:Int):(x == x)=true:=by simp
theorem aUK (o:Option (List Int)) (hn:((ol o).length:Int)<1000000):aC Tryz.prog 103 [ov bD o,ov bD o]=some (.v (.bool true)):=by
 rw[cL Tryz.func103 rfl aGU (by cases o<;>rfl)]
 refine iX ?_
 simp only[Z8,seval,E9];refine cB (fun m st=>∃k:Nat,(st.env 0=ov bD o/\st.env 1=ov bD o/\st.env 5=.v (.int .i64 k))/\k<=(ol o).length/\m=(ol o).length-k)
  (fun e st=>e=.exit 0) (ol o).length ?step ?start ?rest
 case step =>
  rintro m st ⟨k,hI,hk,hm⟩
  by_cases aZ:(k:Int)<(ol o).length
  ·have q0:(0:Int)<=k:=by omega
   have hw:IntKind.i64.wrap ((k:Int)+1)=((k+1:Nat):Int):=by rw[pM _ (by omega) (by omega)];omega
   apply oN ((ol o).length-(k+1))
   ·simp only[Z8,seval,hI,aZ,q0,E9,hw];rfl
   ·exact⟨k+1,by simp only[E8,seval,hI],by omega,rfl⟩
  ·apply oT (.exit 0)
   ·simp only[Z8,seval,hI,aZ];rfl
   ·exact rfl
 case start=>exact⟨0,by simp only[E8,seval]<;>exact⟨rfl,rfl,rfl⟩,by omega,by omega⟩
 case rest =>
  rintro e st rfl
  simp only[Z8,seval];exact⟨_,bT rfl (by simp only[E8,seval]<;>rfl) (by first|exact .v _|simp only[dN]),rfl⟩
theorem aEg (o:Option (List Int)) (hn:((ol o).length:Int)<1000000) (st:St) (d:Option Nat):aN (aC Tryz.prog) 103 [ov bD o,ov bD o] st d=some { dst:=d,val:=.v (.bool true)}:=bL (bH (dP o) (dP o)) (aUK o hn) (.v _)
theorem aUL (o:Option (List kO)) (hn:((ol o).length:Int)<1000000):aC Tryz.prog 104 [ov cP o,ov cP o]=some (.v (.bool true)):=by
 rw[cL Tryz.func104 rfl aO8 (by cases o<;>rfl)]
 refine iX ?_
 simp only[Z8,seval,E9];refine cB (fun m st=>∃k:Nat,(st.env 0=ov cP o/\st.env 1=ov cP o/\st.env 5=.v (.int .i64 k))/\k<=(ol o).length/\m=(ol o).length-k)
  (fun e st=>e=.exit 0) (ol o).length ?step ?start ?rest
 case step =>
  rintro m st ⟨k,hI,hk,hm⟩
  by_cases aZ:(k:Int)<(ol o).length
  ·have q0:(0:Int)<=k:=by omega
   have hw:IntKind.i64.wrap ((k:Int)+1)=((k+1:Nat):Int):=by rw[pM _ (by omega) (by omega)];omega
   apply oN ((ol o).length-(k+1))
   ·simp only[Z8,seval,hI,aZ,q0,E9,hw];rfl
   ·exact⟨k+1,by simp only[E8,seval,hI],by omega,rfl⟩
  ·apply oT (.exit 0)
   ·simp only[Z8,seval,hI,aZ];rfl
   ·exact rfl
 case start=>exact⟨0,by simp only[E8,seval]<;>exact⟨rfl,rfl,rfl⟩,by omega,by omega⟩
 case rest =>
  rintro e st rfl
  simp only[Z8,seval];exact⟨_,bT rfl (by simp only[E8,seval]<;>rfl) (by first|exact .v _|simp only[dN]),rfl⟩
theorem aUM (o:Option (List kO)) (hn:((ol o).length:Int)<1000000) (st:St) (d:Option Nat):aN (aC Tryz.prog) 104 [ov cP o,ov cP o] st d=some { dst:=d,val:=.v (.bool true)}:=bL (bH (rA o) (rA o)) (aUL o hn) (.v _)
theorem aO9 (o:Option (List Int)) (hn:((ol o).length:Int)<1000000):aC Tryz.prog 105 [ov aI o,ov aI o]=some (.v (.bool true)):=by
 rw[cL Tryz.func105 rfl aGT (by cases o<;>rfl)]
 refine iX ?_
 simp only[Z8,seval,E9];refine cB (fun m st=>∃k:Nat,(st.env 0=ov aI o/\st.env 1=ov aI o/\st.env 5=.v (.int .i64 k))/\k<=(ol o).length/\m=(ol o).length-k)
  (fun e st=>e=.exit 0) (ol o).length ?step ?start ?rest
 case step =>
  rintro m st ⟨k,hI,hk,hm⟩
  by_cases aZ:(k:Int)<(ol o).length
  ·have q0:(0:Int)<=k:=by omega
   have hw:IntKind.i64.wrap ((k:Int)+1)=((k+1:Nat):Int):=by rw[pM _ (by omega) (by omega)];omega
   apply oN ((ol o).length-(k+1))
   ·simp only[Z8,seval,hI,aZ,q0,E9,hw];rfl
   ·exact⟨k+1,by simp only[E8,seval,hI],by omega,rfl⟩
  ·apply oT (.exit 0)
   ·simp only[Z8,seval,hI,aZ];rfl
   ·exact rfl
 case start=>exact⟨0,by simp only[E8,seval]<;>exact⟨rfl,rfl,rfl⟩,by omega,by omega⟩
 case rest =>
  rintro e st rfl
  simp only[Z8,seval];exact⟨_,bT rfl (by simp only[E8,seval]<;>rfl) (by first|exact .v _|simp only[dN]),rfl⟩
theorem aHg (o:Option (List Int)) (hn:((ol o).length:Int)<1000000) (st:St) (d:Option Nat):aN (aC Tryz.prog) 105 [ov aI o,ov aI o] st d=some { dst:=d,val:=.v (.bool true)}:=bL (bH (bR o) (bR o)) (aO9 o hn) (.v _)
theorem aUN (a:sP) (V:Option (List Int)) (ha:a.eU=ov aI V) (hn:((ol V).length:Int)<1000000):aC Tryz.prog 108 [.agg (gZ a),.agg (gZ a)]=some (.v (.bool true)):=by
 rw[cL Tryz.func108 rfl aGV rfl];refine iX ?_
 simp only[Z8,seval,ha,beI,aHg V hn];exact⟨_,bT rfl (by simp only[E8,seval]<;>rfl) (by first|exact .v _|simp only[dN]),rfl⟩
theorem aUO (a:sP) (h:Dt a) (st:St) (d:Option Nat):aN (aC Tryz.prog) 108 [.agg (gZ a),.agg (gZ a)] st d=some { dst:=d,val:=.v (.bool true)}:=by
 obtain⟨V,ha,hl⟩:=h
 have hf:Flat (.agg (gZ a)):=(Ah a).2 (by rw[ha];exact bR V)
 exact bL (bH hf hf) (aUN a V ha hl) (.v _)
theorem aUP (a:Table) (V:Option (List Int)) (ha:a.jQ=ov bD V) (hn:((ol V).length:Int)<1000000):aC Tryz.prog 159 [.agg (cF a),.agg (cF a)]=some (.v (.bool true)):=by
 rw[cL Tryz.func159 rfl aGW rfl];refine iX ?_
 simp only[Z8,seval,ha,beI,aEg V hn];exact⟨_,bT rfl (by simp only[E8,seval]<;>rfl) (by first|exact .v _|simp only[dN]),rfl⟩
theorem aUQ (a:Table) (h:sS a) (st:St) (d:Option Nat):aN (aC Tryz.prog) 159 [.agg (cF a),.agg (cF a)] st d=some { dst:=d,val:=.v (.bool true)}:=by
 obtain⟨V,ha,hl⟩:=h
 have hf:Flat (.agg (cF a)):=(kK a).2 (by rw[ha];exact dP V)
 exact bL (bH hf hf) (aUP a V ha hl) (.v _)
theorem aUR (o:Option (List Table)) (hn:((ol o).length:Int)<1000000) (hA:∀a∈ol o,sS a):aC Tryz.prog 107 [ov aR o,ov aR o]=some (.v (.bool true)):=by
 rw[cL Tryz.func107 rfl aPa (by cases o<;>rfl)]
 refine iX ?_
 simp only[Z8,seval,E9,beI];refine cB (fun m st=>∃k:Nat,(st.env 0=ov aR o/\st.env 1=ov aR o/\st.env 5=.v (.int .i64 k))/\k<=(ol o).length/\m=(ol o).length-k)
  (fun e st=>e=.exit 0) ((ol o).length) ?step ?start ?rest
 case step =>
  rintro m st ⟨k,hI,hk,hm⟩
  by_cases aZ:(k:Int)<((ol o).length:Nat)
  ·have q0:(0:Int)<=k:=by omega
   have hw:IntKind.i64.wrap ((k:Int)+1)=((k+1:Nat):Int):=by rw[pM _ (by omega) (by omega)];omega
   have kk:=aUQ _ (hA _ (uM (z:=iW) q0 aZ))
   apply oN ((ol o).length-(k+1))
   ·simp only[Z8,seval,hI,aZ,q0,kk,E9,hw,beI];rfl
   ·exact⟨k+1,by simp only[E8,seval,hI],by omega,rfl⟩
  ·apply oT (.exit 0)
   ·simp only[Z8,seval,hI,aZ,beI];rfl
   ·exact rfl
 case start=>exact⟨0,by simp only[E8,seval]<;>exact⟨rfl,rfl,rfl⟩,by omega,by omega⟩
 case rest =>
  rintro e st rfl
  simp only[Z8,seval];exact⟨_,bT rfl (by simp only[E8,seval]<;>rfl) (by first|exact .v _|simp only[dN]),rfl⟩
theorem aUS (o:Option (List Table)) (hn:((ol o).length:Int)<1000000) (hA:∀a∈ol o,sS a) (st:St) (d:Option Nat):aN (aC Tryz.prog) 107 [ov aR o,ov aR o] st d=some { dst:=d,val:=.v (.bool true)} :=
 bL (bH (lQ o fun y m=>(hA y m).fl) (lQ o fun y m=>(hA y m).fl)) (aUR o hn hA) (.v _)
theorem YP (L:List Request) (k:Nat):(aA L).take (k * 35)=aA (L.take k):=yV (c:=bA) (sz:=35) fZ L k
theorem YQ (L:List Request) (k:Nat):(aA L).drop (k * 35)=aA (L.drop k):=yW (c:=bA) (sz:=35) fZ L k
theorem IT (a b:List Request):aA (a++b)=aA a++aA b:=by simp[aA]
def Mu (t:State) (S:aO) (q r:AV):State:={ t with store:=S,iM:=q,kU:=r }
def nS (v:SV):Nat:=(Gl v).length
def nR (v:SV) (Q:Option (List Request)):Nat:=nS v+(rl 63 35 aA Q).length
def Tx (v:SV) (Q R:Option (List Request)):List jC:=Gl v++(rl 63 35 aA Q++rl 63 35 aA R)
def cpT (t:State) (v:SV) (Q R:Option (List Request)) (d c:Nat):State:=Mu t (WJ t.store v d c) (rv d (c+nS v) Q) (rv d (c+nR v Q) R)
theorem rM {α:Type} (d k e sz:Nat) (c:List α->List AV) (L:Option (List α)):gD (rv d k L)=(List.range' k (rl e sz c L).length).map (Prod.mk d):=by cases L<;>rfl
theorem aEx (s:aO) (v:SV) (d c:Nat):(aB (WJ s v d c)).flatMap gD=(List.range' c (nS v)).map (Prod.mk d):=by
 have e:nS v=(rl 23 1 bD v.B).length+((rl 100 34 cP v.L).length+((rl 3 1 aI v.Q).length+((rl 87 67 dE v.E).length+((rl 74 238 aH v.O).length+(1+(rl 118 34 aR v.T).length))))):=by
  simp only[nS,Gl,List.length_append,List.length_cons,List.length_nil]
 unfold WJ;rw[Mt,rM d c 23 1 bD v.B,rM d (c+nB v) 100 34 cP v.L,rM d (c+nL v) 3 1 aI v.Q,rM d (c+nQ v) 87 67 dE v.E,rM d (c+nE v) 74 238 aH v.O,rM d (c+nO v+1) 118 34 aR v.T,e,
  show gD (.own d (c+nO v))=(List.range' (c+nO v) 1).map (Prod.mk d) from rfl]
 simp only[<- List.map_append];congr 1
 have a:=fun s m n=>(List.range'_append_1 (s:=s) (m:=m) (n:=n)).symm
 rw[a c,a (c+_),a (c+_+_),a (c+_+_+_),a (c+_+_+_+_),a (c+_+_+_+_+_)];simp only[nO,nE,nQ,nL,nB,Nat.add_assoc]
theorem aA3 (t:State) (v:SV) (Q R:Option (List Request)) (a b c:Nat):(aF (Mu t (WJ t.store v a 0) (rv b 0 Q) (rv c 0 R))).flatMap gD=(List.range' 0 (nS v)).map (Prod.mk a)++((List.range' 0 (rl 63 35 aA Q).length).map (Prod.mk b)++(List.range' 0 (rl 63 35 aA R).length).map (Prod.mk c)):=by
 simp only[Mu,aF,List.flatMap_append,List.flatMap_cons,List.flatMap_nil,List.append_nil,aEx,nI (dZ _),nI (mM _),nI (kY _),rM b 0 63 35 aA Q,rM c 0 63 35 aA R]
theorem BI (t:State) (v:SV) (Q R:Option (List Request)) (d c:Nat):qA (yR d) c (aF (Mu t (WI t.store (uo 23 1 bD v.B) (uo 100 34 cP v.L) (uo 3 1 aI v.Q) (uo 87 67 dE v.E) (uo 74 238 aH v.O) (.uniq 76 240 v.ns.length (cD v.ns)) (uo 118 34 aR v.T)) (uo 63 35 aA Q) (uo 63 35 aA R)))=(aF (cpT t v Q R d c),Tx v Q R):=by
 unfold cpT Mu aF;simp only[BE,Og,Yr,sB d _ (dZ _),sB d _ (mM _),sB d _ (kY _),List.length_nil,Nat.add_zero,List.append_nil,Tx,nR,nS,Nat.add_assoc]
theorem aPb (v:SV) (j:Nat):(if j<(Gl v).length then (Gl v)[j]? else none)=(Gl v)[j]?:=by
 split
 ·rfl
 ·rw[List.getElem?_eq_none (by omega)]
theorem aEy {st:St} {s:aO} {v:SV} (hs:SD s v) {d c:Nat} (hh:∀j,j<nS v->st.heap d (c+j)=(Gl v)[j]?):Xe st (aB (WJ s v d c))=some (aB (WI s (uo 23 1 bD v.B) (uo 100 34 cP v.L) (uo 3 1 aI v.Q) (uo 87 67 dE v.E) (uo 74 238 aH v.O) (.uniq 76 240 v.ns.length (cD v.ns)) (uo 118 34 aR v.T))):=by
 have ix:∀ {j:Nat} {e:jC},(Gl v)[j]? = some e->st.heap d (c+j)=some e:=fun h=>by rw[hh _ (List.getElem?_eq_some_iff.1 h).1,h]
 exact BH s (iT (fun l hl=>by have:=ix (aO1 v l hl);rwa [Nat.add_zero] at this) fun l _=>iC l) (iT (fun l hl=>ix (aO2 v l hl)) fun l _=>nG l) (iT (fun l hl=>ix (aO3 v l hl)) fun l _=>fS l)
  (iT (fun l hl=>ix (aO4 v l hl)) fun l hl=>tL l fun y m=>(hs.eV y (by rw[hl];exact m)).fl) (iT (fun l hl=>ix (aO5 v l hl)) fun l _=>pF l)
  (iT (L:=some v.ns) (fun l hl=>by cases hl;exact ix (aO6 v)) fun l _=>kE l) (iT (fun l hl=>by have:=ix (aO7 v l hl);rwa [<- Nat.add_assoc] at this) fun l hl=>lR l fun y m=>(hs.tB y (by rw[hl];exact m)).fl)
theorem aIJ {st:St} {s:aO} {v:SV} (hs:SD s v) {d c:Nat} (hh:∀j,j<nS v->st.heap d (c+j)=(Gl v)[j]?):Tb st (aB (WJ s v d c))=some (aB s):=by
 have ix:∀ {j:Nat} {e:jC},(Gl v)[j]? = some e->st.heap d (c+j)=some e:=fun h=>by rw[hh _ (List.getElem?_eq_some_iff.1 h).1,h]
 rw[gF];simp only[WJ,WI];rw[pV (e:=23) (sz:=1) (c:=bD) (fun l hl=>by have:=ix (aO1 v l hl);rwa [Nat.add_zero] at this) (fun l _=>iC l),cI,
  pV (e:=100) (sz:=34) (c:=cP) (fun l hl=>ix (aO2 v l hl)) (fun l _=>nG l),cI,
  pV (e:=3) (sz:=1) (c:=aI) (fun l hl=>ix (aO3 v l hl)) (fun l _=>fS l),cI,
  pV (e:=87) (sz:=67) (c:=dE) (fun l hl=>ix (aO4 v l hl)) (fun l hl=>tL l fun y m=>(hs.eV y (by rw[hl];exact m)).fl),cI,
  pV (e:=74) (sz:=238) (c:=aH) (fun l hl=>ix (aO5 v l hl)) (fun l _=>pF l),cI,
  <- aEv d (c+nO v) v.ns,pV (e:=76) (sz:=240) (c:=cD) (fun l hl=>by cases hl;exact ix (aO6 v)) (fun l _=>kE l),cI,
  pV (e:=118) (sz:=34) (c:=aR) (fun l hl=>by have:=ix (aO7 v l hl);rwa [<- Nat.add_assoc] at this) (fun l hl=>lR l fun y m=>(hs.tB y (by rw[hl];exact m)).fl),cI]
 have hn:ov cD (some v.ns)=s.tree.nodes:=by rw[hs.tree];rfl
 rw[hn,<- hs.jQ,<- hs.dO,<- hs.gW,<- hs.early,<- hs.bV,<- hs.tables]
theorem YR {st:St} {t:State} {v:SV} (hs:SD t.store v) {d c:Nat} {q r q' r':AV} (hh:∀j,j<nS v->st.heap d (c+j)=(Gl v)[j]?) (h1:cC st q=some q') (h2:cC st r=some r'):eW st (.agg (aF (Mu t (WJ t.store v d c) q r)))=some (.agg (aF (Mu t t.store q' r'))):=by
 rw[bQ];simp only[Mu,aF,uR,aIJ hs hh,wY,h1,h2,jF (dZ _),jF (mM _),jF (kY _),jG,cI]
theorem c80 {t:State} {v:SV} {Q R:Option (List Request)} (h:TD t v Q R) (gI:NEv v) (hB:v.B≠some []) (hL:v.L≠some []) (ht:0<v.ns.length) (hQ:Q≠some []) (hR:R≠some []) :
 aC Tryz.prog 80 [.agg (aF t)]=some (.agg (aF (Mu t (WI t.store (uo 23 1 bD v.B) (uo 100 34 cP v.L) (uo 3 1 aI v.Q) (uo 87 67 dE v.E) (uo 74 238 aH v.O) (.uniq 76 240 v.ns.length (cD v.ns)) (uo 118 34 aR v.T)) (uo 63 35 aA Q) (uo 63 35 aA R)))):=by
 have hs:=h.sd
 have nQ:((ol Q).length:Int)<1000000:=by have:=h.nQ;omega
 have nR:((ol R).length:Int)<1000000:=by have:=h.nR;omega
 rw[cL Tryz.func80 rfl aUT rfl];simp only[Z8,seval,aUJ hs gI hB hL ht,h.Cf,h.ret,aOQ Q hQ nQ,aOQ R hR nR,NW,aA2];have key:∀st:St,(∀j,j<nS v->st.heap 5 (0+j)=(Gl v)[j]?)->(∀l,Q=some l->st.heap 9 0=some (.row 63 35 l.length (aA l)))->(∀l,R=some l->st.heap 13 0=some (.row 63 35 l.length (aA l))) ->
  Xe st (aF (Mu t (WJ t.store v 5 0) (rv 9 0 Q) (rv 13 0 R)))=some (aF (Mu t (WI t.store (uo 23 1 bD v.B) (uo 100 34 cP v.L) (uo 3 1 aI v.Q) (uo 87 67 dE v.E) (uo 74 238 aH v.O) (.uniq 76 240 v.ns.length (cD v.ns)) (uo 118 34 aR v.T)) (uo 63 35 aA Q) (uo 63 35 aA R))):=fun st h1 h2 h3=>by
  simp only[Mu,aF,BF,aEy hs h1,rL (iT h2 fun l _=>fF l),rL (iT h3 fun l _=>fF l),tX (dZ _),tX (mM _),tX (kY _),cI]
 refine Qc rfl (.inl rfl) rfl (x:=.agg (aF (Mu t (WJ t.store v 5 0) (rv 9 0 Q) (rv 13 0 R)))) ?x1 ?x2 (Tw (key _ ?h1 ?h2 ?h3))
 case x1=>simp only[bX,Z8,seval,NW,Mu]
 case x2 =>
  show ((aF _).flatMap gD).Nodup
  rw[aA3];have nd:∀(d n:Nat),((List.range' 0 n).map (Prod.mk d)).Nodup:=fun d n=>List.Pairwise.map (Prod.mk d) (fun a b hab e=>hab (Prod.mk.inj e).2) (List.nodup_range' (step:=1))
  refine List.nodup_append.2 ⟨nd 5 _,List.nodup_append.2 ⟨nd 9 _,nd 13 _, ?_⟩, ?_⟩
  ·intro x hx y hy;obtain⟨_,_,rfl⟩:=List.mem_map.1 hx
   obtain⟨_,_,rfl⟩:=List.mem_map.1 hy
   simp
  ·intro x hx y hy;obtain⟨_,_,rfl⟩:=List.mem_map.1 hx
   rcases List.mem_append.1 hy with hy|hy
   ·obtain⟨_,_,rfl⟩:=List.mem_map.1 hy
    simp
   ·obtain⟨_,_,rfl⟩:=List.mem_map.1 hy
    simp
 case h1 =>
  intro j hj;rw[Nat.zero_add];simp only[E8,seval,NW,true_and,Nat.zero_le,Nat.sub_zero,aPb]
 case h2 =>
  intro l hl;simp only[E8,seval,NW,hl,wX,true_and,Nat.zero_le,Nat.sub_zero,List.length_cons,List.length_nil,Nat.zero_lt_succ,if_true]<;>rfl
 case h3 =>
  intro l hl;simp only[E8,seval,NW,hl,wX,true_and,Nat.zero_le,Nat.sub_zero,List.length_cons,List.length_nil,Nat.zero_lt_succ,if_true]<;>rfl
theorem aA4 (v:SV) (Q R:Option (List Request)):Tx v Q R≠[]:=by simp[Tx,Gl]
theorem k80 {t:State} {v:SV} {Q R:Option (List Request)} (h:TD t v Q R) (gI:NEv v) (hB:v.B≠some []) (hL:v.L≠some []) (ht:0<v.ns.length) (hQ:Q≠some []) (hR:R≠some []) (st:St) (d:Nat) :
 aN (aC Tryz.prog) 80 [.agg (aF t)] st (some d)=some { dst:=some d,val:=.agg (aF (cpT t v Q R d (st.aK d))),new:=some (d,Tx v Q R)}:=by
 rw[KX (cT h.flat) (c80 h gI hB hL ht hQ hR) (by rw[BI];exact .inr (aA4 v Q R)),BI]
 simp only[OT,if_neg (aA4 v Q R)]
theorem BJ (x:Option Nat) (y:AV) (d:Nat) (v:SV) (Q R:Option (List Request)) (st:St):({ dst:=x,val:=y,new:=some (d,Tx v Q R)}:mA).apply st=(st.news d (Tx v Q R)).put x y:=rfl
theorem aUU (v:SV) (Q R:Option (List Request)) (j:Nat) (h:j<nS v):(Tx v Q R)[j]? = (Gl v)[j]?:=by
 unfold Tx;rw[List.getElem?_append_left h]
theorem aPc (v:SV) (Q R:Option (List Request)) (l:List Request) (h:Q=some l):(Tx v Q R)[nS v]? = some (.row 63 35 l.length (aA l)):=by
 unfold Tx;rw[lU _ _ _ 0 (by rfl),h];rfl
theorem aUV (v:SV) (Q R:Option (List Request)) (l:List Request) (h:R=some l):(Tx v Q R)[nR v Q]? = some (.row 63 35 l.length (aA l)):=by
 unfold Tx;rw[lU _ _ _ _ (show nR v Q=_+_ from rfl),lU _ _ _ 0 (by rfl),h];rfl
end Go.Ab.Tryz
namespace Go.Ab.Tryz
open Classical Go.Proofs Go.Ab
end Go.Ab.Tryz
namespace Go.Ab.Tryz
open Classical Go.Proofs Go.Ab
theorem aPd:aE 4 77 (some 54)=[]:=rfl
theorem x42 {s:aO} {v:SV} (hs:SD s v):∃r,aC Tryz.prog 42 [.agg (aB s),.agg (aB s)]=some r/\r=.v (.bool true):=by
 have lK:=hs.flat
 rw[cG Tryz.func42 rfl aUW (by kernel_rfl) rfl]
 have kB:=aEg v.B hs.nB
 have kL:=aUM v.L hs.nL
 have kQ:=aHg v.Q hs.nQ
 have kn:=aRP v.ns v.ns hs.nn
 have kT:=aUS v.T hs.nT hs.tB
 simp only[ZG,seval,YS,aPd,hs.jQ,hs.dO,hs.gW,hs.early,hs.bV,hs.tree,hs.tables,E9,beI,kB,kL,kQ,kn,kT,decide_true,Bool.not_true,qG,qI];refine mD (fun m st=>∃k:Nat,(st.env 2=.ptr 2 0 0/\st.heap 2 0=some (.cells (aB s))/\st.env 3=.ptr 3 0 0/\st.heap 3 0=some (.cells (aB s))/\st.env 7=.v (.int .i64 k))/\k<=(ol v.E).length/\m=(ol v.E).length-k)
  (fun e st=>e=.exit 0/\(st.env 2=.ptr 2 0 0/\st.heap 2 0=some (.cells (aB s))/\st.env 3=.ptr 3 0 0/\st.heap 3 0=some (.cells (aB s)))) (ol v.E).length ?step ?start ?rest
 case step =>
  rintro m st ⟨k,hI,hk,hm⟩
  have hn:=hs.nE
  by_cases aZ:(k:Int)<(ol v.E).length
  ·have q0:(0:Int)<=k:=by omega
   have hw:IntKind.i64.wrap ((k:Int)+1)=((k+1:Nat):Int):=by rw[pM _ (by omega) (by omega)];omega
   have kk:=aUO _ (hs.eV _ (uM (z:=Ma) q0 aZ))
   apply Ge ((ol v.E).length-(k+1))
   ·simp only[ZG,seval,YS,hs.early,hI,aZ,q0,kk,E9,Bool.not_true,hw];rfl
   ·exact⟨k+1,by simp only[E8,seval,hI],by omega,rfl⟩
  ·apply OS (.exit 0)
   ·simp only[ZG,seval,YS,hs.early,hI,aZ];rfl
   ·exact⟨rfl,by simp only[E8,seval,hI]⟩
 case start=>exact⟨0,by simp only[E8,seval]<;>exact⟨rfl,rfl,rfl,rfl,rfl⟩,by omega,by omega⟩
 case rest =>
  rintro e st ⟨rfl,hI⟩
  simp only[ZG,seval,YS,hI];refine mD (fun m st=>∃k:Nat,(st.env 2=.ptr 2 0 0/\st.heap 2 0=some (.cells (aB s))/\st.env 3=.ptr 3 0 0/\st.heap 3 0=some (.cells (aB s))/\st.env 8=.v (.int .i64 k))/\k<=(ol v.O).length/\m=(ol v.O).length-k)
   (fun e st=>e=.exit 2) (ol v.O).length ?aAf ?XY ?QH
  case aAf =>
   rintro m st ⟨k,hI,hk,hm⟩
   have hn:=hs.nO
   by_cases aZ:(k:Int)<(ol v.O).length
   ·have q0:(0:Int)<=k:=by omega
    have hw:IntKind.i64.wrap ((k:Int)+1)=((k+1:Nat):Int):=by rw[pM _ (by omega) (by omega)];omega
    apply Ge ((ol v.O).length-(k+1))
    ·simp only[ZG,seval,YS,hs.bV,hI,aZ,q0,E9,decide_true,Bool.not_true,hw];rfl
    ·exact⟨k+1,by simp only[E8,seval,hI],by omega,rfl⟩
   ·apply OS (.exit 2)
    ·simp only[ZG,seval,YS,hs.bV,hI,aZ];rfl
    ·exact rfl
  case XY=>exact⟨0,by simp only[E8,seval,hI]<;>exact⟨rfl,rfl,rfl,rfl,rfl⟩,by omega,by omega⟩
  case QH =>
   rintro e st rfl
   simp only[ZG,seval,YS];exact⟨_,bT rfl (by simp only[E8,seval]<;>rfl) (by first|exact .v _|simp only[dN]),rfl⟩
theorem k42 {s:aO} {v:SV} (hs:SD s v) (st:St) (d:Option Nat):aN (aC Tryz.prog) 42 [.agg (aB s),.agg (aB s)] st d=some { dst:=d,val:=.v (.bool true)}:=by
 obtain⟨r,h,e⟩:=x42 hs
 subst e;exact bL (bH hs.flat hs.flat) h (.v _)
end Go.Ab.Tryz
namespace Go.Ab.Tryz
open Classical Go.Proofs Go.Ab
open Classical Go.Proofs Go.Ab
open Classical Go.Proofs Go.Ab
end Go.Ab.Tryz
namespace Go.Ab.Tryz
open Classical Go.Proofs Go.Ab
theorem beB (x:Bool):(x == x)=true:=by simp
theorem TI.lists {t:State} {v:SV} {Q R:Option (List Request)} {q m:Int} (T:TI t v Q R q m):v.B≠some []/\∃L,v.L=some L/\L≠[]:=by
 have h1:=T.toTI0.jQ.1
 have h2:=T.gi.QF
 constructor
 ·intro h;rw[h] at h1;exact absurd h1 (by simp[ol])
 ·cases h:v.L with
  | none=>rw[h] at h2;simp only[ol,Option.getD_none,List.length_nil] at h2;simp only[ol] at h1;omega
  | some L =>
    refine⟨L,rfl,fun e=>?_⟩
    rw[h,e] at h2;simp only[ol,Option.getD_some,List.length_nil] at h2;simp only[ol] at h1;omega
theorem c82 (o p:Option (List Request)) (e:ol p=ol o) (hn:((ol o).length:Int)<1000000):aC Tryz.prog 82 [ov aA o,ov aA p]=some (.v (.bool true)):=by
 rw[cL Tryz.func82 rfl aUX (by cases o<;>cases p<;>rfl)]
 refine iX ?_
 simp only[Z8,seval,e,E9];refine cB (fun m st=>∃k:Nat,(st.env 0=ov aA o/\st.env 1=ov aA p/\st.env 5=.v (.int .i64 k))/\k<=(ol o).length/\m=(ol o).length-k)
  (fun e st=>e=.exit 0) (ol o).length ?step ?start ?rest
 case step =>
  rintro m st ⟨k,hI,hk,hm⟩
  by_cases aZ:(k:Int)<(ol o).length
  ·have q0:(0:Int)<=k:=by omega
   have hw:IntKind.i64.wrap ((k:Int)+1)=((k+1:Nat):Int):=by rw[pM _ (by omega) (by omega)];omega
   apply oN ((ol o).length-(k+1))
   ·simp only[Z8,seval,e,hI,aZ,q0,E9,decide_true,Bool.not_true,hw];rfl
   ·exact⟨k+1,by simp only[E8,seval,hI],by omega,rfl⟩
  ·apply oT (.exit 0)
   ·simp only[Z8,seval,e,hI,aZ];rfl
   ·exact rfl
 case start=>exact⟨0,by simp only[E8,seval]<;>exact⟨rfl,rfl,rfl⟩,by omega,by omega⟩
 case rest =>
  rintro e st rfl
  simp only[Z8,seval];exact⟨_,bT rfl (by simp only[E8,seval]<;>rfl) (by first|exact .v _|simp only[dN]),rfl⟩
theorem k82 (o p:Option (List Request)) (e:ol p=ol o) (hn:((ol o).length:Int)<1000000) (st:St) (d:Option Nat):aN (aC Tryz.prog) 82 [ov aA o,ov aA p] st d=some { dst:=d,val:=.v (.bool true)}:=bL (bH (eD o) (eD p)) (c82 o p e hn) (.v _)
theorem c28 {t:State} {v:SV} {Q R:Option (List Request)} (h:TD t v Q R) (Q' R':Option (List Request)) (eQ:ol Q'=ol Q) (eR:ol R'=ol R):aC Tryz.prog 28 [.agg (aF (Mu t t.store (ov aA Q') (ov aA R'))),.agg (aF t)]=some (.v (.bool true)):=by
 have nQ:((ol Q').length:Int)<1000000:=by rw[eQ];have:=h.nQ;omega
 have nR:((ol R').length:Int)<1000000:=by rw[eR];have:=h.nR;omega
 have kq:=k82 Q' Q eQ.symm nQ
 have kr:=k82 R' R eR.symm nR
 have lK:=h.fl
 have ft:Flat (.agg (aF (Mu t t.store (ov aA Q') (ov aA R')))):=(pP _).2 ⟨lK.1,lK.2.1,lK.2.2.1,lK.2.2.2.1,lK.2.2.2.2.1,lK.2.2.2.2.2.1,lK.2.2.2.2.2.2.1,eD Q',eD R'⟩
 rw[cL Tryz.func28 rfl aUY rfl];refine iX ?_
 simp only[Z8,seval,Mu,h.Cf,h.ret,k42 h.sd,kq,kr,E9,beI,beB,decide_true,qG,qI];exact⟨_,bT rfl (by simp only[E8,seval]<;>rfl) (by first|exact .v _|simp only[dN]),rfl⟩
theorem k28 {t:State} {v:SV} {Q R:Option (List Request)} (h:TD t v Q R) (Q' R':Option (List Request)) (eQ:ol Q'=ol Q) (eR:ol R'=ol R) (st:St) (d:Option Nat):aN (aC Tryz.prog) 28 [.agg (aF (Mu t t.store (ov aA Q') (ov aA R'))),.agg (aF t)] st d=some { dst:=d,val:=.v (.bool true)}:=by
 have lK:=h.fl
 have ft:Flat (.agg (aF (Mu t t.store (ov aA Q') (ov aA R')))):=(pP _).2 ⟨lK.1,lK.2.1,lK.2.2.1,lK.2.2.2.1,lK.2.2.2.2.1,lK.2.2.2.2.2.1,lK.2.2.2.2.2.2.1,eD Q',eD R'⟩
 exact bL (bH ft h.flat) (c28 h Q' R' eQ eR) (.v _)
structure WT (t:State) (v:SV):Prop where
 td:TD t v (some [⟨⟨1⟩,mkRoot 9,0,0⟩]) none
 ne:NEv v
 hB:v.B≠some []
 hL:v.L≠some []
 pos:0<v.ns.length
 op:uP v.ns (mkRoot 9)
 tag:t.cV=2
 now:t.store.now=1
end Go.Ab.Tryz
namespace Go.Ab.Tryz
open Classical Go.Proofs Go.Ab
end Go.Ab.Tryz
namespace Go.Ab.Tryz
open Go Go.Ab
def Ee:List Value:=[.int .u64 0]++([.int .i64 0]++tW)
end Go.Ab.Tryz
namespace Go.Ab.Tryz
open Classical Go.Proofs Go.Ab
open Classical Go.Proofs Go.Ab
end Go.Ab.Tryz
namespace Go.Ab.Tryz
open Classical Go.Proofs Go.Ab
theorem aUZ {t:State} {v:SV} {Q R:Option (List Request)} (h:TD t v Q R) (r:cJ):aC Tryz.prog 139 [.agg (aF t),.agg (aX r)]=some (.v (.bool (decide (uP v.ns r)))):=by
 have hr:=fL v.ns r
 rw[cL Tryz.func139 rfl aPe rfl];refine iX ?_
 by_cases g1:0<=aP v.ns r
 ·by_cases g2:(nd v.ns (aP v.ns r)).status=0
  ·simp only[Z8,seval,h.sd.tree,k89 _ _ h.sd.nn,g1,hr.2,bt g2];exact⟨_,bT rfl (by simp only[E8,seval]<;>rfl) (by first|exact .v _|simp only[dN]),by simp[uP,g1,g2]⟩
  ·simp only[Z8,seval,h.sd.tree,k89 _ _ h.sd.nn,g1,hr.2,bf g2];exact⟨_,bT rfl (by simp only[E8,seval]<;>rfl) (by first|exact .v _|simp only[dN]),by simp[uP,g1,g2]⟩
 ·simp only[Z8,seval,h.sd.tree,k89 _ _ h.sd.nn,g1];exact⟨_,bT rfl (by simp only[E8,seval]<;>rfl) (by first|exact .v _|simp only[dN]),by simp[uP,g1]⟩
end Go.Ab.Tryz
namespace Go.Ab.Tryz
open Classical Go.Proofs Go.Ab
end Go.Ab.Tryz
namespace Go.Ab.Tryz
open Classical Go.Proofs Go.Ab
theorem aU0 (o:Option (List Request)) (hn:((ol o).length:Int)<1000000) (f:Nat) (mH:List AV) (p:Request->Bool) (kf:∀x∈ol o,∀(st:St) (d:Option Nat),aN (aC Tryz.prog) f ([.agg (bA x)]++mH) st d=some { dst:=d,val:=.v (.bool (p x))}):aC Tryz.prog 77 [ov aA o,.zC f mH]=some (.v (.int .i64 (Du (fun k=>p (gx bB (ol o) k)=true) (ol o).length))):=by
 rw[cL Tryz.func77 rfl aU1 (by cases o<;>rfl)]
 refine iX ?_
 simp only[Z8,seval];refine cB (fun m st=>∃k:Nat,(st.env 0=ov aA o/\st.env 1=.zC f mH/\st.env 7=.v (.int .i64 (ol o).length)/\st.env 8=.v (.int .i64 k))/\(∀j:Nat,j<k->¬p (gx bB (ol o) j)=true)/\k<=(ol o).length/\m=(ol o).length-k)
  (fun e st=>(e=.ret/\∃k:Nat,k<(ol o).length/\p (gx bB (ol o) k)=true/\(∀j:Nat,j<k->¬p (gx bB (ol o) j)=true)/\st.env 4=.v (.int .i64 k))\/(e=.exit 0/\∀j:Nat,j<(ol o).length->¬p (gx bB (ol o) j)=true)) (ol o).length ?step ?start ?rest
 case step =>
  rintro m st ⟨k,hI,hj,hk,hm⟩
  by_cases aZ:(k:Int)<(ol o).length
  ·have q0:(0:Int)<=k:=by omega
   have hw:IntKind.i64.wrap ((k:Int)+1)=((k+1:Nat):Int):=by rw[pM _ (by omega) (by omega)];omega
   have kx':=kf _ (uM (z:=bB) q0 aZ)
   by_cases hr:p (gx bB (ol o) k)=true
   ·rw[hr] at kx'
    apply oT (.ret)
    ·simp only[Z8,seval,hI,aZ,q0,kx'];rfl
    ·exact .inl ⟨rfl,k,by omega,hr,hj,by simp only[E8,seval]⟩
   ·have hf:p (gx bB (ol o) k)=false:=by simpa using hr
    rw[hf] at kx'
    apply oN ((ol o).length-(k+1))
    ·simp only[Z8,seval,hI,aZ,q0,kx',hw];rfl
    ·exact⟨k+1,by simp only[E8,seval,hI],fun j h=>(Nat.lt_succ_iff_lt_or_eq.1 h).elim (hj j) fun e=>by subst e;exact hr,by omega,rfl⟩
  ·apply oT (.exit 0)
   ·simp only[Z8,seval,hI,aZ];rfl
   ·exact .inr ⟨rfl,fun j h=>hj j (by omega)⟩
 case start=>exact⟨0,by simp only[E8,seval]<;>rfl,fun j h=>by omega,by omega,by omega⟩
 case rest =>
  rintro e st (⟨rfl,k,hk,hh,hj,h⟩|⟨rfl,hj⟩)
  ·have hv:Du (fun k=>p (gx bB (ol o) k)=true) (ol o).length=k:=Ko hh hj _ hk
   simp only[Z8,seval];exact⟨_,bT rfl (by simp only[E8,seval,h]<;>rfl) (by first|exact .v _|simp only[dN,h]),by rw[hv]⟩
  ·have hv:Du (fun k=>p (gx bB (ol o) k)=true) (ol o).length=-1:=vY _ hj
   simp only[Z8,seval];exact⟨_,bT rfl (by simp only[E8,seval]<;>rfl) (by first|exact .v _|simp only[dN]),by rw[hv]⟩
end Go.Ab.Tryz
namespace Go.Ab.Tryz
open Classical Go.Proofs Go.Ab
open Classical Go.Proofs Go.Ab
end Go.Ab.Tryz
namespace Go.Ab.Tryz
open Classical Go.Proofs Go.Ab
def aEz (s g:Nat) (st st':St):Prop:=(∀x h,h<st.aK x->¬(x=s/\h=g)->st'.heap x h=st.heap x h)/\∀x,st.aK x<=st'.aK x
theorem aEz.refl (s g:Nat) (st:St):aEz s g st st:=⟨fun _ _ _ _=>rfl,fun _=>Nat.le_refl _⟩
structure KOk (K:St->Prop) (s g e sz:Nat) (cs:Nat->List AV->Prop):Prop where
 put:∀st d v,K (St.put st d v)=K st
 new:∀st x,K (St.new st 7 x)=K st
 set:∀st h x,K (St.gT st 7 h x)=K st
 back:∀a st,K (St.back a st)=K st
 row:∀st n C,cs n C->K st->K (St.gT st s g (some (.row e sz n C)))
theorem RL {α:Type} {z:α} {l:List α} {j:Nat} (h:j<l.length):gx z l (j:Int)=l[j]:=by
 unfold gx;rw[Int.toNat_natCast,List.getD_eq_getElem?_getD,List.getElem?_eq_getElem h];rfl
end Go.Ab.Tryz
namespace Go.Ab.Tryz
open Classical Go.Proofs Go.Ab
end Go.Ab.Tryz
namespace Go.Ab.Tryz
open Classical Go.Proofs Go.Ab
theorem aPf (x:Request):aC Tryz.prog 140 [.v (.slice none 0 0),.agg (bA x),.v (.func (.func 141) #[] #[])]=some (.dX [.v (.int .i64 0),.v (.bool false)]):=by
 rw[cL Tryz.func140 rfl aHh rfl];refine iX ?_
 simp only[Z8,seval];refine cB (fun m st=>st.env 6=.v (.int .i64 0)/\st.env 7=.v (.bool false)/\st.env 8=.v (.int .i64 0)/\st.env 9=.v (.int .i64 0)/\st.env 10=.v (.int .i64 0)) (fun e st=>e=.exit 0/\st.env 6=.v (.int .i64 0)/\st.env 7=.v (.bool false)/\st.env 8=.v (.int .i64 0)/\st.env 9=.v (.int .i64 0)) 0 ?step ?start ?rest
 case step =>
  rintro m st hI
  apply oT (.exit 0)
  ·simp only[Z8,seval,hI,Int.lt_irrefl];rfl
  ·exact⟨rfl,by simp only[E8,seval,hI]⟩
 case start=>simp only[E8,seval]<;>rfl
 case rest =>
  rintro e st ⟨rfl,hI⟩
  simp only[Z8,seval,hI,Int.lt_irrefl];exact⟨_,dJ rfl rfl rfl (by simp only[E8,seval,hI]<;>rfl) (by simp only[E8,seval,hI]<;>rfl),rfl⟩
theorem N8 {a b x:Request} (h:¬jA b a) (g:jA b x):jA a x:=by unfold jA at *;omega
theorem aU2 (L:List Request) (hn:(L.length:Int)<1000000) (x:Request) (hs:L.Pairwise fun a b=>¬jA b a) :
 ∃r,aC Tryz.prog 140 [.sl L.length (aA L),.agg (bA x),.v (.func (.func 141) #[] #[])]=some r/\∃(k:Nat) (b:Bool),r=.dX [.v (.int .i64 k),.v (.bool b)]/\k<=L.length/\(∀j:Nat,j<k->jA (gx bB L j) x)/\(k<L.length->¬jA (gx bB L k) x):=by
 have aIK:=fun a b=>kx (aUv a b) (bH (.agg _ (fN a)) (.agg _ (fN b))) (.v _)
 have mono:∀a b:Nat,a<b->b<L.length->jA (gx bB L b) x->jA (gx bB L a) x:=fun a b h1 h2 h3=>by
  have hp:=List.pairwise_iff_getElem.1 hs a b (by omega) h2 h1
  rw[RL (by omega)] at h3 ⊢
  exact N8 hp h3
 rw[cL Tryz.func140 rfl aHh rfl];simp only[Z8,seval];refine cB (fun m st=>∃i j:Nat,(st.env 0=.sl L.length (aA L)/\st.env 2=.v (.func (.func 141) #[] #[])/\st.env 4=.ptr 4 0 0/\st.heap 4 0=some (.cells (bA x))/\st.env 6=.v (.int .i64 0)/\st.env 7=.v (.bool false)/\st.env 8=.v (.int .i64 L.length)/\st.env 9=.v (.int .i64 i)/\st.env 10=.v (.int .i64 j))/\i<=j/\j<=L.length/\(∀a:Nat,a<i->jA (gx bB L a) x)/\(j<L.length->¬jA (gx bB L j) x)/\m=j-i)
  (fun e st=>e=.exit 0/\∃i:Nat,(st.env 0=.sl L.length (aA L)/\st.env 2=.v (.func (.func 141) #[] #[])/\st.env 4=.ptr 4 0 0/\st.heap 4 0=some (.cells (bA x))/\st.env 6=.v (.int .i64 0)/\st.env 7=.v (.bool false)/\st.env 8=.v (.int .i64 L.length)/\st.env 9=.v (.int .i64 i))/\i<=L.length/\(∀a:Nat,a<i->jA (gx bB L a) x)/\(i<L.length->¬jA (gx bB L i) x)) L.length ?step ?start ?rest
 case step =>
  rintro m st ⟨i,j,hI,hij,hjn,hlo,hhi,hm⟩
  by_cases aZ:(i:Int)<j
  case neg =>
   have e:i=j:=by omega
   subst e;apply oT (.exit 0)
   ·simp only[Z8,seval,hI,aZ];rfl
   ·exact⟨rfl,i,by simp only[E8,seval,hI],hjn,hlo,hhi⟩
  obtain⟨h,hh⟩:∃h:Nat,h=(i+j) / 2:=⟨_,rfl⟩
  have w1:IntKind.i64.wrap ((i:Int)+j)=((i+j:Nat):Int):=by rw[pM _ (by omega) (by omega)];omega
  have w2:IntKind.u64.wrap ((i+j:Nat):Int)=((i+j:Nat):Int):=by rw[aD7 _ (by omega) (by omega)]
  have w3:((i+j:Nat):Int).fdiv (2 ^ min 1 IntKind.u64.bits)=(h:Int):=by
   have e2:min 1 IntKind.u64.bits=1:=rfl
   rw[e2,show (2:Int) ^ 1=2 from rfl,Int.fdiv_eq_ediv_of_nonneg _ (by omega),hh]
   omega
  have w4:IntKind.i64.wrap ((h:Nat):Int)=(h:Int):=by rw[pM _ (by omega) (by omega)]
  have w5:IntKind.i64.wrap ((h:Int)+1)=((h+1:Nat):Int):=by rw[pM _ (by omega) (by omega)];omega
  have q0:(0:Int)<=h:=by omega
  have q1:(h:Int)<L.length:=by omega
  by_cases hc:aA0 (gx bB L (h:Int)) x<0
  ·have hl:=(IP _ _).1 hc
   apply oN (j-(h+1))
   ·simp only[Z8,seval,hI,aZ,w1,w2,w3,w4,w5,q0,q1,aIK,Au 24 _ _ 141,hc];rfl
   ·exact⟨h+1,j,by simp only[E8,seval,hI],by omega,hjn,fun a ha=>(Nat.lt_succ_iff_lt_or_eq.1 ha).elim (fun g=>mono a h g (by omega) hl) fun e=>by subst e;exact hl,hhi,rfl⟩
  ·have hl:=fun g=>hc ((IP _ _).2 g)
   apply oN (h-i)
   ·simp only[Z8,seval,hI,aZ,w1,w2,w3,w4,w5,q0,q1,aIK,Au 24 _ _ 141,hc];rfl
   ·exact⟨i,h,by simp only[E8,seval,hI],by omega,by omega,hlo,fun _=>hl,rfl⟩
 case start=>exact⟨0,L.length,by simp only[E8,seval]<;>rfl,by omega,by omega,fun a ha=>by omega,fun h=>by omega,by omega⟩
 case rest =>
  rintro e st ⟨rfl,i,hI,C5,hlo,hhi⟩
  have q0:(0:Int)<=i:=by omega
  by_cases aZ:(i:Int)<L.length
  ·simp only[Z8,seval,hI,aZ,q0,aIK,Au 40 _ _ 141];exact⟨_,dJ rfl rfl rfl (by simp only[E8,seval,hI]<;>rfl) (by simp only[E8,seval,hI]<;>rfl),i,_,rfl,C5,hlo,hhi⟩
  ·simp only[Z8,seval,hI,aZ];exact⟨_,dJ rfl rfl rfl (by simp only[E8,seval,hI]<;>rfl) (by simp only[E8,seval,hI]<;>rfl),i,_,rfl,C5,hlo,hhi⟩
end Go.Ab.Tryz
namespace Go.Ab.Tryz
open Classical Go.Proofs Go.Ab
end Go.Ab.Tryz
namespace Go.Ab.Tryz
open Classical Go.Proofs Go.Ab
theorem aA5 {P:Program} {g:Nat} {args:List AV} {st:St} {β:Type} {k:AV × St->Option β} {R:β->Prop} (X:AV) (Pre:St->Prop) (Q:St->St->Prop) (h:∀st,Pre st->∃st',rK P g args st=some (X,st')/\Q st st') (hp:Pre st)
 (rest:∀st',Q st st'->∃r,k (X,st')=some r/\R r):∃r,cA (rK P g args st) k=some r/\R r:=by
 obtain⟨st',h1,h2⟩:=h st hp
 rw[h1];exact rest st' h2
end Go.Ab.Tryz
