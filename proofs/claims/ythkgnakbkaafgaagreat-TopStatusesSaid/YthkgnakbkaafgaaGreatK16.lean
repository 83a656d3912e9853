/-
  Part 16 of the proof: an evaluator of programs, its soundness, and what functions of this program compute.
-/
import Derived.Test.YthkgnakbkaafgaaGreatK15
import Derived.Test.YthkgnakbkaafgaaGreatK11
import Derived.Test.YthkgnakbkaafgaaGreatK14
import Derived.Test.YthkgnakbkaafgaaGreatK12
import Derived.Test.YthkgnakbkaafgaaGreatK13
set_option linter.all false
set_option maxRecDepth 20000
set_option maxHeartbeats 40000000
open Go.IntKind (i64 u64)
open List Go.Proofs.Tryz
noncomputable section
section
namespace Go.Ab.Tryz
open Classical Go.Proofs Go.Ab
def LF (s:aF) (O:Option (List Block)) (T:Option (List Table)):aF:={ s with bH:={ s.bH with bL:=ov aK O },tables:=ov bG T }
def kV (v:SV) (O:Option (List Block)) (T:Option (List Table)):SV:={ v with O:=O,T:=T }
section
variable {s:aF} {v:SV} {O:Option (List Block)} {T:Option (List Table)} (hO:ol O=ol v.O) (hT:ol T=ol v.T)
include hO hT
theorem SD.al (h:SD s v):SD (LF s O T) (kV v O T) :=
 ⟨h.fL,h.cJ,h.dM,h.early,rfl,h.tree,rfl,h.eV,by show ∀t∈ol T,_;rw[hT];exact h.tB,h.nB,h.nL,h.nQ,h.nE,by show ((ol O).length:Int)<_;rw[hO];exact h.nO,by show ((ol T).length:Int)<_;rw[hT];exact h.nT,h.nn⟩
theorem GI.al {q:Int} (h:GI s v q):GI (LF s O T) (kV v O T) q :=
 ⟨h.sd.al hO hT,h.up,h.Nv,h.pos,h.nl,h.RE,h.iH,h.Wg,h.nB,by show ((ol O).length:Int)<=_;rw[hO];exact h.nO,h.AH,h.nE,h.KU,by show ((ol T).length:Int)<=_;rw[hT];exact h.nT,h.KV,h.nQ,h.N8,h.dX⟩
theorem VS.al (h:VS s v):VS (LF s O T) (kV v O T) :=
 ⟨h.Er,h.AI,h.Yv,h.js,h.r0,h.e0,h.vo,h.eq,h.bo,h.od,h.ea,by show ∀b∈ol O,_;rw[hO];exact h.oi,by show (List.map _ (ol O)).Nodup;rw[hO];exact h.on⟩
theorem RG0.al (h:RG0 s v) (M:T≠some []):RG0 (LF s O T) (kV v O T) :=
 ⟨h.now,h.j,h.f,h.nd,by show ∀b∈ol O,_;rw[hO];exact h.or,h.rt,h.fe,h.ds,by show ∃t∈ol T,_;rw[hT];exact h.tb,⟨h.ne.q,h.ne.e,M,h.ne.ea,by show ∀t∈ol T,_;rw[hT];exact h.ne.tb⟩,h.vs.al hO hT⟩
end
def uO (s:aF) (v:SV) (c1 c2:dH):Option (List Block):=if iR s v (yZ s c1) (sX s c2) then v.O else if sX s c2=s.aL.fin then v.O else v.O.map fun l=>l.filter fun b=>decide ((sF s (sX s c2).aG).1<b.slot)
def uT (s:aF) (v:SV) (c1 c2:dH):Option (List Table):=if iR s v (yZ s c1) (sX s c2) then v.T else v.T.map fun l=>Se l (yZ s c1).aG
def SW (s:aF) (v:SV) (c1 c2:dH):aF:=LF (rH s v c1 c2) (uO s v c1 c2) (uT s v c1 c2)
def LG (s:aF) (v:SV) (c1 c2:dH):SV:=kV (mU s v c1 c2) (uO s v c1 c2) (uT s v c1 c2)
def U6 {α:Type} (o:Option (List α)) (p:α->Bool):ol (o.map fun l=>l.filter p)=ol (nz ((ol o).filter p)):=by
 rw[mE];cases o<;>rfl
def sh (s:aF) (v:SV) (c1 c2:dH):ol (uO s v c1 c2)=ol (mU s v c1 c2).O/\ol (uT s v c1 c2)=ol (mU s v c1 c2).T:=by
 unfold uO uT mU;by_cases b:iR s v (yZ s c1) (sX s c2)
 ·rw[if_pos b,if_pos b,if_pos b];exact⟨rfl,rfl⟩
 rw[if_neg b,if_neg b,if_neg b];by_cases e:sX s c2=s.aL.fin
 ·rw[if_pos e,if_pos e];exact⟨rfl,U6 v.T _⟩
 ·rw[if_neg e,if_neg e];exact⟨U6 v.O _,U6 v.T _⟩
def U7 {f:Nat} {fn:Func} {st:St} {r:ResultVar} {S:aF} {w:SV} (O:Option (List Block)) (T:Option (List Table)) {s kO kT:Nat} (R:Sr f=true) (X:fn.results.toList=[r]) (hs:SD (LF S O T) (kV w O T))
 (J:bC prog st r=some (bc ({ S with bH:={ S.bH with bL:=rv s kO O },tables:=rv s kT T }))) (hO:∀l,O=some l->st.heap s kO=some (.row 66 238 l.length (aK l))) (hT:∀l,T=some l->st.heap s kT=some (.row 74 34 l.length (bG l))) (M:O.isSome=true->T.isSome=true->kO≠kT) :
 wY prog f fn (.ret,st)=some (bc (zS (LF S O T) (kV w O T) [114,149])):=by
 have fl:Flat S.cFg.fL/\Flat S.dI.cJ/\Flat S.dI.dM/\Flat S.bH.early/\Flat (ov aK O)/\Flat S.tree.nodes/\Flat (ov bG T):=hs.fl
 refine Bw (Ws R) (.inl rfl) X J ?_ ?_
 ·show ((aB (Rn S S.cFg.fL S.dI.cJ S.dI.dM S.bH.early (rv s kO O) S.tree.nodes (rv s kT T))).flatMap gP).Nodup
  rw[qU,dP fl.1,dP fl.2.1,dP fl.2.2.1,dP fl.2.2.2.1,dP fl.2.2.2.2.2.1,xH,xH];cases O<;>cases T<;>simp
  exact M rfl rfl
 ·refine (Bc (Hp S (b:=S.cFg.fL) (l:=S.dI.cJ) (q:=S.dI.dM) (e:=S.bH.early) (o:=rv s kO O) (n:=S.tree.nodes) (t:=rv s kT T) (if_pos fl.1) (if_pos fl.2.1) (if_pos fl.2.2.1) (if_pos fl.2.2.2.1) (lC (e:=66) (sz:=238) hO fun l _=>jA l) (if_pos fl.2.2.2.2.2.1) (lC (e:=74) (sz:=34) hT fun l W=>jL l fun y m=>(hs.tB y (by rw[W];exact m)).fl))).trans ?_
  have A:S.cFg.fL=ov bD w.B:=hs.fL
  have e2:S.dI.cJ=ov dF w.L:=hs.cJ
  have C:S.dI.dM=ov aH w.Q:=hs.dM
  have G:S.bH.early=ov cN w.E:=hs.early
  have D:ov bS (some w.ns)=S.tree.nodes:=(Pa hs :)
  simp only[zS,pk,LF,kV,Rn,List.contains_cons,contains_nil,Nat.reduceBEq,Bool.or_false,Bool.or_true,Bool.false_or,Bool.true_or,cond_false,cond_true,<- A,<- e2,<- C,<- G,D]
end Go.Ab.Tryz
end
namespace Go.Ab.Tryz
open Classical Go.Proofs Go.Ab
variable {α:Type} {s:aF} {v:SV} {q:Int} {t:State} {Q R:Option (List Request)} {st:St} {g gq gr:Nat} {b:Block} {a:List Node} {O:Option (List Block)}
def aGn {β:Type} (d k:Nat) (o:Option (List α)) (f:List α->List β):rv d k (o.map f)=rv d k o:=wa
def p7:aP 0 4 3/\aP 1 4 13/\aP 2 13 16/\aP 3 2 23/\aP 4 2 25/\iW 5 8 (some 26)=[(1,4)]/\aP 7 5 37/\aP 8 2 42/\aP 9 14 44/\aP 10 6 56/\aP 11 3 62/\aP 12 12 65/\aP 14 2 80/\aP 6 6 32/\aP 13 8 73:=⟨rfl,rfl,rfl,rfl,rfl,rfl,rfl,rfl,rfl,rfl,rfl,rfl,rfl,rfl,rfl⟩
def aPf (h:GI s v q) (r:RG0 s v) (G:CP s v) (c1 c2:dH) (h1:Rg c1.aG) (h2:Rg c2.aG) :
 aA prog 132 [bc s,ag c1,ag c2]=some (bc (zS (SW s v c1 c2) (LG s v c1 c2) [114,149])):=by
 have hs:=h.sd
 have N:Rg s.now:=⟨r.now.1,iw⟩
 have PH:=a3M hs h.up h.iH N r.j r.f c1 c2 h1 h2
 have fT:=fun y hy=>(hs.tB y hy).fl
 have M:=(hs.dE h.up c1 c2).al (sh s v c1 c2).1 (sh s v c1 c2).2
 obtain⟨LT,hvT⟩:∃L,v.T=some L:=by
  obtain⟨t,D,_⟩:=r.tb
  cases e:v.T with
  | none=>rw[e] at D;cases D
  | some L=>exact⟨L,rfl⟩
 have R:=aV4 hs 14 0
 obtain⟨es,hes⟩:∃es,rl 66 238 aK v.O++rl 74 34 bG v.T=es:=⟨_,rfl⟩
 obtain⟨kT,hkT⟩:∃k,(rl 66 238 aK v.O).length=k:=⟨_,rfl⟩
 rw[hes,hkT,Nat.zero_add] at R;have eO:∀l,v.O=some l->0<es.length/\es[0]? = some (.row 66 238 l.length (aK l))/\0≠kT:=fun l e=>by subst hes hkT;rw[e];simp[rl]
 have eT:kT<es.length/\es[kT]? = some (.row 74 34 LT.length (bG LT)):=by subst hes hkT;rw[hvT];cases v.O<;>simp[rl]
 have le:∀st:St,es.length<=(st.news 14 es).aJ 14:=fun st=>by rw[YF,if_pos rfl];omega
 have sO:v.O.isSome=true->v.T.isSome=true->0≠kT:=fun g _=>by cases e:v.O with|none=>rw[e] at g;cases g|some l=>exact (eO l e).2.2
 rw[cG func132 rfl aWu WP rfl]
 unfold SW LG at *
 unfold rH mU uO uT at M ⊢
 unfold DZ at PH
 have xJ:=fun st=>LD G (Ro 63 14) (m:=[114,149]) st 14
 by_cases hb:iR s v (yZ s c1) (sX s c2)
 ·rw[if_pos hb] at PH
  simp only[if_pos hb] at M ⊢;simp only[ZG,seval,p7,xJ,PH,R,NW,bW];exact U7 v.O v.T rfl rfl (s:=14) (kO:=0) (kT:=kT) M (by simp only[bC,Z8,seval,NW]<;>rfl) (fun l e=>vv)
   (fun l e=>by cases hvT.symm.trans e;simp only[E8,seval,NW,true_and,Nat.zero_le,Nat.sub_zero,eT.1,if_true,eT.2]) sO
 rw[if_neg hb] at PH
 simp only[if_neg hb] at M ⊢;have nU:=(aBw h.iH N (by unfold yZ;split;exact h1;exact r.j) (by unfold sX;split;exact h2;exact r.f)).2 hb
 obtain⟨J,eJ⟩:∃J,yZ s c1=J:=⟨_,rfl⟩
 obtain⟨F,eF⟩:∃F,sX s c2=F:=⟨_,rfl⟩
 have rF:Rg F.aG:=by rw[<- eF];unfold sX;split;exact h2;exact r.f
 rw[eJ,eF] at PH nU M ⊢
 obtain⟨⟨f1,f2,f3,f4⟩,_⟩:=nU
 have eX:∀L:List Table,(L.filter fun x=>!(fun x:Table=>decide (x.ck.aG<J.aG)) x)=Se L J.aG:=fun L=>by
  unfold Se;congr 1
  funext x
  simp only[<- decide_not,Int.not_lt]
 have iT:∀st:St,st.heap 8 0=some (.cells (bI J))->kT<st.aJ 14/\st.heap 14 kT=some (.row 74 34 LT.length (bG LT))->∃X st',oX prog 197 [rv 14 kT v.T,.rL 198 [.ptr 8 0 0]] st=some (X,st')/\∃g',X=rv 14 g' v.T/\yQ 14 kT st st'/\(g'=kT\/st.aJ 14<=g')/\g'<st'.aJ 14/\st'.heap 14 g'=some (.row 74 34 (Se LT J.aG).length (bG (Se LT J.aG))):=fun st p1 p2=>by
  obtain⟨g',st',a1,a2,a3⟩:=aPd v.T hs.nT fT J 14 kT 8 0 ZB ZB (by rintro⟨h,_⟩;omega) st p1 (fun L e=>by cases hvT.symm.trans e;exact p2)
  have:=a3 LT hvT
  rw[eX] at this;exact⟨_,st',a1,g',rfl,a2,this⟩
 refine eM ?_
 simp only[ZG,seval,p7,xJ,PH,R,NW,bW];refine tW (fun st X st'=>∃g',X=rv 14 g' v.T/\yQ 14 kT st st'/\(g'=kT\/st.aJ 14<=g')/\g'<st'.aJ 14/\st'.heap 14 g'=some (.row 74 34 (Se LT J.aG).length (bG (Se LT J.aG)))) (iT _ ?p1 ⟨?p2, ?p3⟩) ?rest
 case p1=>simp only[E8,seval,NW]<;>rfl
 case p2=>simp only[E8,seval,NW];exact eT.1
 case p3=>simp only[E8,seval,NW,true_and,Nat.zero_le,Nat.sub_zero,eT.1,if_true,eT.2]
 case rest =>
  rintro X st' ⟨g',rfl,u,p⟩
  have C:st'.heap 3 0=some (.cells (aB s)):=(u.1 3 0 wc WF).trans qq
  have e6:st'.heap 6 0=some (.cells (aB eU)):=(u.1 6 0 wc WF).trans qq
  have e7:st'.heap 7 0=some (.cells (aB { s with aL:=⟨J,F⟩,bH:={ s.bH with bL:=rv 14 0 v.O },tables:=rv 14 kT v.T })):=(u.1 7 0 wc WF).trans qq
  have e9:st'.heap 9 0=some (.cells (bI F)):=(u.1 9 0 wc WF).trans qq
  have eo:∀l,v.O=some l->0<st'.aJ 14/\st'.heap 14 0=some (.row 66 238 l.length (aK l)):=fun l e=>⟨Nat.lt_of_lt_of_le (eO l e).1 (Nat.le_trans (by simp only[E8,seval,NW];exact Nat.le_refl _) (u.2 14)),(u.1 14 0 (by simp only[E8,seval,NW];exact (eO l e).1) (by have:=(eO l e).2.2;omega)).trans vv⟩
  have g6:0<st'.aJ 6:=Nat.lt_of_lt_of_le wc (u.2 6)
  have g7:0<st'.aJ 7:=Nat.lt_of_lt_of_le wc (u.2 7)
  have ng:∀l,v.O=some l->0≠g':=fun l e=>by
   have:=(eO l e).2.2
   have g:=p.1
   simp only[E8,seval,NW] at g;have:=eT.1
   omega
  obtain⟨gO,w0,w1,w2⟩:∃g,rv 14 0 v.O=rv 14 g v.O/\g≠g'/\∀l,v.O=some l->g=0:=by
   cases e:v.O with
   | none=>exact⟨g'+1,rfl,WF,nofun⟩
   | some l=>exact⟨0,rfl,ng l e,fun _ _=>rfl⟩
  rw[w0] at e7;have eo:∀l,v.O=some l->gO<st'.aJ 14/\st'.heap 14 gO=some (.row 66 238 l.length (aK l)):=fun l e=>by rw[w2 l e];exact eo l e
  clear u
  by_cases hFF:F=s.aL.fin
  ·have hd:decide (F=s.aL.fin)=true:=decide_eq_true hFF
   simp only[if_pos hFF] at M ⊢;simp only[ZG,seval,p7,NW,bV,aN,aV,C,e6,e7,e9,Bm,Mj,length_singleton,hd];exact⟨_,U7 v.O (v.T.map fun l=>Se l J.aG) rfl rfl (s:=14) (kO:=gO) (kT:=g') M (by simp only[bC,Z8,seval,NW,bV,aN,aV,C,e6,e7,aGn]<;>rfl) (fun l e=>by simp only[E8,seval,NW,aN,(eo l e).2])
    (fun l e=>by rw[hvT] at e;cases e;simp only[E8,seval,NW,aN,p.2.2]) (fun _ _=>w1),rfl⟩
  have hd:decide (F=s.aL.fin)=false:=decide_eq_false hFF
  simp only[if_neg hFF] at M ⊢;have fr:=cB v.ns F.root
  have kP:=a3R v.ns h.up (by rw[h.Nv];decide) hs.nn (aD v.ns F.root) ⟨f1,fr.2⟩
  unfold jl at kP;obtain⟨pn,hpn⟩:∃pn,(iY v.ns (aD v.ns F.root) v.ns.length).1=pn:=⟨_,rfl⟩
  have lpn:bg pn.length:=by rw[<- hpn];have:=EB (ns:=v.ns) (aD v.ns F.root);have:=hs.nn;omega
  rw[hpn] at kP M ⊢;have W:∀(st:St) (d:Option Nat),aO (aA prog) 200 [ac F.aG,ac s.cFg.iH] st d=some { dst:=d,val:=.cY [ac ((sF s F.aG).1),aa ((sF s F.aG).2)]}:=fun st d=>eu rF st d
  obtain⟨bo,hb⟩:∃bo,(if aD pn s.dY<0 then bQ else s.dY)=bo:=⟨_,rfl⟩
  rw[hb] at M ⊢;obtain⟨z,R⟩:∃z,(sF s F.aG).1=z:=⟨_,rfl⟩
  rw[R] at W M ⊢
  generalize hRes:bc (zS (LF _ _ _) (kV _ _ _) [114,149])=Res
  have eX:∀L:List Block,(L.filter fun x=>!(fun x:Block=>decide (x.slot<=z)) x)=L.filter fun b=>decide (z<b.slot):=fun L=>by
   congr 1
   funext x
   simp only[<- decide_not,Int.not_le]
  have iO:∀(k:Nat) (st:St),st.heap 11 k=some (.cells (qY z))->(∀L,v.O=some L->gO<st.aJ 14/\st.heap 14 gO=some (.row 66 238 L.length (aK L)))->st'.aJ 14<=st.aJ 14->∃X s2,oX prog 201 [rv 14 gO v.O,.rL 202 [.ptr 11 k 0]] st=some (X,s2)/\∃g2,X=rv 14 g2 v.O/\yQ 14 gO st s2/\∀L,v.O=some L->(g2=gO\/st'.aJ 14<=g2)/\s2.heap 14 g2=some (.row 66 238 (L.filter fun b=>decide (z<b.slot)).length (aK (L.filter fun b=>decide (z<b.slot)))):=fun k st p1 p2 p3=>by
   obtain⟨g',st',h1,h2,S⟩:=aPe v.O hs.nO z 14 gO 11 k ZB ZB (by rintro⟨h,_⟩;omega) st p1 p2
   refine⟨_,st',h1,g',rfl,h2,fun L h=>?_⟩
   have:=S L h
   rw[eX] at this;exact⟨this.1.imp id fun h=>Nat.le_trans p3 h,this.2.2⟩
  by_cases g:aD pn s.dY<0<;>simp only[g,if_true,if_false] at hb<;>(try rw[hb] at g)
  all_goals
   simp only[ZG,seval,p7,NW,bV,aN,aV,C,e6,e7,e9,Bm,Mj,length_singleton,hd,hs.tree,lX _ _ hs.nn,lX _ _ lpn,kP,bW,g,hb,W];refine tW (fun st X s2=>∃g2,X=rv 14 g2 v.O/\yQ 14 gO st s2/\∀L,v.O=some L->(g2=gO\/st'.aJ 14<=g2)/\s2.heap 14 g2=some (.row 66 238 (L.filter fun b=>decide (z<b.slot)).length (aK (L.filter fun b=>decide (z<b.slot))))) (iO _ _ ?p1 (fun L h=>⟨?p2, ?p3⟩) ?p4) ?rest
   case p1=>simp only[E8,seval,NW,bV,aN,aV]<;>rfl
   case p2=>simp only[E8,seval,NW,bV,aN,aV];exact (eo L h).1
   case p3=>simp only[E8,seval,NW,bV,aN,aV];exact (eo L h).2
   case p4=>simp only[E8,seval,NW,bV,aN,aV];exact Nat.le_refl _
   case rest =>
    rintro Y s2 ⟨g2,rfl,hF2,ZH⟩
    have a6:s2.heap 6 0=some (.cells (aB eU)):=(hF2.1 6 0 (by simp only[E8,seval,NW,bV,aN,aV];exact g6) WF).trans (by simp only[E8,seval,NW,bV,aN,aV,e6]<;>rfl)
    have a7:s2.heap 7 0=some (.cells (aB { s with aL:=⟨J,F⟩,bH:={ s.bH with bL:=rv 14 gO v.O },tree:=⟨.sl pn.length (bS pn)⟩,dY:=bo,tables:=rv 14 g' v.T })):=(hF2.1 7 0 (by simp only[E8,seval,NW,bV,aN,aV];exact g7) WF).trans (by simp only[E8,seval,NW,bV,aN,aV,e7]<;>rfl)
    have aT:s2.heap 14 g'=some (.row 74 34 (Se LT J.aG).length (bG (Se LT J.aG))):=(hF2.1 14 g' (by simp only[E8,seval,NW,bV,aN,aV];exact p.2.1) (by rintro⟨_,e⟩;exact w1 e.symm)).trans (by simp only[E8,seval,NW,bV,aN,aV,p.2.2])
    clear hF2
    simp only[ZG,seval,p7,NW,bV,aN,aV,a6,a7,Bm,Mj,length_singleton];refine⟨_, ?_,rfl⟩
    rw[<- hRes];refine U7 (s:=14) (kO:=g2) (kT:=g') _ _ rfl rfl M ?xa ?xb ?xc ?xd
    case xa=>simp only[bC,Z8,seval,NW,bV,aN,aV,a6,a7,aGn]<;>rfl
    case xb =>
     intro l e;cases A:v.O with
     | none=>rw[A] at e;cases e
     | some l1=>rw[A] at e;cases e;simp only[E8,seval,NW,aN,(ZH l1 A).2]
    case xc =>
     intro l e;rw[hvT] at e;cases e;simp only[E8,seval,NW,aN,aT]
    case xd =>
     intro a _;cases A:v.O with
     | none=>rw[A] at a;cases a
     | some l1=>exact (ZH l1 A).1.elim (fun e=>e ▸ w1) fun e f=>absurd p.2.1 (Nat.not_lt.2 (f ▸ e))
def a3S (h:TD t v Q R) (r:bU):aA prog 144 [bd t,.agg (aW r)]=some (ae (decide (wG v.ns r))):=by
 have X:=cB v.ns r
 rw[cL func144 rfl aWv rfl];refine eM ?_
 by_cases g1:0<=aD v.ns r
 ·by_cases g2:(nd v.ns (aD v.ns r)).status=0
  ·simp only[Z8,seval,h.sd.tree,lX _ _ h.sd.nn,g1,X.2,bt g2];exact⟨_,bE rfl,dp⟩
  ·simp only[Z8,seval,h.sd.tree,lX _ _ h.sd.nn,g1,X.2,bf g2];exact⟨_,bE rfl,dp⟩
 ·simp only[Z8,seval,h.sd.tree,lX _ _ h.sd.nn,g1];exact⟨_,bE rfl,by simp[wG,g1]⟩
def qR (Q R:Option (List Request)):List mH:=rl 102 35 aC Q++rl 102 35 aC R
def nK (Q:Option (List Request)):Nat:=(rl 102 35 aC Q).length
def Tl (l:List Request) (h:Q=some l):0<(qR Q R).length/\(qR Q R)[0]? = some (.row 102 35 l.length (aC l))/\nK Q=1:=by subst h;simp[qR,rl,nK]
def AM (l:List Request) (h:R=some l):nK Q<(qR Q R).length/\(qR Q R)[nK Q]? = some (.row 102 35 l.length (aC l)):=by subst h;cases Q<;>simp[qR,rl,nK]
def si (h:TD t v Q R) (G:CP t.store v) (st:St) (d:Nat) (e:Ro 30 d=[150,151]):aO (Oo (Ro 30 d) (aA prog)) 30 [bd t] st (some d) =
 some { dst:=some d,val:=bd (pD t (rv d (st.aJ d) Q) (rv d (st.aJ d+nK Q) R) t.cI),new:=Sl d (qR Q R)}:=by
 rw[e];exact aO8 h G [150,151] (b1:=true) (b2:=true) st d
def aGo (G:CP t.store v) (st:St) (q r:AV) (n:Int):eE st (bd (pD t q r n))=cT (cO st q) fun x=>cT (cO st r) fun y=>some (bd (pD t x y n)):=by
 cases J:cO st q with
 | some x=>cases h2:cO st r with
   | some y=>rw[cC,cC,Kt G J h2]
   | none =>
     have M:∀c∈aB t.store,Flat c:=zf
     rw[dC];simp only[pD,aE,sP,iU M,uD,J,h2,Sw,lS,cC]
 | none =>
   have M:∀c∈aB t.store,Flat c:=zf
   rw[dC];simp only[pD,aE,sP,iU M,uD,J,Sw,lS,cC]
def Nz (t:State) (q r:AV) (n:Int):(pD t q r n).fX=q/\(pD t q r n).iB=r/\(pD t q r n).cI=n:=⟨rfl,rfl,rfl⟩
def a3T (h:TD t v Q R) (q:Option (List Request)) (n:Int) (N:((ol q).length:Int)<900000) (r:bU) (fl:Bool) (st:St) (d:Option Nat):oK (aA prog) 144 (some [bd (pD t (ov aC q) (ov aC R) n),.agg (aW r)]) fl st d=some { dst:=d,val:=ae (decide (wG v.ns r))} :=
 Ee (a3S (t:=pD t (ov aC q) (ov aC R) n) ⟨h.sd,rfl,rfl,N,h.nR⟩ r)
def c72 (h:TD t v Q R) (G:CP t.store v) (L:Option (List bU)) (hn:((ol Q).length:Int)+(ol L).length<800000) {b:Int} (hb:0<=b) (C:TB b Q):∃x,aA prog 72 [bd t,ov fN L]=some x/\∃(q:Option (List Request)) (n:Int),x=bd (pD t (ov aC q) (ov aC R) n)/\(ol q).length<=(ol Q).length+(ol L).length/\TB b q:=by
 have qf:∀(args:List AV) (st:St) (d:Option Nat),aO (aA prog) 144 args st d=oK (aA prog) 144 (bM (args.map (eE st))) (decide (∀x∈args,Flat x)) st d:=fun args st d=>dZ _ _ _ _ _
 have xe:=aGo G
 have zR:cS.due=0:=rfl
 have zT:cS.tries=0:=rfl
 have SX:=fun st=>si h G st 9 rfl
 rw[cL func72 rfl a3U du]
 simp only[Z8,seval,SX,NW];refine bP (fun m st=>∃(k:Nat) (p:Option (List Request)) (n:Int) (s g:Nat),(st.env 10=ov fN L/\st.env 11=aa ((ol L).length)/\st.env 12=aa k/\st.env 4=.ptr 4 0 0/\st.heap 4 0=some (.cells (aE iS))/\st.env 5=.ptr 5 0 0/\st.heap 5 0=some (.cells (aE (pD t (rv s g p) (rv 9 (nK Q) R) n))))/\(∀l,R=some l->st.heap 9 (nK Q)=some (.row 102 35 l.length (aC l)))/\(∀l,p=some l->st.heap s g=some (.row 102 35 l.length (aC l)))/\(s=27/\g<st.aJ 27\/s=9/\g=0/\p=Q)/\(ol p).length<=(ol Q).length+k/\TB b p/\k<=(ol L).length/\m=(ol L).length-k)
  (fun e st=>e=.exit 0/\∃(p:Option (List Request)) (n:Int) (s g:Nat),(st.env 4=.ptr 4 0 0/\st.heap 4 0=some (.cells (aE iS))/\st.env 5=.ptr 5 0 0/\st.heap 5 0=some (.cells (aE (pD t (rv s g p) (rv 9 (nK Q) R) n))))/\(∀l,R=some l->st.heap 9 (nK Q)=some (.row 102 35 l.length (aC l)))/\(∀l,p=some l->st.heap s g=some (.row 102 35 l.length (aC l)))/\(s=27\/s=9)/\(ol p).length<=(ol Q).length+(ol L).length/\TB b p) (ol L).length ?step ?start ?rest
 case step =>
  rintro m st ⟨k,p,n,s,g,D,N,hp,hs,W,hB,hk,hm⟩
  by_cases A:(k:Int)<(ol L).length
  case neg =>
   apply oT (.exit 0)
   ·simp only[Z8,seval,D,A];rfl
   ·exact⟨rfl,p,n,s,g,XC,xx,by simpa only[E8,seval] using hp,WF,WF,hB⟩
  have q0:(0:Int)<=k:=WF
  have hw:=wk (k:=k) WF
  have lp:((ol p).length:Int)<900000:=WF
  have M:bg (ol p).length:=WF
  have u:(s=7)=False:=eq_false WF
  have eY:∀S:St,S.heap 9 (nK Q)=st.heap 9 (nK Q)->cO S (rv 9 (nK Q) R)=some (ov aC R):=fun S e=>jU (fun l W=>by rw[e,N l W]) fun l _=>dG l
  have Y:∀S:St,S.heap s g=st.heap s g->cO S (rv s g p)=some (ov aC p):=fun S e=>jU (fun l W=>by rw[e,hp l W]) fun l _=>dG l
  have aKu:=fun r=>a3T h p n lp r
  by_cases ho:wG v.ns (gx bQ (ol L) (k:Int))
  case neg =>
   apply oN ((ol L).length-(k+1))
   ·simp only[Z8,seval,D,A,q0,qf,xe,Y,eY,u,aKu,ho,decide_false,hw];rfl
   ·exact⟨k+1,p,n,s,g,XC,xx,by simpa only[E8,seval,u] using hp,by simpa only[E8,seval] using hs,WF,hB,WF,rfl⟩
  cases p with
  | none =>
    rw[nJ] at D;have Y:∀S:St,cO S af=some (ov aC (none:Option (List Request))):=fun _=>bY (.v _)
    apply oN ((ol L).length-(k+1))
    ·simp only[Z8,seval,D,A,q0,qf,xe,Y,eY,u,aKu,ho,decide_true,Nz,zR,zT,hw];rfl
    ·exact⟨k+1,some [⟨⟨n⟩,gx bQ (ol L) k,0,0⟩],u64.wrap (n+1),27,st.aJ 27,qd,xx,fun l e=>wz,.inl ⟨rfl,Yo⟩,by show 1<=(ol Q).length+(k+1);omega,.one ⟨Int.le_refl _,hb⟩,WF,rfl⟩
  | some l =>
    have J:=hp l rfl
    rw[iL] at D;have Y:∀S:St,S.heap s g=st.heap s g->cO S (.own s g)=some (ov aC (some l)):=Y
    rw[dK] at *
    rcases hs with ⟨rfl,hg⟩|⟨rfl,rfl,C⟩
    ·have vO:(g=st.aJ 27)=False:=eq_false WF
     have hgn':(st.aJ 27=g)=False:=eq_false WF
     apply oN ((ol L).length-(k+1))
     ·simp only[Z8,seval,D,A,q0,qf,xe,Y,eY,u,aKu,ho,decide_true,Nz,zR,zT,J,mS _ _ _ _ M,hw];rfl
     ·exact⟨k+1,some (l++[⟨⟨n⟩,gx bQ (ol L) k,0,0⟩]),u64.wrap (n+1),27,st.aJ 27,qd,xx,fun l e=>wz,.inl ⟨rfl,Yo⟩,zg,hB.snoc ⟨Int.le_refl _,hb⟩,WF,rfl⟩
    ·have X:(nK Q=0)=False:=eq_false (by rw[<- C];exact Nat.one_ne_zero)
     apply oN ((ol L).length-(k+1))
     ·simp only[Z8,seval,D,A,q0,qf,xe,Y,eY,u,aKu,ho,decide_true,Nz,zR,zT,J,mS _ _ _ _ M,hw];rfl
     ·exact⟨k+1,some (l++[⟨⟨n⟩,gx bQ (ol L) k,0,0⟩]),u64.wrap (n+1),27,st.aJ 27,qd,by simpa only[E8,seval,X] using N,fun l e=>wz,.inl ⟨rfl,Yo⟩,zg,hB.snoc ⟨Int.le_refl _,hb⟩,WF,rfl⟩
 case start =>
  refine⟨0,Q,t.cI,9,0,by simp only[E8,seval,NW,Nat.zero_add]<;>and_intros<;>rfl,fun l e=>?_,fun l e=>?_,.inr ⟨rfl,rfl,rfl⟩,WF,C,WF,WF⟩
  ·simp only[E8,seval,NW,true_and,Nat.zero_le,Nat.sub_zero,(AM (Q:=Q) l e).1,if_true,(AM (Q:=Q) l e).2]
  ·simp only[E8,seval,NW,true_and,Nat.zero_le,Nat.sub_zero,(Tl (R:=R) l e).1,if_true,(Tl (R:=R) l e).2.1]
 case rest =>
  rintro e st ⟨rfl,p,n,s,g,D,N,hp,hs,W,hB⟩
  simp only[Z8,seval,D];have n4:((9:Nat)=4)=False:=eq_false ZB
  have s4:(s=4)=False:=eq_false WF
  exact⟨_,jE rfl Wl (cs:=aE (pD t (rv s g p) (rv 9 (nK Q) R) n)) xk (Kt G (jU (e:=102) (sz:=35) (fun l e=>by simp only[E8,seval,s4,hp l e]) fun l _=>dG l) (jU (e:=102) (sz:=35) (fun l e=>by simp only[E8,seval,n4,N l e]) fun l _=>dG l)),p,n,rfl,W,hB⟩
def a3V {ns:List Node} (D:t.store.tree=⟨.sl ns.length (bS ns)⟩) (M:bg ns.length) (x:Request):aA prog 137 [ay x,.ip (aE t) 0]=some (ae (decide (aD ns x.block<0))):=by
 rw[cL func137 rfl aWx rfl];refine eM ?_
 by_cases g:aD ns x.block<0
 ·simp only[Z8,seval,D,lX _ _ M,g,decide_true];exact⟨_,bE rfl,rfl⟩
 ·simp only[Z8,seval,D,lX _ _ M,g,decide_false];exact⟨_,bE rfl,rfl⟩
def NI (y:AV):Prop:=∀a o,y≠.ip a o
def NI.mem {y:AV} (h:cZ y):NI y:=fun a o e=>by rw[e] at h;cases h
def aGp {c y:AV} (h:cO st c=some y) (Y:NI y):sS st c=some y:=by
 by_cases W:Flat c
 ·rw[bY W] at h;rw[p8 W,h]
 unfold cO at h;rw[if_neg W] at h;unfold sS;rw[if_neg W];cases c with
 | own s g=>exact h
 | vw s g o n=>exact h
 | ptr s g o =>
   simp only at h
   split at h
   ·rename_i cs _;cases h2:bM (cs.map (sS st)) with
    | none=>rw[h2] at h;cases h
    | some ds=>rw[h2] at h;exact absurd (Option.some.inj h).symm (Y ds o)
   ·cases h
 | _=>first|exact h|cases h
def Na {st:St}:∀ {cs ys:List AV},Rp st cs=some ys->(∀y∈ys,NI y)->bM (cs.map (sS st))=some ys
 | [],ys,h,_=>by
   have:ys=[]:=by simpa [Rp,bM] using h.symm
   rw[this];rfl
 | c :: cs,ys,h,Y=>by
   unfold Rp at h;rw[map_cons] at h;cases J:cO st c with
   | none=>rw[J] at h;cases h
   | some y =>
     rw[J] at h;simp only[bM] at h;cases h2:bM (cs.map (cO st)) with
     | none=>rw[h2] at h;cases h
     | some D =>
       rw[h2] at h;have e:ys=y :: D:=(Option.some.inj h).symm
       subst e;rw[map_cons,aGp J (Y y qe)]
       have S:=Na (st:=st) (cs:=cs) (ys:=D) h2 (fun z R=>Y z ct)
       simp only[bM,S,cR]
def Iw (c:List α->List AV) (o:Option (List α)):NI (ov c o):=by
 cases o<;>exact fun a o e=>by cases e
def Qe {a b:List AV} (J:∀y∈a,NI y) (h2:∀y∈b,NI y):∀y∈a++b,NI y:=fun y Y=>(mem_append.1 Y).elim (J y) (h2 y)
def aGq {x:AV} (h:NI x):∀y∈[x],NI y:=fun y Y=>by rw[mem_singleton.1 Y];exact h
def aPh {l:List AV} (h:∀y∈l,cZ y):∀y∈l,NI y:=fun y Y=>.mem (h y Y)
def aGr (hs:SD t.store v) {q r:AV} {n:Int} (N:NI q) (X:NI r):∀y∈aE (pD t q r n),NI y:=by
 have M:∀y∈aB t.store,NI y:=by
  have:=Kq (P:=NI) (fun _=>.mem) t.store (b:=t.store.cFg.fL) (l:=t.store.dI.cJ) (q:=t.store.dI.dM) (e:=t.store.bH.early) (o:=t.store.bH.bL) (n:=t.store.tree.nodes) (t:=t.store.tables) (hs.fL ▸ Iw _ _) (hs.cJ ▸ Iw _ _) (hs.dM ▸ Iw _ _) (hs.early ▸ Iw _ _) (hs.bL ▸ Iw _ _) (by rw[hs.tree];exact fun a o e=>bz) (hs.tables ▸ Iw _ _)
  exact this
 have f {x:List AV} (p:∀c∈x,cZ c):∀c∈x,NI c:=aPh p
 exact Qe M (Qe (aGq N) (Qe (aGq X) (Qe (f (Bx _)) (Qe (f (Nb _)) (Qe (f (Tm _)) (Qe (f (Nb _)) (f (Nb _))))))))
def Pb (st:St) (g:Nat) (Q:Option (List Request)):Prop:=∀l,Q=some l->∃M:List Request,st.heap 6 g=some (.row 102 35 M.length (aC M))
def Pb.ex (h:Pb st g Q):∃q,cO st (rv 6 g Q)=some q/\NI q/\Flat q:=by
 cases Q with
 | none=>exact⟨_,bY (.v _),(fun a o e=>bz),.v _⟩
 | some l=>obtain⟨M,e⟩:=h l rfl;exact⟨_,Go.Ab.lR e (dG M),(fun a o e=>bz),.sl _ _ (dG M)⟩
def KD (t:State) (Q R:Option (List Request)) (gq gr:Nat) (st:St):Prop:=st.heap 3 0=some (.cells (aE (pD t (rv 6 gq Q) (rv 6 gr R) t.cI)))/\Pb st gq Q/\Pb st gr R
theorem KD.ip (G:CP t.store v) (h:KD t Q R gq gr st):∃T:State,T.store=t.store/\Flat (bd T)/\bM ((aE (pD t (rv 6 gq Q) (rv 6 gr R) t.cI)).map (sS st))=some (aE T):=by
 obtain⟨h1,S,h4⟩:=h
 obtain⟨q,N,nq,A⟩:=S.ex
 obtain⟨r,X,nr,fr⟩:=h4.ex
 obtain⟨l,a2,a3,a4,a5,D,a7⟩:=G.sd.fl
 exact⟨pD t q r t.cI,rfl,(qM _).2 ⟨l,a2,a3,a4,a5,D,a7,A,fr⟩,Na (aNx G N X) (aGr G.sd nq nr)⟩
theorem KD.ok (t:State) (Q R:Option (List Request)) (gq gr g:Nat) {N:Option (List Request)}:KOk (KD t Q R gq gr) 6 g 102 35 (fun n C=>N.isSome=true/\∃M:List Request,n=M.length/\M.length=(ol N).length/\C=M.flatMap cE/\∀y∈M,∀x∈cE y,Flat x):=by
 refine⟨fun st d v=>by simp only[KD,Pb,GB],fun st x=>by simp[KD,Pb,Fy],fun st h x=>by simp[KD,Pb,qV],fun x st=>by simp only[KD,Pb,aN], ?_⟩
 rintro st n C ⟨_,M,rfl,_,rfl,_⟩ ⟨J,S,h4⟩
 have hr:∀(k:Nat) (X:Option (List Request)),Pb st k X->Pb (St.gV st 6 g (some (.row 102 35 M.length (M.flatMap cE)))) k X:=fun k X h l W=>by
  by_cases e:k=g
  ·exact⟨M,by simp[qV,e];rfl⟩
  ·obtain⟨M2,h⟩:=h l W;exact⟨M2,by simp[qV,e,h]⟩
 exact⟨by simp[qV,J],hr _ _ S,hr _ _ h4⟩
def aGs (hT:TD t v Q R) (G:CP t.store v) (o:Option (List Request)) (M:bg (ol o).length) (p:St) (pX:KD t Q R gq gr p) (u:∀L,o=some L->g<p.aJ 6/\p.heap 6 g=some (.row 102 35 L.length (aC L))) :
 ∃X st',oX prog 138 [rv 6 g o,.rL 137 [.ptr 3 0 0]] p=some (X,st')/\∃g',X=rv 6 g' o/\yQ 6 g p st'/\∀L,o=some L->(g'=g\/p.aJ 6<=g')/\g'<st'.aJ 6/\st'.heap 6 g'=some (.row 102 35 (kX v.ns L).length (aC (kX v.ns L))):=by
 have kf:∀(T:State),T.store=t.store->∀x:Request,aA prog 137 [ay x,.ip (aE T) 0]=some (ae (decide (aD v.ns x.block<0))):=fun T m x=>a3V (by rw[m];exact hT.sd.tree) hT.sd.nn x
 obtain⟨g',st',J,h2,S⟩:=aWs (U:=212) (I:=205) xI func138 WP rfl WP rfl rfl rfl cS o M (fun y _=>eD y) (fun x=>decide (aD v.ns x.block<0)) 137 6 g 3 0 ZB (KD t Q R gq gr) (KD.ok t Q R gq gr g)
  (fun x _ st d h=>by
   obtain⟨T,m,fT,e2⟩:=h.ip G
   have C:eE st (.ptr 3 0 0)=some (.ip (aE T) 0):=by
    unfold eE;rw[if_neg (sQ 3 0 0)];show cO st (.ptr 3 0 0)=_
    unfold cO;rw[if_neg (sQ 3 0 0)];simp only[h.1,e2,cR]
   rw[dZ,singleton_append,map_cons,map_cons,map_nil,cV (.agg _ (eD x)),C,aM,aM,dB];exact Ee (kf T m x))
  (fun st d h l=>by
   obtain⟨T,m,fT,e2⟩:=h.ip G
   have A:Flat (.ip (aE T) 0):=.ip _ _ (by cases fT with|agg _ h=>exact h)
   rw[dZ,map_cons,map_cons,map_nil,aBy l (fun y _=>eD y),kM,h.1,show Fx st (some (.cells (aE (pD t (rv 6 gq Q) (rv 6 gr R) t.cI)))) 0=some (.ip (aE T) 0) from by unfold Fx;simp only[e2,cR],Option.map_some,aM,aM,dB]
   exact zP (aWh o M 137 [.ip (aE T) 0] (fun x=>decide (aD v.ns x.block<0)) (fun x _ st d=>aX (aU (.agg _ (eD x)) A) (kf T m x) (.v _)))) p pX u
 have Y:∀L:List Request,(L.filter fun x=>!(fun x:Request=>decide (aD v.ns x.block<0)) x)=kX v.ns L:=fun L=>by
  unfold kX;congr 1
  funext x
  simp only[<- decide_not,Int.not_lt]
 refine⟨_,st',J,g',rfl,h2,fun L h=>?_⟩
 have:=S L h
 rwa [Y] at this
def aPi:aP 0 2 1/\aP 1 4 5/\aP 2 2 7/\aP 3 6 8/\aP 4 6 13/\aP 5 2 18:=⟨rfl,rfl,rfl,rfl,rfl,rfl⟩
def aGt {f:List Request->List Request} (h:∀l,Q=some l->st.heap 6 g=some (.row 102 35 (f l).length (aC (f l)))):cO st (rv 6 g Q)=some (ov aC (Q.map f)):=by
 cases Q with
 | none=>exact bY (.v _)
 | some l=>exact Go.Ab.lR (h l rfl) (dG _)
def c70 (h:TD t v Q R) (G:CP t.store v):aA prog 70 [bd t]=some (bd (pD t (ov aC (Q.map fun l=>kX v.ns l)) (ov aC (R.map fun l=>kX v.ns l)) t.cI)):=by
 have N:=fun st=>si h G st 6 rfl
 have nQ:bg (ol Q).length:=dm
 have r:bg (ol R).length:=by have:=h.nR;omega
 obtain⟨g0,e0,en,es⟩:∃g0,rv 6 0 Q=rv 6 g0 Q/\nK Q≠g0/\∀l,Q=some l->g0=0:=by
  cases Q with
  | none=>exact⟨1,rfl,ZB,nofun⟩
  | some l=>exact⟨0,rfl,by show 1≠0;decide,fun _ _=>rfl⟩
 have u1:∀a b c,({ pD t a b t.cI with fX:=c }:State)=pD t c b t.cI/\({ pD t a b t.cI with iB:=c }:State)=pD t a c t.cI:=fun a b c=>⟨rfl,rfl⟩
 rw[cG func70 rfl a3W WP rfl]
 refine eM ?_
 simp only[ZG,seval,aPi,N,NW,e0,Nat.zero_add,Nz];refine tW (fun st X s1=>∃g1,X=rv 6 g1 Q/\yQ 6 g0 st s1/\∀L,Q=some L->(g1=g0\/st.aJ 6<=g1)/\g1<s1.aJ 6/\s1.heap 6 g1=some (.row 102 35 (kX v.ns L).length (aC (kX v.ns L)))) (aGs h G (gq:=g0) (gr:=nK Q) Q nQ _ ⟨?p1,fun l W=>⟨l, ?p3⟩,fun l W=>⟨l, ?p4⟩⟩ fun l W=>⟨?p5, ?p6⟩) ?rest
 case p1=>simp only[E8,seval,NW]<;>rfl
 case p3 =>
  rw[es l W];simp only[E8,seval,NW,true_and,Nat.zero_le,Nat.sub_zero,(Tl (R:=R) l W).1,if_true,(Tl (R:=R) l W).2.1]
 case p6 =>
  rw[es l W];simp only[E8,seval,NW,true_and,Nat.zero_le,Nat.sub_zero,(Tl (R:=R) l W).1,if_true,(Tl (R:=R) l W).2.1]
 case p4=>simp only[E8,seval,NW,true_and,Nat.zero_le,Nat.sub_zero,(AM (Q:=Q) l W).1,if_true,(AM (Q:=Q) l W).2]
 case p5 =>
  rw[es l W];simp only[E8,seval,NW];exact (Tl (R:=R) l W).1
 case rest =>
  rintro X st' ⟨g1,rfl,u,p⟩
  have C:st'.heap 3 0=some (.cells (aE (pD t (rv 6 g0 Q) (rv 6 (nK Q) R) t.cI))):=(u.1 3 0 wc WF).trans qq
  have M:st'.heap 2 0=some (.cells (aE iS)):=(u.1 2 0 wc WF).trans qq
  have m:∀l,R=some l->st'.heap 6 (nK Q)=some (.row 102 35 l.length (aC l))/\nK Q<st'.aJ 6:=fun l W=>⟨(u.1 6 (nK Q) Qb5 (fun e=>en e.2)).trans (by simp only[E8,seval,NW,true_and,Nat.zero_le,Nat.sub_zero,(AM (Q:=Q) l W).1,if_true,(AM (Q:=Q) l W).2]),Nat.lt_of_lt_of_le Qb5 (u.2 6)⟩
  have g2:0<st'.aJ 2:=Nat.lt_of_lt_of_le wc (u.2 2)
  have g3:0<st'.aJ 3:=Nat.lt_of_lt_of_le wc (u.2 3)
  have p:∀L,Q=some L->(g1=0\/(qR Q R).length<=g1)/\g1<st'.aJ 6/\st'.heap 6 g1=some (.row 102 35 (kX v.ns L).length (aC (kX v.ns L))):=fun L W=>by
   have:=p L W
   rw[es L W] at this;simp only[E8,seval,NW,Nat.zero_add] at this;exact this
  clear u
  obtain⟨r0,A,en1,es1⟩:∃r0,rv 6 (nK Q) R=rv 6 r0 R/\(∀l,Q=some l->g1≠r0)/\∀l,R=some l->r0=nK Q:=by
   cases R with
   | none=>exact⟨g1+1,rfl,fun _ _=>WF,nofun⟩
   | some l=>exact⟨nK Q,rfl,fun l' W=>by have:=(p l' W).1;have:=(Tl (R:=some l) l' W).2.2;have:=(AM (Q:=Q) l rfl).1;omega,fun _ _=>rfl⟩
  have m:∀l,R=some l->st'.heap 6 r0=some (.row 102 35 l.length (aC l))/\r0<st'.aJ 6:=fun l W=>by rw[es1 l W];exact m l W
  rw[A] at C;simp only[ZG,seval,aPi,NW,bV,aN,aV,C,M,Bm,Mj,length_singleton,u1,Nz];refine tW (fun st X s2=>∃g2,X=rv 6 g2 R/\yQ 6 r0 st s2/\∀L,R=some L->(g2=r0\/st.aJ 6<=g2)/\g2<s2.aJ 6/\s2.heap 6 g2=some (.row 102 35 (kX v.ns L).length (aC (kX v.ns L)))) (aGs h G (gq:=g1) (gr:=r0) R r _ ⟨?p1,fun l W=>⟨kX v.ns l, ?p3⟩,fun l W=>⟨l, ?p4⟩⟩ fun l W=>⟨?p5, ?p6⟩) ?rest
  case p1=>simp only[E8,seval,NW,bV,aN,aV,C]<;>rfl
  case p3=>simp only[E8,seval,NW,bV,aN,aV];exact (p l W).2.2
  case p4=>simp only[E8,seval,NW,bV,aN,aV];exact (m l W).1
  case p5=>simp only[E8,seval,NW,bV,aN,aV];exact (m l W).2
  case p6=>simp only[E8,seval,NW,bV,aN,aV];exact (m l W).1
  case rest =>
   rintro Y S ⟨D,rfl,J,ZH⟩
   have a3:S.heap 3 0=some (.cells (aE (pD t (rv 6 g1 Q) (rv 6 r0 R) t.cI))):=(J.1 3 0 (by simp only[E8,seval,NW,bV,aN,aV];exact g3) WF).trans (by simp only[E8,seval,NW,bV,aN,aV,C]<;>rfl)
   have a2:S.heap 2 0=some (.cells (aE iS)):=(J.1 2 0 (by simp only[E8,seval,NW,bV,aN,aV];exact g2) WF).trans (by simp only[E8,seval,NW,bV,aN,aV,M]<;>rfl)
   have aQ:∀l,Q=some l->S.heap 6 g1=some (.row 102 35 (kX v.ns l).length (aC (kX v.ns l))):=fun l W=>(J.1 6 g1 (by simp only[E8,seval,NW,bV,aN,aV];exact (p l W).2.1) (fun e=>en1 l W e.2)).trans (by simp only[E8,seval,NW,bV,aN,aV];exact (p l W).2.2)
   have aR:=fun l W=>(ZH l W).2.2
   clear J
   simp only[ZG,seval,aPi,NW,bV,aN,aV,a3,a2,Bm,Mj,length_singleton,u1,Nz];exact⟨_,jE rfl (by simp only[E8,seval,NW,bV,aN,aV]<;>rfl) (cs:=aE (pD t (rv 6 g1 Q) (rv 6 D R) t.cI)) (by simp only[Z8,seval,NW,bV,aN,aV,a3,a2,Bm,u1,Nz]<;>rfl) (Kt G (aGt fun l W=>by simp only[E8,seval,NW,bV,aN,aV];exact aQ l W) (aGt fun l W=>by simp only[E8,seval,NW,bV,aN,aV];exact aR l W)),rfl⟩
def a3X (o:Option (List Int)) (hn:((ol o).length:Int)<=1000) (hb:∀x∈ol o,0<=x/\x<=1000):∃a:Int,aA prog 184 [ov bD o]=some (.cY [ac a,ae true]):=by
 suffices h:∃r,aA prog 184 [ov bD o]=some r/\∃a:Int,r=.cY [ac a,ae true] by
  grind
 rw[cL func184 rfl aNz wa]
 simp only[Z8,seval];refine bP (fun m st=>∃(k:Nat) (a:Int),(st.env 7=ov bD o/\st.env 4=ac a/\st.env 8=aa ((ol o).length)/\st.env 9=aa k)/\(0<=a/\a<=1000 * k)/\k<=(ol o).length/\m=(ol o).length-k)
  (fun e st=>e=.exit 0/\∃a:Int,st.env 4=ac a) (ol o).length ?step ?start ?rest
 case step =>
  rintro m st ⟨k,a,D,ha,hk,hm⟩
  by_cases A:(k:Int)<(ol o).length
  ·obtain ⟨q0,hw⟩ := yY k
   have N:=hb _ (lB (z:=(0:Int)) q0 A)
   obtain⟨x,ex⟩:∃x,gx (0:Int) (ol o) (k:Int)=x:=⟨_,rfl⟩
   rw[ex] at N;have u:u64.wrap (4611686018427387904-a)=4611686018427387904-a:=wrap_u64 _ WF WF
   have X:u64.wrap (a+x)=a+x:=wrap_u64 _ WF WF
   have W:(4611686018427387904-a<x)=False:=eq_false WF
   apply oN ((ol o).length-(k+1))
   ·simp only[Z8,seval,D,A,q0,ex,u,X,W,hw];rfl
   ·exact⟨k+1,a+x,XC,WF,WF,rfl⟩
  ·apply oT (.exit 0)
   ·simp only[Z8,seval,D,A];rfl
   ·exact⟨rfl,a,XC⟩
 case start=>exact⟨0,0,yj,WF,WF,WF⟩
 case rest =>
  rintro e st ⟨rfl,a,h⟩
  simp only[Z8,seval,h];exact⟨_,bT rfl rfl rfl qm qm,_,rfl⟩
def a3Y (t:Table) (b:Option (List Int)) (D:t.fL=ov bD b) (M:((ol b).length:Int)<=1000) (hb:∀x∈ol b,0<=x/\x<=1000):aA prog 112 [ax t,aa ((ol b).length)]=some (aa 0):=by
 obtain⟨a,X⟩:=a3X b M hb
 have A:=kx X (bZ (cP b)) (.cY _ (aU (.v _) (.v _)))
 rw[cL func112 rfl aNA rfl];refine eM ?_
 simp only[Z8,seval,D,bt (rfl:((ol b).length:Int)=(ol b).length),A,bW];exact⟨_,bE rfl Wl XG,rfl⟩
def a3Z (x a b:Int) (h:a<=x/\x<=b):aA prog 110 [aa x,aa a,aa b]=some (ae true):=by
 rw[cL func110 rfl aWy rfl];refine eM ?_
 simp only[Z8,seval,h.1,h.2];exact⟨_,bE rfl Wl XG,rfl⟩
def c61 {c:Config} {b:List Int} (h:sZ c b):aA prog 61 [aq c]=some (aa 0):=by
 obtain⟨N,hnb,m,hspe,hbp,J,h2,S,X,C,r,A,_⟩:=h
 have hg:c.fR≠bQ:=by rw[A];exact aBl
 have f1:(c.iH<1)=False:=eq_false WF
 have f2:(64<c.iH)=False:=eq_false WF
 have f3:(100<c.pO)=False:=eq_false WF
 have f4:((1024:Int)<(b.length:Int))=False:=eq_false WF
 have kw:=fun x a b h=>kx (a3Z x a b h) (jC (.v _) (.v _) (.v _)) (.v _)
 have D:∀(st:St) (d:Option Nat),aO (aA prog) 112 [ax ⟨fW.ck,ov bD (some b)⟩,aa b.length] st d=some { dst:=d,val:=aa 0}:=kx (a3Y ⟨fW.ck,ov bD (some b)⟩ (some b) rfl Qbp m) (aU ((iQ ⟨fW.ck,ov bD (some b)⟩).2 (cP (some b))) (.v _)) (.v _)
 rw[cL func61 rfl a30 rfl];refine eM ?_
 simp only[Z8,seval,mF,mG,N,f1,f2,f3,f4,kw _ _ _ J,kw _ _ _ h2,kw _ _ _ S,kw _ _ _ X,kw _ _ _ C,r.1,r.2,vH,decide_eq_false hg,D];exact⟨_,bE rfl Wl XG,rfl⟩
def c62 (b:Block) (n:Int):aA prog 62 [ah b,aa n]=some (ak ⟨[⟨b,-1,n⟩]⟩):=by
 rw[cL func62 rfl a33 rfl];refine eM ?_
 simp only[Z8,seval];exact⟨_,by apply jE;rfl;all_goals simp only[aI,Z8,seval,eG,aKw]<;>rfl,by simp[bN,bS]⟩
def SY (st:St) (ns:List Node) (hi D:Operand) (h1:st.ev hi=aa ns.length) (h2:st.ev D=aa ns.length):tX prog st 47 (.sl ns.length (bS ns)) none hi D=some (.cl ns.length (bS ns)):=by
 have hl:(bS ns).length=ns.length * 240:=qe
 grind [tX,LH]
def a34 (ns:List Node):aA prog 283 [.sl ns.length (bS ns)]=some (.cl ns.length (bS ns)):=by
 rw[cL func283 rfl aWz rfl];simp only[Z8,seval,SY];exact bE rfl qb (.cl _ _ (iG ns))
def a38 (ns:List Node):KC 283 [.sl ns.length (bS ns)] (.cl ns.length (bS ns)):=fun _ _=>aX (bZ (.sl _ _ (iG ns))) (a34 ns) (.cl _ _ (iG ns))
def a39 (x:Int):aA prog 282 [aa x]=some (ae (Hc x)):=by
 rw[cL func282 rfl aWA rfl];refine eM ?_
 by_cases h0:0<=x<;>by_cases J:x<=2
 all_goals
  simp only[Z8,seval,h0,J];exact⟨_,bE rfl Wl XG,by simp[Hc,h0,J]⟩
def gn (x:Int):KC 282 [aa x] (ae (Hc x)):=fun _ _=>aX (bZ (.v _)) (a39 x) (.v _)
def a4a (ns:List Node) (M:bg ns.length) (b:Block) (s:Int):aA prog 209 [ak ⟨ns⟩,ah b,aa s]=some (uK ns b s):=by
 rw[cL func209 rfl aWB rfl];have hu:=cB ns b.parent
 cases hs:Hc s
 ·simp only[Z8,seval,gn,hs];rw[show uK ns b s=.cY [.agg [af],aa 2] from by simp[uK,Nw,hs]]
  exact bT rfl qy qn Wl Wl
 by_cases J:0<=aD ns b.root
 ·simp only[Z8,seval,gn,hs,lX,M,J];rw[show uK ns b s=.cY [.agg [af],aa 9] from by simp[uK,Nw,hs,J]]
  exact bT rfl qy qn Wl Wl
 by_cases h2:aD ns b.parent<0
 ·simp only[Z8,seval,gn,hs,lX,M,J,h2];rw[show uK ns b s=.cY [.agg [af],aa 10] from by simp[uK,Nw,hs,J,h2]]
  exact bT rfl qy qn Wl Wl
 have m:0<=aD ns b.parent:=WF
 have W:aD ns b.parent<ns.length:=hu.2
 by_cases S:b.slot<=(nd ns (aD ns b.parent)).block.slot
 ·simp only[Z8,seval,gn,hs,lX,M,J,h2,m,W,S];rw[show uK ns b s=.cY [.agg [af],aa 14] from dt]
  exact bT rfl qy qn Wl Wl
 by_cases X:4096<=(ns.length:Int)
 ·simp only[Z8,seval,gn,hs,lX,M,J,h2,m,W,S,X];rw[show uK ns b s=.cY [.agg [af],aa 11] from dt]
  exact bT rfl qy qn Wl Wl
 ·simp only[Z8,seval,gn,hs,lX,M,J,h2,m,W,S,X,a38];rw[show uK ns b s=.cY [ak ⟨ns++[⟨b,aD ns b.parent,s⟩]⟩,aa 0] from dt]
  exact bT rfl qy qn Wl Wl
def a4b (b:Block):aA prog 210 [ah b]=some (aa (if b.eQ=bQ then 1 else 0)):=by
 rw[cL func210 rfl aWC rfl];refine eM ?_
 by_cases h:b.eQ=bQ
 ·simp only[Z8,seval,vH,h,decide_true];exact⟨_,bE rfl Wl XG,zu⟩
 ·simp only[Z8,seval,vH,h,decide_false];exact⟨_,bE rfl Wl XG,zu⟩
structure KI (s:aF) (v:SV) (q:Int):Prop where
 gi:GI s v q
 rg:RG0 s v
 fL:0<(ol v.B).length
 es:(∀a∈ol v.E,Rg a.slot)/\∀t∈ol v.T,∃B:Option (List Int),t.fL=ov bD B/\(ol B).length=(ol v.B).length
theorem KI.nB (k:KI s v q):v.B≠some []:=fun e=>by have:=k.fL;rw[e] at this;exact Nat.lt_irrefl _ this
def KI.L {s:aF} {v:SV} {q:Int} (k:KI s v q):∃L,v.L=some L/\0<L.length:=by
 have h:=k.gi.Wg
 have h0:=k.fL
 cases e:v.L with
 | none=>rw[e] at h;have h:0=(ol v.B).length:=h;omega
 | some L=>rw[e] at h;have h:L.length=(ol v.B).length:=h;exact⟨L,rfl,WF⟩
theorem KI.nL (k:KI s v q):v.L≠some []:=fun e=>by
 obtain⟨L,h,h0⟩:=k.L
 rw[e] at h;cases h;exact Nat.lt_irrefl _ h0
def KI.cp (k:KI s v q):CP s v:=⟨k.gi.sd,k.rg.ne,k.nB,k.nL,k.gi.pos⟩
def aBA (s:aF) (v:SV) (c1 c2:dH):(mU s v c1 c2).B=v.B/\(mU s v c1 c2).L=v.L:=by
 unfold mU;split
 ·exact⟨rfl,rfl⟩
 split<;>exact⟨rfl,rfl⟩
def aGu (s:aF) (v:SV) (a b:dH):(mU s v a b).E=v.E:=by unfold mU;split;rfl;split<;>rfl
def aPj (s:aF) (v:SV) (a b:dH):∀t∈ol (mU s v a b).T,t∈ol v.T:=by
 unfold mU;split
 ·exact fun t h=>h
 split<;>exact fun t h=>by rw[mE] at h;exact (mem_filter.1 h).1
theorem KI.dE {s:aF} {v:SV} {q:Int} (k:KI s v q) {c1 c2:dH} (G:Rg c1.aG) (C:Rg c2.aG):KI (SW s v c1 c2) (LG s v c1 c2) q:=by
 have h:=sh s v c1 c2
 have g:=k.rg.dE G C
 refine⟨(k.gi.dE c1 c2).al h.1 h.2,g.al h.1 h.2 fun e=>?_,(aBA s v c1 c2).1 ▸ k.fL,⟨(aGu s v c1 c2) ▸ k.es.1,fun t D=>(aBA s v c1 c2).1 ▸ k.es.2 t (aPj s v c1 c2 t (h.2 ▸ D))⟩⟩
 obtain⟨t,D,_⟩:=g.tb
 rw[<- h.2,e] at D;cases D
def KI.uJ {s:aF} {v:SV} {q:Int} (k:KI s v q) {b:Block} (rb:RB b/\Pr b.root) (G:sW s v b=0):KI (Tryz.uJ s v b) (tQ v b) q:=⟨k.gi.uJ (Hd k.gi G).2.1 (Hd k.gi G).2.2,k.rg.uJ k.gi rb G,k.fL,k.es⟩
def Tn (s:aF) (v:SV) (b:Block):aF:=SW (uJ s v b) (tQ v b) b.dX b.fin
def jy (s:aF) (v:SV) (b:Block):SV:=LG (uJ s v b) (tQ v b) b.dX b.fin
def SZ (s:aF) (v:SV) (b:Block):aF:=if pY s b.slot<pY s s.now then SW (Tn s v b) (jy s v b) b.dA.pj b.dA.pf else Tn s v b
def Qf (s:aF) (v:SV) (b:Block):SV:=if pY s b.slot<pY s s.now then LG (Tn s v b) (jy s v b) b.dA.pj b.dA.pf else jy s v b
def KI.in1 (k:KI s v q) (rb:RB b/\Pr b.root) (G:sW s v b=0):KI (Tn s v b) (jy s v b) q:=(k.uJ rb G).dE rb.1.j rb.1.f
def KI.ins (k:KI s v q) (rb:RB b/\Pr b.root) (G:sW s v b=0):KI (SZ s v b) (Qf s v b) q:=by
 unfold SZ Qf;split
 ·exact (k.in1 rb G).dE rb.1.pj rb.1.pf
 ·exact k.in1 rb G
def Zf (o:Option α) (a g:Nat) (st:St):St:=match o with
 | none=>st
 | some _=>st.gV a g none
def iX (o:Option α) (a g:Nat) (st:St) (t:Nat):(Zf o a g st).env t=st.env t:=wa
def jK (o:Option α) (a g:Nat) (st:St) (t:Nat):(Zf o a g st).aJ t=st.aJ t:=wa
def jX (o:Option α) {a s x:Nat} (st:St) (h:¬s=a):(Zf o a g st).heap s x=st.heap s x:=by
 cases o with
 | none=>rfl
 | some y=>simp only[Zf,qV,h,false_and,if_false]
def gw (o:Option α) (a g:Nat):Option (Nat × Nat × Option mH):=o.map fun _=>(a,g,none)
def yS (o:Option α) (a g d:Nat) (x:Option Nat) (y:AV) (es:List mH) (st:St):({ dst:=x,val:=y,dE:=gw o a g,new:=Sl d es }:rI).apply st=((Zf o a g st).news d es).put x y:=by
 cases o with
 | none=>exact OM x y d es st
 | some z =>
   by_cases h:es=[]
   ·subst h;rw[Bl];rfl
   ·simp only[gw,Sl,if_neg h];rfl
def aPk {S:aF} (hs:SD s v) {a k d:Nat} {xs:List AV} {l l' m:List Nat} (M:Flat (bc ({ S with bH:={ S.bH with bL:=ov aK O }}))) (N:∀x∈xs,Flat x)
 (h:aA prog g (bc ({ S with bH:={ S.bH with bL:=ov aK O }}) :: xs)=some (bc (zS s v l))) (hO:∀L,O=some L->st.heap a k=some (.row 66 238 L.length (aK L))) (e:l.filter l'.contains=m:=by rfl) :
 eH (Oo l' (aA prog)) g (bc ({ S with bH:={ S.bH with bL:=rv a k O }}) :: xs) st (some d)=some { dst:=some d,val:=bc (zV s v m d (st.aJ d)),dE:=gw O a k,new:=Sl d (zR v m)}:=by
 subst e;have W:∀x∈(bc ({ S with bH:={ S.bH with bL:=ov aK O }}) :: xs),Flat x:=fun x m=>(mem_cons.1 m).elim (fun e=>e ▸ M) (N x)
 cases O with
 | none=>exact (Sv W).trans (kz hs W h st d)
 | some L =>
   have fl:=(yE _).1 M
   have R:jB (bc ({ S with bH:={ S.bH with bL:=rv a k (some L)} }))=[(a,k)]:=by
    show (aB (Rn S S.cFg.fL S.dI.cJ S.dI.dM S.bH.early (.own a k) S.tree.nodes S.tables)).flatMap gP=_
    rw[qU,dP fl.1,dP fl.2.1,dP fl.2.2.1,dP fl.2.2.2.1,dP fl.2.2.2.2.2.1,dP fl.2.2.2.2.2.2];rfl
   have he:eE st (bc ({ S with bH:={ S.bH with bL:=rv a k (some L)} }))=some (bc ({ S with bH:={ S.bH with bL:=ov aK (some L)} })):=by
    rw[dC,fV];simp only[bY fl.1,bY fl.2.1,bY fl.2.2.1,bY fl.2.2.2.1,bY fl.2.2.2.2.2.1,bY fl.2.2.2.2.2.2,cC,jU hO fun l _=>jA l]
   rw[Hi (by rw[flatMap_cons,R,Pz N];rfl) fun x m=>(mem_cons.1 m).elim (fun e=>?_) fun m=>.inl (N x m),map_cons,he,show bM (some _ :: xs.map (eE st))=some (_ :: xs) from QbV]
   ·unfold Hh;rw[cC,aGd hs l' W h,cC];unfold Dv;rw[T9 (SQ hs _ d _),CI hs];rfl
   ·subst e;exact .inr (.inr ⟨_,rfl,Kq (P:=fun c=>Flat c\/∃s k,c=.own s k) (fun _ h=>.inl (SP h)) S (.inl fl.1) (.inl fl.2.1) (.inl fl.2.2.1) (.inl fl.2.2.2.1) (.inr ⟨a,k,rfl⟩) (.inl fl.2.2.2.2.2.1) (.inl fl.2.2.2.2.2.2)⟩)
def aGw {f:Nat} {fn:Func} {r:ResultVar} {S:aF} {w:SV} {s kO:Nat} (R:Sr f=true) (X:fn.results.toList=[r]) (hs:SD S w)
 (J:bC prog st r=some (bc ({ S with bH:={ S.bH with bL:=rv s kO w.O }}))) (hO:∀l,w.O=some l->st.heap s kO=some (.row 66 238 l.length (aK l))) :
 wY prog f fn (.ret,st)=some (bc (zS S w [114])):=by
 have fl:=hs.fl
 refine Bw (Ws R) (.inl rfl) X J ?_ ?_
 ·show ((aB (Rn S S.cFg.fL S.dI.cJ S.dI.dM S.bH.early (rv s kO w.O) S.tree.nodes S.tables)).flatMap gP).Nodup
  rw[qU,dP fl.1,dP fl.2.1,dP fl.2.2.1,dP fl.2.2.2.1,dP fl.2.2.2.2.2.1,dP fl.2.2.2.2.2.2,xH];cases w.O<;>simp
 ·refine (Bc (Hp S (b:=S.cFg.fL) (l:=S.dI.cJ) (q:=S.dI.dM) (e:=S.bH.early) (o:=rv s kO w.O) (n:=S.tree.nodes) (t:=S.tables) (if_pos fl.1) (if_pos fl.2.1) (if_pos fl.2.2.1) (if_pos fl.2.2.2.1) (lC (e:=66) (sz:=238) hO fun l _=>jA l) (if_pos fl.2.2.2.2.2.1) (if_pos fl.2.2.2.2.2.2))).trans ?_
  simp only[zS,pk,Rn,List.contains_cons,contains_nil,Nat.reduceBEq,Bool.or_false,Bool.or_true,Bool.false_or,Bool.true_or,cond_false,cond_true,<- hs.fL,<- hs.cJ,<- hs.dM,<- hs.early,<- hs.tables,Pa hs]
def aWD (k:KI s v q) (rb:RB b/\Pr b.root) (G:sW s v b=0):aA prog 140 [bc s,ah b]=some (bc (zS (SZ s v b) (Qf s v b) [114])):=by
 have hs:=k.gi.sd
 have M:=hs.nn
 have k1:=k.uJ rb G
 have k2:=k.in1 rb G
 have k3:=k.ins rb G
 have i1:uK v.ns b (wZ b)=.cY [ak ⟨Ah v b⟩,aa 0]:=if_pos (Hd k.gi G).1
 have J:∀(st:St) (d:Option Nat),aO (aA prog) 209 [ak ⟨v.ns⟩,ah b,aa (wZ b)] st d=some { dst:=d,val:=.cY [ak ⟨Ah v b⟩,aa 0]}:=fun st d=>aX (jC (gZ _) (lF b) (.v _)) ((a4a v.ns M b (wZ b)).trans (congrArg some i1)) (.cY _ (aU (gZ _) (.v _)))
 have R:∀(st:St) (d:Option Nat),aO (aA prog) 210 [ah b] st d=some { dst:=d,val:=aa (wZ b)}:=kx (a4b b) (bZ (lF b)) (.v _)
 have c1:=aPf k1.gi k1.rg k1.cp b.dX b.fin rb.1.j rb.1.f
 have W:∀st:St,aO (Oo (Ro 132 24) (aA prog)) 132 [bc (uJ s v b),ag b.dX,ag b.fin] st (some 24)=_:=fun st=>kz k2.gi.sd (m:=[114]) (jC k1.gi.sd.flat (.agg _ (cM _)) (.agg _ (cM _))) c1 st 24
 have N:=gb k2.gi.sd 24 0
 have c2:=aPf k2.gi k2.rg k2.cp b.dA.pj b.dA.pf rb.1.pj rb.1.pf
 have D:=k2.dE rb.1.pj rb.1.pf
 have z2:=gb D.gi.sd 53 0
 have e0:({ s with tree:=⟨.sl (Ah v b).length (bS (Ah v b))⟩}:aF)=uJ s v b:=rfl
 have Y:(Tn s v b).cFg=s.cFg:=qA _ _ _ _
 have X:(Tn s v b).now=s.now:=Fk _ _ _ _
 obtain⟨O,hO⟩:∃O,(jy s v b).O=O:=⟨_,rfl⟩
 have C:({ Tn s v b with bH:={ (Tn s v b).bH with bL:=ov aK O }}:aF)=Tn s v b:=by rw[<- hO,<- k2.gi.sd.bL]
 have A:∀st:St,(∀L,O=some L->st.heap 24 0=some (.row 66 238 L.length (aK L)))->eH (Oo (Ro 132 53) (aA prog)) 132 [bc ({ Tn s v b with bH:={ (Tn s v b).bH with bL:=rv 24 0 O }}),ag b.dA.pj,ag b.dA.pf] st (some 53)=_:=fun st u=>aPk D.gi.sd (m:=[114]) (S:=Tn s v b) (by rw[C];exact k2.gi.sd.flat) (aU (.agg _ (cM _)) (.agg _ (cM _))) (by rw[C];exact c2) u
 rw[hO] at N;obtain⟨Z,hZ⟩:∃Z:aF,({ Tn s v b with bH:={ (Tn s v b).bH with bL:=rv 24 0 O }}:aF)=Z:=⟨_,rfl⟩
 have Y:Z.cFg=s.cFg:=by rw[<- hZ];exact Y
 have X:Z.now=s.now:=by rw[<- hZ];exact X
 rw[hZ] at N A;rw[cL func140 rfl aWE rfl];unfold SZ Qf;by_cases g:pY s b.slot<pY s s.now
 ·rw[if_pos g,if_pos g];cases O with
  | none =>
    have A:=fun st=>A st nofun
    simp only[Z8,seval,hs.tree,J,R,bW,e0,W,N,NW,Y,X,Sq k.gi.iH,g,A,z2,yS,iX,jK,jX];refine aGw rfl rfl (s:=53) (kO:=0) D.gi.sd (by simp only[bC,Z8,seval,NW,iX,jK,jX]<;>rfl) fun l e=>?_
    simp only[E8,seval,NW,iX,jK,jX,e,iC]<;>rfl
  | some L =>
    have A:=fun (st:St) (u:st.heap 24 0=some (.row 66 238 L.length (aK L)))=>A st fun l e=>by cases e;exact u
    simp only[Z8,seval,hs.tree,J,R,bW,e0,W,N,NW,Y,X,Sq k.gi.iH,g,A,iC,z2,yS,iX,jK,jX];refine aGw rfl rfl (s:=53) (kO:=0) D.gi.sd (by simp only[bC,Z8,seval,NW,iX,jK,jX]<;>rfl) fun l e=>?_
    simp only[E8,seval,NW,iX,jK,jX,e,iC]<;>rfl
 ·rw[if_neg g,if_neg g];simp only[Z8,seval,hs.tree,J,R,bW,e0,W,N,NW,Y,X,Sq k.gi.iH,g];refine aGw rfl rfl (s:=24) (kO:=0) k2.gi.sd (by simp only[bC,Z8,seval,NW,N,hO,hZ]<;>rfl) fun l e=>?_
  rw[<- hO,e];simp only[E8,seval,NW,iC]<;>rfl
def NR (a c:List Node):Prop:=∀n∈c,(∃m∈a,m.block.root=n.block.root/\m.status=n.status)\/∀m∈a,m.block.root≠n.block.root
def sj (a c:List Node):Prop:=∀n∈c,∃m∈a,n.block=m.block/\n.status=m.status
theorem NR.refl (a:List Node):NR a a:=fun n h=>.inl ⟨n,h,rfl,rfl⟩
theorem NR.sub {c d:List Node} (h:NR a c) (g:sj c d):NR a d:=fun n M=>by
 obtain⟨m,hm,A,e2⟩:=g n M
 rw[A,e2];exact h m hm
theorem sj.dE (s:aF) (v:SV) (c1 c2:dH):sj v.ns (LG s v c1 c2).ns:=fun n M=>by
 have M:n∈(mU s v c1 c2).ns:=M
 unfold mU at M;split at M
 ·exact⟨n,M,rfl,rfl⟩
 split at M
 ·exact⟨n,M,rfl,rfl⟩
 ·exact He _ _ _ (Nat.le_refl _) n M
def NR.ins (h:NR a v.ns) (hb:aD a b.root<0):NR a (Qf s v b).ns:=by
 have J:NR a (tQ v b).ns:=fun n M=>(mem_append.1 (show n∈v.ns++[⟨b,aD v.ns b.parent,wZ b⟩] from M)).elim (h n) fun e=>.inr fun m hm e2=>by
  rw[mem_singleton.1 e] at e2;exact Fo hb (e2 ▸ List.mem_map_of_mem hm)
 unfold Qf;split
 ·exact (J.sub (.dE _ _ _ _)).sub (.dE _ _ _ _)
 ·exact J.sub (.dE _ _ _ _)
def U8 (s:aF) (v:SV) (c1 c2:dH):(ol (LG s v c1 c2).O).Sublist (ol v.O):=by
 show (ol (uO s v c1 c2)).Sublist _
 unfold uO;split
 ·exact List.Sublist.refl _
 split
 ·exact List.Sublist.refl _
 ·cases v.O with
  | none=>exact List.Sublist.refl _
  | some l=>exact filter_sublist
def aGx (s:aF) (v:SV) (b:Block):(ol (Qf s v b).O).Sublist (ol v.O):=by
 unfold Qf;split
 ·exact (U8 _ _ _ _).trans (U8 _ _ _ _)
 ·exact U8 _ _ _ _
def Zg (s:aF) (v:SV) (b:Block):(SZ s v b).cFg=s.cFg/\(SZ s v b).now=s.now:=by
 have h:∀s v c1 c2,(SW s v c1 c2).cFg=s.cFg/\(SW s v c1 c2).now=s.now:=fun s v c1 c2=>⟨qA s v c1 c2,Fk s v c1 c2⟩
 unfold SZ;split
 ·exact⟨(h _ _ _ _).1.trans (h _ _ _ _).1,(h _ _ _ _).2.trans (h _ _ _ _).2⟩
 ·exact h _ _ _ _
def KI.Sp {s:aF} {v:SV} {q:Int} (k:KI s v q) {O:Option (List Block)} (h:(ol O).Sublist (ol v.O)):KI (lI s (ov aK O)) { v with O:=O } q:=⟨k.gi.Sp O (by have:=h.length_le;have:=k.gi.nO;omega),k.rg.Sp O _ h,k.fL,k.es⟩
def KI.dY {s:aF} {v:SV} {q:Int} (k:KI s v q) (x:bU) (h:x=bQ\/0<=aD v.ns x):KI { s with dY:=x } v q:=⟨k.gi.dY x,k.rg.dY x h,k.fL,k.es⟩
def a4d (hs:SD s v) (x:Block) (X:AV):aA prog 142 [ah x,.ip (aB (lI s X)) 0]=some (ae (decide (0<=aD v.ns x.parent))):=by
 have D:(lI s X).tree=⟨.sl v.ns.length (bS v.ns)⟩:=hs.tree
 rw[cL func142 rfl aWF rfl];refine eM ?_
 by_cases g:0<=aD v.ns x.parent
 ·simp only[Z8,seval,D,lX _ _ hs.nn,g,decide_true];exact⟨_,bE rfl,rfl⟩
 ·simp only[Z8,seval,D,lX _ _ hs.nn,g,decide_false];exact⟨_,bE rfl,rfl⟩
def aKy {T:Option (List Table)} (hT:ol T=ol v.T) (c1 c2:dH):(mU (LF s O T) (kV v O T) c1 c2).ns=(mU s v c1 c2).ns:=by
 have e:∀J F,iR (LF s O T) (kV v O T) J F↔iR s v J F:=fun J F=>by
  unfold iR;rw[show (kV v O T).T=T from rfl,hT];exact Iff.rfl
 unfold mU;by_cases b:iR s v (yZ s c1) (sX s c2)
 ·rw[if_pos b,if_pos (show iR (LF s O T) (kV v O T) (yZ (LF s O T) c1) (sX (LF s O T) c2) from (e _ _).2 b)];rfl
 rw[if_neg b,if_neg (show ¬iR (LF s O T) (kV v O T) (yZ (LF s O T) c1) (sX (LF s O T) c2) from fun h=>b ((e _ _).1 h))]
 by_cases g:sX s c2=s.aL.fin
 ·rw[if_pos g,if_pos (show sX (LF s O T) c2=(LF s O T).aL.fin from g)];rfl
 ·rw[if_neg g,if_neg (show ¬sX (LF s O T) c2=(LF s O T).aL.fin from g)];rfl
def aKz (s:aF) (v:SV) (b:Block):(Qf s v b).ns=(sH s v b).ns:=by
 unfold Qf sH;by_cases g:pY s b.slot<pY s s.now
 ·rw[if_pos g,if_pos g];exact aKy (s:=ek s v b) (v:=YK s v b) (sh _ _ _ _).2 _ _
 ·rw[if_neg g,if_neg g];rfl
def BlP (s:aF) (v:SV) (q:Int) (x:AV):Prop:=∃(D:aF) (L:Option (List bU)) (e:Int),x=.cY [bc D,ov fN L,aa e]/\Flat (bc D)/\e≠21/\(e=0->∃S,KI D S q/\NR v.ns S.ns/\D.cFg=s.cFg/\(ol L).length<=1+(ol v.O).length)
def a4f (k:KI s v q) (rb:RB b/\Pr b.root) (G:sW s v b≠0):∃x,aA prog 71 [bc s,ah b]=some x/\BlP s v q x:=by
 have hs:=k.gi.sd
 have Y:=k.gi.nO
 have hnB:=k.gi.AH
 have J:=fun st=>LD k.cp (Ro 63 12) (m:=[114]) st 12
 have z:zV s v [114] 12 0=lI s (rv 12 0 v.O)/\zR v [114]=rl 66 238 aK v.O:=gb hs 12 0
 have D:=aVM k.gi k.rg b rb.1.sl
 obtain⟨c,M⟩:∃c,sW s v b=c:=⟨_,rfl⟩
 have S:=aFt s v b
 rw[M] at G D S
 have N:∀x,(lI s x).bH.bL=x:=fun _=>rfl
 have X:∀x,(lI s x).cFg.lim.vA=s.cFg.lim.vA:=fun _=>rfl
 have R:=sI
 have p:=hs.fl
 rw[cL func71 rfl aWG rfl];by_cases A:c=10
 case neg =>
  simp only[Z8,seval,J,z,NW,D,bf G,bf A];exact⟨_,zi,eU,none,c,rfl,R,S,fun e=>absurd e G⟩
 subst A;have kw:((ol v.O).length:Int)<s.cFg.lim.vA->KI (lI s (ov aK (some (ol v.O++[{ b with oU:=false }])))) { v with O:=some (ol v.O++[{ b with oU:=false }])} q:=fun h=>⟨k.gi.Sp (some (ol v.O++[{ b with oU:=false }])) zg,k.rg.wait rb M _,k.fL,k.es⟩
 cases C:v.O with
 | none =>
   rw[C] at z;by_cases g:s.cFg.lim.vA<=0
   ·simp only[Z8,seval,J,z,NW,D,N,X,nJ,g];exact⟨_,zi,eU,none,11,rfl,R,ZB,fun e=>bz⟩
   ·simp only[Z8,seval,J,z,NW,D,N,X,nJ,g];have kw:=kw (by rw[C];exact Int.not_le.1 g)
    rw[C] at kw;exact⟨_,Qas,_,none,0,rfl,kw.gi.sd.flat,ZB,fun _=>⟨_,kw,.refl _,rfl,Nat.zero_le _⟩⟩
 | some l =>
   rw[C] at z;have W:bg l.length:=by rw[C] at Y;rw[dK] at Y;omega
   by_cases g:s.cFg.lim.vA<=(l.length:Int)
   ·simp only[Z8,seval,J,z,NW,D,N,X,iL,iC,g];exact⟨_,zi,eU,none,11,rfl,R,ZB,fun e=>bz⟩
   ·simp only[Z8,seval,J,z,NW,D,N,X,iL,iC,g,Wn _ _ _ _ W];have kw:=kw (by rw[C];exact Int.not_le.1 g)
    rw[C] at kw;exact⟨_,Qas,_,none,0,rfl,kw.gi.sd.flat,ZB,fun _=>⟨_,kw,.refl _,rfl,Nat.zero_le _⟩⟩
end Go.Ab.Tryz
namespace Go.Ab.Tryz
open Classical Go.Proofs Go.Ab
end Go.Ab.Tryz
namespace Go.Ab.Tryz
open Classical Go.Proofs Go.Ab
variable {s:aF} {v:SV} {q:Int} {t:State} {Q R:Option (List Request)}
def aGy (h:1<=s.cFg.iH/\s.cFg.iH<=64) {x:Int} (N:Rg x):Rg (pY s x):=by
 have J:pY s x=x / s.cFg.iH:=by
  unfold pY;rw[Int.tdiv_eq_ediv_of_nonneg N.1];exact zC _ (Int.ediv_nonneg N.1 WF) (Int.lt_of_le_of_lt (Int.ediv_le_self _ N.1) N.2)
 rw[J];exact⟨Int.ediv_nonneg N.1 WF,Int.lt_of_le_of_lt (Int.ediv_le_self _ N.1) N.2⟩
def aWH (hs:SD s v) (hu:eK v.ns) (h0:(nd v.ns 0).up=-1) (hp:1<=s.cFg.iH/\s.cFg.iH<=64) (D:Rg s.now) (a:qX) (Wt:Rg a.slot) (o:Option (List Int)) (hV:a.dL=ov aH o) (W:bg (ol o).length) :
 aA prog 133 [bc s,au a]=some (.cY [ae ((vZ s v a (ol o)).1),aa ((vZ s v a (ol o)).2)]):=by
 have hf:=hs.flat
 have G:=cB v.ns a.root
 have A:=aGy hp Wt
 have J:=aGy hp D
 have N:=jw o W
 rw[cL func133 rfl aWI rfl];refine eM ?_
 by_cases g1:vM (ol o) (ol v.B).length=0
 case neg =>
  have C:vZ s v a (ol o)=(false,vM (ol o) (ol v.B).length):=by simp only[vZ,ne_eq,g1,not_false_eq_true,if_true]
  simp only[Z8,seval,hV,hs.fL,N,bf g1];exact⟨_,bT rfl rfl rfl Wl Wl,wm⟩
 have R:Jy s a->vZ s v a (ol o)=(false,18):=fun g=>by simp only[vZ,ne_eq,g1,not_true_eq_false,if_false,g,if_true]
 by_cases g2:a.target.aG=pY s a.slot
 case neg =>
  have C:=R (.inl g2)
  simp only[Z8,seval,hV,hs.fL,N,bt g1,Sq hp,bW,bf g2];exact⟨_,bT rfl rfl rfl Wl Wl,wm⟩
 by_cases g3:pY s s.now<pY s a.slot
 ·have hb:Jy s a:=by
   refine .inr ⟨WF, ?_⟩
   by_cases g:pY s s.now=0
   ·exact .inl g
   ·refine .inr ?_
    rw[zC _ (by have:=J.1;omega) (by have:=J.2;omega)]
    omega
  have C:=R hb
  simp only[Z8,seval,hV,hs.fL,N,bt g1,Sq hp,bW,bt g2,g3];exact⟨_,bT rfl rfl rfl Wl Wl,wm⟩
 have hw:u64.wrap (pY s s.now-pY s a.slot)=pY s s.now-pY s a.slot:=zC _ WF (by have:=J.2;have:=A.1;omega)
 by_cases g4:1<pY s s.now-pY s a.slot
 ·have hb:Jy s a:=by
   refine .inr ⟨WF,.inr ?_⟩
   rw[zC _ (by have:=A.1;omega) (by have:=J.2;omega)]
   omega
  have C:=R hb
  simp only[Z8,seval,hV,hs.fL,N,bt g1,Sq hp,bW,bt g2,g3,hw,g4];exact⟨_,bT rfl rfl rfl Wl Wl,wm⟩
 have M:¬Jy s a:=by
  rintro (h|⟨h1,h2⟩)
  ·exact h g2
  ·rcases h2 with h2|h2
   ·have:=A.1;omega
   ·by_cases g:pY s s.now=0
    ·have:=A.1;omega
    ·rw[zC _ (by have:=J.1;omega) (by have:=J.2;omega)] at h2
     omega
 by_cases g6:aD v.ns a.root<0
 ·have C:vZ s v a (ol o)=(false,10):=by simp only[vZ,ne_eq,g1,not_true_eq_false,if_false,M,g6,if_true]
  simp only[Z8,seval,hV,hs.fL,N,bt g1,Sq hp,bW,bt g2,g3,hw,g4,hs.tree,lX _ _ hs.nn,g6];exact⟨_,bT rfl rfl rfl Wl Wl,wm⟩
 by_cases g7:aD v.ns a.target.root<0
 ·have C:vZ s v a (ol o)=(false,10):=by simp only[vZ,ne_eq,g1,not_true_eq_false,if_false,M,g6,g7,if_true]
  simp only[Z8,seval,hV,hs.fL,N,bt g1,Sq hp,bW,bt g2,g3,hw,g4,hs.tree,lX _ _ hs.nn,g6,g7];exact⟨_,bT rfl rfl rfl Wl Wl,wm⟩
 have q0:0<=aD v.ns a.root:=WF
 by_cases g8:a.slot<(nd v.ns (aD v.ns a.root)).block.slot
 ·have C:vZ s v a (ol o)=(false,14):=by simp only[vZ,ne_eq,g1,not_true_eq_false,if_false,M,g6,g7,g8,if_true]
  simp only[Z8,seval,hV,hs.fL,N,bt g1,Sq hp,bW,bt g2,g3,hw,g4,hs.tree,lX _ _ hs.nn,g6,g7,q0,G,g8];exact⟨_,bT rfl rfl rfl Wl Wl,wm⟩
 have p:Nt (pY s a.slot) s.cFg.iH=sF s a.target.aG:=by rw[g2];rfl
 by_cases g9:Gu v.ns (aD v.ns a.root) (sF s a.target.aG).1=aD v.ns a.target.root
 ·have C:vZ s v a (ol o)=(decide (s.now<=a.slot),0):=by simp only[vZ,ne_eq,g1,not_true_eq_false,if_false,M,g6,g7,g8,g9]
  simp only[Z8,seval,hV,hs.fL,N,bt g1,Sq hp,bW,bt g2,g3,hw,g4,hs.tree,lX _ _ hs.nn,g6,g7,q0,G,g8,eu A,p,jv _ hu h0,bt g9];exact⟨_,bT rfl rfl rfl Wl Wl,wm⟩
 ·have C:vZ s v a (ol o)=(false,19):=by simp only[vZ,ne_eq,g1,not_true_eq_false,if_false,M,g6,g7,g8,g9,not_false_eq_true,if_true]
  simp only[Z8,seval,hV,hs.fL,N,bt g1,Sq hp,bW,bt g2,g3,hw,g4,hs.tree,lX _ _ hs.nn,g6,g7,q0,G,g8,eu A,p,jv _ hu h0,bf g9];exact⟨_,bT rfl rfl rfl Wl Wl,wm⟩
def a4g (hs:SD s v) (hu:eK v.ns) (h0:(nd v.ns 0).up=-1) (hp:1<=s.cFg.iH/\s.cFg.iH<=64) (D:Rg s.now) (a:qX) (G:Rg a.slot) (o:Option (List Int)) (hV:a.dL=ov aH o) (W:bg (ol o).length) (st:St) (d:Option Nat) :
 aO (aA prog) 133 [bc s,au a] st d=some { dst:=d,val:=.cY [ae ((vZ s v a (ol o)).1),aa ((vZ s v a (ol o)).2)]} :=
 aX (aU hs.flat ((rS a).2 (by rw[hV];exact bR o))) (aWH hs hu h0 hp D a G o hV W) (.cY _ (aU (.v _) (.v _)))
def jz (s:aF) (v:SV) (q:Int) (x:AV):Prop:=∃(D:aF) (e:Int),x=.cY [bc D,aa e]/\Flat (bc D)/\e≠21/\(e=0->∃S,KI D S q/\D.cFg=s.cFg/\NR v.ns S.ns)
def KI.cast {s:aF} {v:SV} {q:Int} (k:KI s v q) (a:qX) (V:List Int):KI (Ec s v a V) { v with L:=some (pZ (ol v.L) a.target.aG a.root V).1 } q :=
 have r:=k.rg
 ⟨k.gi.cast a V,⟨r.now,r.j,r.f,r.nd,r.or,r.rt,r.fe,r.ds,r.tb,⟨r.ne.q,r.ne.e,r.ne.t,r.ne.ea,r.ne.tb⟩,r.vs.cast a V⟩,k.fL,k.es⟩
def c73 (k:KI s v q) (a:qX) (G:Rg a.slot) (V:Option (List Int)) (hV:a.dL=ov aH V) (S:((ol V).length:Int)<99999):∃x,aA prog 73 [bc s,au a]=some x/\jz s v q x:=by
 have hs:=k.gi.sd
 have hf:=hs.flat
 have p:=hs.fl
 have R:=sI
 have u:Flat (au a):=(rS a).2 zr
 have N:Rg s.now:=⟨k.rg.now.1,by have:=k.rg.now.2;omega⟩
 have Y:=a4g hs k.gi.up k.gi.Nv k.gi.iH N a G V hV WF
 rw[cL func73 rfl a4h rfl];by_cases g1:(vZ s v a (ol V)).2=0
 case neg =>
  simp only[Z8,seval,Y,bW,bf g1];exact⟨_,qh,eU,_,rfl,R,aFH _ _ _ _,fun h=>absurd h g1⟩
 obtain⟨L,hvL,hL0⟩:=k.L
 cases g2:(vZ s v a (ol V)).1 with
 | false =>
   have X:∀x∈ol V,0<=x/\x<(ol v.L).length:=by rw[k.gi.Wg];exact EM (Kg g1)
   have A:=k.cast a (ol V)
   have D:=A.gi.sd.flat
   have k134:∀st:St,aO (Oo (Ro 134 23) (aA prog)) 134 [bc s,au a] st (some 23)=_:=fun st=>kz A.gi.sd (m:=[]) (aU hf u) (aV8 k.cp L hvL a V hV WF X) st 23
   have z:=ZY A.gi.sd 23 0
   simp only[Z8,seval,Y,bW,bt g1,g2,k134,z,NW,Bl];exact⟨_,yg,_,0,rfl,D,ZB,fun _=>⟨_,A,rfl,NR.refl _⟩⟩
 | true =>
   by_cases g3:s.cFg.lim.mK<=((ol v.E).length:Int)
   ·simp only[Z8,seval,Y,bW,bt g1,g2,hs.early,g3];exact⟨_,qh,eU,11,rfl,R,ZB,fun h=>wu⟩
   have h0:=Kg g1
   have aFI:ol V≠[]:=fun e=>by rw[e] at h0;simp[vM] at h0
   obtain⟨W,rfl⟩:∃W,V=some W:=by
    cases V with
    | none=>exact absurd rfl aFI
    | some W=>exact⟨W,rfl⟩
   rw[dK] at h0 aFI S;have one:∀ {P:qX->Prop},(∀b∈ol v.E,P b)->P a->∀b∈ol (some (ol v.E++[a])),P b:=fun J h2 b hb=>(mem_append.1 (show b∈ol v.E++[a] from hb)).elim (J b) fun e=>by rw[mem_singleton.1 e];exact h2
   have r:=k.rg
   have A:KI (nI s (ov cN (some (ol v.E++[a])))) { v with E:=some (ol v.E++[a])} q :=
    ⟨k.gi.early _ (one hs.eV ⟨some W,hV,zw⟩) zg,⟨r.now,r.j,r.f,r.nd,r.or,r.rt,r.fe,r.ds,r.tb,⟨r.ne.q,qe,r.ne.t,one r.ne.ea ⟨W,hV,aFI⟩,r.ne.tb⟩,r.vs.early _ _ (one r.vs.ea ⟨W,hV,h0⟩)⟩,k.fL,⟨one k.es.1 G,k.es.2⟩⟩
   have D:=A.gi.sd.flat
   have C:∀y∈ol v.E++[a],Flat y.dL:=one (P:=fun y=>Flat y.dL) (fun y m=>(hs.eV y m).fl) ((rS a).1 u)
   have xJ:=fun st=>LD k.cp (Ro 63 35) (m:=[113]) st 35
   have z:zV s v [113] 35 0=nI s (rv 35 0 v.E)/\zR v [113]=rl 68 67 cN v.E:=aV3 hs 35 0
   have eq:(∀x,(nI s x).bH.early=x)/\∀x y,({ nI s x with bH:={ (nI s x).bH with early:=y }}:aF)=nI s y:=⟨fun _=>rfl,fun _ _=>rfl⟩
   have k116:=kx (aVT a (some W) hV (by simpa using aFI) zw) (bZ u) u
   have nE:=hs.nE
   cases M:v.E with
   | none =>
     rw[M] at z A D C g3
     have g3:¬s.cFg.lim.mK<=0:=g3
     rw[dK] at g1 g2 Y
     have C:∀y∈[a],Flat y.dL:=C
     simp only[Z8,seval,Y,bW,bt g1,g2,hs.early,M,nJ,g3,xJ,z,NW,eq,k116];exact⟨_,Qaf,_,0,rfl,D,ZB,fun _=>⟨_,A,rfl,NR.refl _⟩⟩
   | some l =>
     rw[M] at z A D C g3 nE
     have C:∀y∈l++[a],Flat y.dL:=C
     have nE:bg (l.length:Nat):=by have:=nE;rw[dK] at this;omega
     rw[dK] at g1 g2 g3 Y
     simp only[Z8,seval,Y,bW,bt g1,g2,hs.early,M,iL,iC,g3,xJ,z,NW,eq,k116,Mq _ _ _ _ nE];exact⟨_,Qaf,_,0,rfl,D,ZB,fun _=>⟨_,A,rfl,NR.refl _⟩⟩
def a4i (hs:SD s v) (hp:1<=s.cFg.iH/\s.cFg.iH<=64) (x:Int):aA prog 242 [bc s,ac x]=some (ac (pY s x)):=by
 rw[cL func242 rfl aWK rfl];refine eM ?_
 simp only[Z8,seval,Sq hp,bW];exact⟨_,bE rfl Wl XG,rfl⟩
def gy (hs:SD s v) (hp:1<=s.cFg.iH/\s.cFg.iH<=64) (x:Int):KC 242 [bc s,ac x] (ac (pY s x)):=fun _ _=>aX (aU hs.flat (.v _)) (a4i hs hp x) (.v _)
def a4j (hs:SD s v) (hp:1<=s.cFg.iH/\s.cFg.iH<=64) (i:Int) (g1:0<=i) (g2:i<(v.ns.length:Int)):aA prog 241 [bc s,aa i]=some (ag (Kd s v i)):=by
 have hf:=hs.flat
 have A:¬i<0:=WF
 have D:¬(v.ns.length:Int)<=i:=WF
 rw[cL func241 rfl aWL rfl];refine eM ?_
 by_cases g3:pY s (nd v.ns i).block.slot<pY s s.now
 ·have C:Kd s v i=(nd v.ns i).block.dA.pj:=by grind [Kd]
  simp only[Z8,seval,hs.tree,A,D,g1,g2,gy hs hp,g3];exact⟨_,iI rfl Wl qk wv,wm⟩
 ·have C:Kd s v i=(nd v.ns i).block.dX:=by grind [Kd]
  simp only[Z8,seval,hs.tree,A,D,g1,g2,gy hs hp,g3];exact⟨_,iI rfl Wl qk wv,wm⟩
def a4k (hs:SD s v) (hp:1<=s.cFg.iH/\s.cFg.iH<=64) (i:Int) (g1:0<=i) (g2:i<(v.ns.length:Int)):∃r,aA prog 167 [bc s,aa i]=some r/\∃b:Bool,r=ae b/\(b=true->(nd v.ns i).status≠2):=by
 have W:=hs.flat
 have A:¬i<0:=WF
 have D:¬(v.ns.length:Int)<=i:=WF
 have C:=kx (a4j hs hp i g1 g2) (aU W (.v _)) (.agg _ (cM _))
 rw[cL func167 rfl aWM rfl];by_cases g3:(nd v.ns i).status=2
 ·simp only[Z8,seval,hs.tree,A,D,g1,g2,bt g3];exact⟨_,bE rfl Wl XG,_,rfl,fun h=>wu⟩
 by_cases g4:s.aL.dX.aG=0
 ·simp only[Z8,seval,hs.tree,A,D,g1,g2,bf g3,C,gy hs hp,bt g4];exact⟨_,bE rfl Wl XG,_,rfl,fun _=>g3⟩
 by_cases g5:(Kd s v i).aG=s.aL.dX.aG
 ·simp only[Z8,seval,hs.tree,A,D,g1,g2,bf g3,C,gy hs hp,bf g4,bt g5];exact⟨_,bE rfl Wl XG,_,rfl,fun _=>g3⟩
 by_cases g6:pY s s.now<=(Kd s v i).aG
 ·simp only[Z8,seval,hs.tree,A,D,g1,g2,bf g3,C,gy hs hp,bf g4,bf g5,g6];exact⟨_,bE rfl Wl XG,_,rfl,fun _=>g3⟩
 ·simp only[Z8,seval,hs.tree,A,D,g1,g2,bf g3,C,gy hs hp,bf g4,bf g5,g6];exact⟨_,bE rfl Wl XG,_,rfl,fun _=>g3⟩
def a4l (ns:List Node) (hu:eK ns) (hn:bg ns.length) (h0:0<ns.length) (d:List Int) (l:d.length=ns.length):∃x,aA prog 165 [ak ⟨ns⟩,.sl d.length (bD d)]=some x/\∃m:List Int,x=.uniq 23 1 m.length (bD m)/\m.length=ns.length:=by
 rw[cL func165 rfl aWN rfl];have hK:∀(st:St) (a:Nat),aO (aA prog) 113 [.sl d.length (bD d)] st (some a)=_:=rr (some d) (fun e=>qg) zw
 have Y:i64.wrap ((ns.length:Int)-1)=ns.length-1:=Dz _ WF WF
 simp only[Z8,seval,hK,Y,NW];refine bP (fun m st=>∃(c:Nat) (o:List Int),(st.env 2=.ptr 2 0 0/\st.heap 2 0=some (.cells (bN ⟨ns⟩))/\st.env 5=.own 8 0/\st.heap 8 0=some (.row 23 1 o.length (bD o))/\st.env 6=aa c)/\c<ns.length/\o.length=ns.length/\m=c)
  (fun e st=>e=.exit 0/\∃o:List Int,st.env 5=.own 8 0/\st.heap 8 0=some (.row 23 1 o.length (bD o))/\o.length=ns.length) (ns.length-1) ?step ?start ?rest
 case step =>
  rintro m st ⟨c,o,D,c1,p,hm⟩
  by_cases G:(0:Int)<c
  ·obtain⟨c,rfl⟩:∃c',c=c'+1:=⟨c-1,WF⟩
   obtain⟨u0,u1⟩:=hu ((c+1:Nat):Int) WF WF
   have hw:i64.wrap (((c+1:Nat):Int)-1)=(c:Int):=cr
   have q0:(0:Int)<=((c+1:Nat):Int):=WF
   have S:((c+1:Nat):Int)<ns.length:=WF
   have N:((c+1:Nat):Int)<o.length:=WF
   have r:(nd ns ((c+1:Nat):Int)).up<o.length:=WF
   have M:=fun x=>U9 o (nd ns ((c+1:Nat):Int)).up x WF
   have hle:(nd ns ((c+1:Nat):Int)).up.toNat+1<=o.length:=WF
   have J:=Fq u0 r
   have X:=Fq q0 N
   have u:=Wi (T:=23) (n:=o.length) (k:=1) u0 r AG ZB ZB
   have A:=Wi (T:=23) (n:=o.length) (k:=1) q0 N AG ZB ZB
   rw[Nat.mul_one] at u A;apply oN (c)
   ·simp only[Z8,seval,D,G,hw,q0,S,N,u0,r,M,hle,J,X,u,A,Nat.mul_one];rfl
   ·exact⟨c,o.set (nd ns ((c+1:Nat):Int)).up.toNat (u64.wrap (gx (0:Int) o (nd ns ((c+1:Nat):Int)).up+gx (0:Int) o ((c+1:Nat):Int))),⟨XC,XC,XC,by simp only[E8,seval,D,length_set]<;>rfl,XC⟩,WF,ve,rfl⟩
  ·apply oT (.exit 0)
   ·simp only[Z8,seval,D,G];rfl
   ·exact⟨rfl,o,XC,XC,p⟩
 case start=>exact⟨ns.length-1,d,⟨by simp only[E8,seval,NW],qq,qq,qq,by simp only[E8,seval,NW];congr 3;omega⟩,WF,l,rfl⟩
 case rest =>
  rintro e st ⟨rfl,o,C,R,p⟩
  simp only[Z8,seval,C,R];exact⟨_,oH rfl wh xz (fB _),o,rfl,p⟩
def a4m (ns:List Node) (M:bg ns.length) (h0:0<ns.length) (d:List Int) (l:d.length=ns.length) (r:bU) (a:Int):∃x,aA prog 240 [ak ⟨ns⟩,.sl d.length (bD d),.agg (aW r),ac a]=some x/\∃m:List Int,x=.uniq 23 1 m.length (bD m)/\m.length=ns.length:=by
 have C:∀(st:St) (a:Nat),aO (aA prog) 113 [.sl d.length (bD d)] st (some a)=_:=rr (some d) (fun e=>qg) zw
 have G:=cB ns r
 rw[cL func240 rfl aWO rfl];by_cases g1:r=bQ
 ·simp only[Z8,seval,vH,decide_eq_true g1,C,NW];exact⟨_,oH rfl qq qq (fB _),d,rfl,l⟩
 by_cases g2:0<=aD ns r
 case neg =>
  simp only[Z8,seval,vH,decide_eq_false g1,C,NW,lX _ _ M,g2];exact⟨_,oH rfl qq qq (fB _),d,rfl,l⟩
 by_cases g3:(nd ns (aD ns r)).status=2
 ·simp only[Z8,seval,vH,decide_eq_false g1,C,NW,lX _ _ M,g2,G,bt g3];exact⟨_,oH rfl qq qq (fB _),d,rfl,l⟩
 ·have N:aD ns r<d.length:=WF
  have Co:=fun x=>U9 d (aD ns r) x WF
  have hle:(aD ns r).toNat+1<=d.length:=WF
  have Y:=Fq g2 N
  have rs:rv 12 0 (some d)=.own 12 0:=rfl
  have rl:rl 23 1 bD (some d)=[.row 23 1 d.length (bD d)]:=rfl
  have ld:=Wi (T:=23) (n:=d.length) (k:=1) g2 N AG ZB ZB
  rw[Nat.mul_one] at ld;simp only[Z8,seval,vH,decide_eq_false g1,C,NW,lX _ _ M,g2,G,bf g3,N,Co,hle,Y,ld,Nat.mul_one,rs,rl];exact⟨_,oH rfl qq (by simp only[E8,seval,NW,Co,rl]<;>rfl) (fB _),d.set (aD ns r).toNat (u64.wrap (gx (0:Int) d (aD ns r)+a)),qg,by simpa using l⟩
def aWP (h:TD t v Q R) (r:bU):aA prog 135 [bd t,.agg (aW r)]=some (ae (decide (wG v.ns r))):=by
 have X:=cB v.ns r
 rw[cL func135 rfl aWQ rfl];refine eM ?_
 by_cases g1:0<=aD v.ns r
 ·by_cases g2:(nd v.ns (aD v.ns r)).status=0
  ·simp only[Z8,seval,h.sd.tree,lX _ _ h.sd.nn,g1,X.2,bt g2];exact⟨_,bE rfl Wl XG,dp⟩
  ·simp only[Z8,seval,h.sd.tree,lX _ _ h.sd.nn,g1,X.2,bf g2];exact⟨_,bE rfl Wl XG,dp⟩
 ·simp only[Z8,seval,h.sd.tree,lX _ _ h.sd.nn,g1];exact⟨_,bE rfl Wl XG,by simp[wG,g1]⟩
def aWR:aA prog 136 [af,aa 0,aa 0]=some af:=by
 rw[cL func136 rfl aNv rfl];refine eM ?_
 simp only[Z8,seval,ru];exact⟨_,bE rfl Wl XG,rfl⟩
def c69 (h:TD t v Q R) (G:CP t.store v) (M:((ol Q).length:Int)+(ol R).length<800000) {b:Int} (hQ:TB b Q) (hRb:TB b R):∃x,aA prog 69 [bd t]=some x/\∃(q r:Option (List Request)) (n:Int),x=bd (pD t (ov aC q) (ov aC r) n)/\(ol q).length<=(ol Q).length+(ol R).length/\(ol r).length<=(ol R).length/\TB b q/\TB b r:=by
 obtain⟨L,C⟩:∃L,ol R=L:=⟨_,rfl⟩
 rw[C] at M;have nL:bg L.length:=WF
 have qf:∀(args:List AV) (st:St) (d:Option Nat),aO (aA prog) 135 args st d=oK (aA prog) 135 (bM (args.map (eE st))) (decide (∀x∈args,Flat x)) st d:=fun args st d=>dZ _ _ _ _ _
 have xe:=aGo G
 have zR:cS.due=0:=rfl
 have eN:∀q r n,(pD t q r n).store.now=t.store.now:=fun _ _ _=>rfl
 have SX:=fun st=>si h G st 8 rfl
 obtain⟨kR,hkR⟩:∃k,nK Q=k:=⟨_,rfl⟩
 obtain⟨Y,hY⟩:∃Y,rv 8 kR R=Y:=⟨_,rfl⟩
 have KR:∀st:St,(∀l,R=some l->st.heap 8 kR=some (.row 102 35 l.length (aC l)))->bA st Y=some (L.length,aC L)/\cO st Y=some (ov aC R)/\(∀k:Nat,(k:Int)<L.length->bK prog st 53 Y (aa k)=some (.ptr 8 kR ((k:Int).toNat * 35))/\st.heap 8 kR=some (.row 102 35 L.length (aC L))):=fun st u=>by
  refine⟨?_,by rw[<- hY];exact jU u fun l _=>dG l,fun k hk=>?_⟩
  ·subst C hY;cases R with
   | none=>rfl
   | some l=>grind [rv,dK,bA]
  ·subst C hY;cases R<;>grind [ol,iL,bK,gf,Ho]
 rw[cL func69 rfl a4o rfl];simp only[Z8,seval,SX,NW,hkR,Nat.zero_add,hY];refine bP (fun m st=>∃k:Nat,(st.env 2=.ptr 2 0 0/\st.heap 2 0=some (.cells (aE iS))/\st.env 3=.ptr 3 0 0/\st.heap 3 0=some (.cells (aE (pD t (rv 8 0 Q) Y t.cI)))/\st.env 4=aa k)/\(∀l,Q=some l->st.heap 8 0=some (.row 102 35 l.length (aC l)))/\(∀l,R=some l->st.heap 8 kR=some (.row 102 35 l.length (aC l))/\kR<st.aJ 8)/\k<=L.length/\m=L.length-k)
  (fun e st=>e=.exit 0/\∃k:Nat,(st.env 2=.ptr 2 0 0/\st.heap 2 0=some (.cells (aE iS))/\st.env 3=.ptr 3 0 0/\st.heap 3 0=some (.cells (aE (pD t (rv 8 0 Q) Y t.cI)))/\st.env 4=aa k)/\(∀l,Q=some l->st.heap 8 0=some (.row 102 35 l.length (aC l)))/\(∀l,R=some l->st.heap 8 kR=some (.row 102 35 l.length (aC l))/\kR<st.aJ 8)/\k<=L.length) L.length ?step ?start ?rest
 case start =>
  exact⟨0,by simp only[E8,seval,NW]<;>and_intros<;>rfl,fun l e=>by simp only[E8,seval,NW,true_and,Nat.zero_le,Nat.sub_zero,(Tl (R:=R) l e).1,if_true,(Tl (R:=R) l e).2.1],fun l e=>by
   have:=AM (Q:=Q) l e
   rw[hkR] at this;simp only[E8,seval,NW,true_and,Nat.zero_le,Nat.sub_zero,this.1,if_true,this.2,and_self],WF,WF⟩
 case step =>
  rintro m st ⟨k,D,N,hR,hk,hm⟩
  have vl:∀S:St,S.heap 8 kR=st.heap 8 kR->bA S Y=some (L.length,aC L):=fun S e=>(KR S fun l W=>qg).1
  by_cases A:(k:Int)<L.length
  case neg =>
   apply oT (.exit 0)
   ·simp only[Z8,seval,D,Nz,vl,A];rfl
   ·exact⟨rfl,k,XC,xx,vn,hk⟩
  obtain ⟨q0,hw⟩ := yY k
  have ix:∀S:St,S.heap 8 kR=st.heap 8 kR->bK prog S 53 Y (aa k)=some (.ptr 8 kR ((k:Int).toNat * 35)):=fun S e=>((KR S fun l W=>qg).2.2 k A).1
  have X:=((KR st fun l W=>(hR l W).1).2.2 k A).2
  have ld:=Bu (T:=23) (n:=L.length) (k:=1) (off:=34) q0 A AG ZB ZB
  by_cases hd:(gx cS L (k:Int)).due<=t.store.now
  ·apply oN (L.length-(k+1))
   ·simp only[Z8,seval,D,Nz,eN,vl,A,q0,ix,X,ld,hd,hw];rfl
   ·exact⟨k+1,XC,xx,vn,WF,rfl⟩
  ·apply oT (.exit 0)
   ·simp only[Z8,seval,D,Nz,eN,vl,A,q0,ix,X,ld,hd];rfl
   ·exact⟨rfl,k,XC,xx,vn,hk⟩
 case rest =>
  rintro e st ⟨rfl,d,D,N,hR,hd⟩
  obtain⟨V,hV,iV⟩:∃V,(∀S:St,S.heap 8 kR=st.heap 8 kR->(∀hi,S.ev hi=aa d->dW prog S 53 Y none (some hi)=some V)/\bA S V=some (d,aC (L.take d)))/\∀(S:St) (k:Nat),(k:Int)<d->bK prog S 53 V (aa k)=some (.ptr 8 kR ((k:Int).toNat * 35)):=by
   subst C hY;cases R with
   | none =>
     obtain rfl:d=0:=by simpa [ol] using hd
     exact⟨af,fun S _=>⟨fun hi he=>by simp[rv,dW,Ho,he],rfl⟩,fun _ k hk=>WF⟩
   | some l =>
     rw[dK] at *
     by_cases W:l=[]
     ·subst W;obtain rfl:d=0:=by simpa using hd
      exact⟨.sl 0 [],fun S e=>⟨fun hi he=>by simp[rv,dW,Ho,he,e,(hR [] rfl).1],rfl⟩,fun _ k hk=>WF⟩
     ·refine⟨.vw 8 kR 0 d,fun S e=>⟨fun hi he=>?_, ?_⟩,fun S k hk=>?_⟩
      ·have J:¬((0:Int)=d/\¬((0:Int)=0/\0<l.length)):=qg
       have h2:(0:Int)<=d/\(d:Int)<=l.length:=WF
       simp only[iL,dW,Ho,e,(hR l rfl).1,he,if_neg J,h2,Int.le_refl,and_self,if_true];simp[W]
      ·have hb:0+d * 35<=(aC l).length:=by rw[Eg];omega
       simp only[bA,e,(hR l rfl).1,if_pos hb,drop_zero];simp_all [aC,wD]
      grind [bK,gf,Ho]
  have sV:∀(S:St) (hi:Operand),S.heap 8 kR=st.heap 8 kR->S.ev hi=aa d->dW prog S 53 Y none (some hi)=some V:=fun S hi e=>(hV S e).1 hi
  have vV:=fun S e=>(hV S e).2
  simp only[Z8,seval,D,Nz,sV,vV];refine bP (fun m st=>∃(k:Nat) (p:Option (List Request)) (n:Int) (s g:Nat),(st.env 2=.ptr 2 0 0/\st.heap 2 0=some (.cells (aE iS))/\st.env 3=.ptr 3 0 0/\st.heap 3 0=some (.cells (aE (pD t (rv s g p) Y n)))/\st.env 4=aa d/\st.env 31=V/\st.env 32=aa d/\st.env 33=aa k)/\(∀l,R=some l->st.heap 8 kR=some (.row 102 35 l.length (aC l))/\kR<st.aJ 8)/\(∀l,p=some l->st.heap s g=some (.row 102 35 l.length (aC l)))/\(s=52/\g<st.aJ 52\/s=8/\g=0/\p=Q)/\(ol p).length<=(ol Q).length+k/\TB b p/\k<=d/\m=d-k)
   (fun e st=>e=.exit 2/\∃(p:Option (List Request)) (n:Int) (s g:Nat),(st.env 2=.ptr 2 0 0/\st.heap 2 0=some (.cells (aE iS))/\st.env 3=.ptr 3 0 0/\st.heap 3 0=some (.cells (aE (pD t (rv s g p) Y n)))/\st.env 4=aa d)/\(∀l,R=some l->st.heap 8 kR=some (.row 102 35 l.length (aC l))/\kR<st.aJ 8)/\(∀l,p=some l->st.heap s g=some (.row 102 35 l.length (aC l)))/\(s=52\/s=8/\g=0/\p=Q)/\(ol p).length<=(ol Q).length+d/\TB b p) d ?Su ?Hg ?Bq
  case Hg=>exact⟨0,Q,t.cI,8,0,qd,vn,xx,.inr ⟨rfl,rfl,rfl⟩,WF,hQ,WF,WF⟩
  case Su =>
   clear D sV
   rintro m st' ⟨k,p,n,s,g,D,XJ,hp,hs,W,hB,hk,hm⟩
   by_cases A:(k:Int)<d
   case neg =>
    apply oT (.exit 2)
    ·simp only[Z8,seval,D,A];rfl
    ·exact⟨rfl,p,n,s,g,XC,vp,by simpa only[E8,seval] using hp,hs.imp (·.1) id,WF,hB⟩
   have q0:(0:Int)<=k:=WF
   have hltL:(k:Int)<L.length:=WF
   have hw := (yY k).2
   have lp:((ol p).length:Int)<900000:=WF
   have lp2:bg (ol p).length:=WF
   have ht:0<=(gx cS L (k:Int)).tries/\(gx cS L (k:Int)).tries<=b:=hRb _ (by rw[C];exact lB q0 hltL)
   have s6:(s=6)=False:=eq_false WF
   have X:=((KR st' fun l W=>(XJ l W).1).2.2 k hltL).2
   have ix:∀S:St,bK prog S 53 V (aa k)=some (.ptr 8 kR ((k:Int).toNat * 35)):=fun S=>iV S k A
   have Nu:pB prog 102 (some (.row 102 35 L.length (aC L))) ((k:Int).toNat * 35)=gI prog 102 (cE (gx cS L (k:Int))) 0:=by grind [xF,ZM]
   have eY:∀S:St,S.heap 8 kR=st'.heap 8 kR->cO S Y=some (ov aC R):=fun S e=>(KR S fun l W=>qg).2.1
   have eX:∀S:St,S.heap s g=st'.heap s g->cO S (rv s g p)=some (ov aC p):=fun S e=>jU (fun l W=>by rw[e,hp l W]) fun l _=>dG l
   have aKB:∀r fl st d,oK (aA prog) 135 (some [bd (pD t (ov aC p) (ov aC R) n),.agg (aW r)]) fl st d=some { dst:=d,val:=ae (decide (wG v.ns r))}:=fun r fl st d=>Ee (aWP (t:=pD t (ov aC p) (ov aC R) n) ⟨h.sd,rfl,rfl,lp,h.nR⟩ r)
   by_cases ho:wG v.ns (gx cS L (k:Int)).block
   case neg =>
    apply oN (d-(k+1))
    ·simp only[Z8,seval,D,A,q0,qf,xe,eX,eY,s6,aKB,ix,X,Nu,ho,decide_false,hw];rfl
    ·exact⟨k+1,p,n,s,g,XC,vp,by simpa only[E8,seval,s6] using hp,by simpa only[E8,seval] using hs,WF,hB,WF,rfl⟩
   cases p with
   | none =>
     rw[nJ] at D;have eX:∀S:St,cO S af=some (ov aC (none:Option (List Request))):=fun _=>bY (.v _)
     apply oN (d-(k+1))
     ·simp only[Z8,seval,D,A,q0,qf,xe,eX,eY,s6,aKB,ix,X,Nu,ho,decide_true,Nz,zR,hw];rfl
     ·exact⟨k+1,some [⟨⟨n⟩,(gx cS L (k:Int)).block,(gx cS L (k:Int)).tries,0⟩],u64.wrap (n+1),52,st'.aJ 52,qd,vp,fun l e=>wz,.inl ⟨rfl,Yo⟩,yw,.one ht,WF,rfl⟩
   | some l =>
     have J:=hp l rfl
     rw[iL] at D;have eX:∀S:St,S.heap s g=st'.heap s g->cO S (.own s g)=some (ov aC (some l)):=eX
     rw[dK] at *
     rcases hs with ⟨rfl,hg⟩|⟨rfl,rfl,hQ⟩
     ·have vO:(g=st'.aJ 52)=False:=eq_false WF
      apply oN (d-(k+1))
      ·simp only[Z8,seval,D,A,q0,qf,xe,eX,eY,s6,aKB,ix,X,Nu,ho,decide_true,Nz,zR,J,mS _ _ _ _ lp2,hw];rfl
      ·exact⟨k+1,some (l++[⟨⟨n⟩,(gx cS L (k:Int)).block,(gx cS L (k:Int)).tries,0⟩]),u64.wrap (n+1),52,st'.aJ 52,qd,vp,fun l e=>wz,.inl ⟨rfl,Yo⟩,by grind [dK],hB.snoc ht,WF,rfl⟩
     ·have hk1:(kR=0)=False:=eq_false (by rw[<- hkR,<- hQ];exact Nat.one_ne_zero)
      apply oN (d-(k+1))
      ·simp only[Z8,seval,D,A,q0,qf,xe,eX,eY,s6,aKB,ix,X,Nu,ho,decide_true,Nz,zR,J,mS _ _ _ _ lp2,hw];rfl
      ·exact⟨k+1,some (l++[⟨⟨n⟩,(gx cS L (k:Int)).block,(gx cS L (k:Int)).tries,0⟩]),u64.wrap (n+1),52,st'.aJ 52,qd,by simpa only[E8,seval,hk1,and_false,if_false] using XJ,fun l e=>wz,.inl ⟨rfl,Yo⟩,by grind [dK],hB.snoc ht,WF,rfl⟩
  case Bq =>
   clear D sV
   rintro e st' ⟨rfl,p,n,s,g,D,XJ,hp,hs,W,hB⟩
   have s2:(s=2)=False:=eq_false WF
   have s3:(s=3)=False:=eq_false WF
   have s62:(s=62)=False:=eq_false WF
   have sk:∀l,p=some l->(s=8/\g=kR)=False:=fun l e=>eq_false (by
    rintro⟨rfl,rfl⟩
    obtain⟨_,e1,e2⟩:=hs.resolve_left ZB
    have J:nK Q=1:=by rw[<- e2,e];rfl
    omega)
   have hp2:∀S:St,(∀l,p=some l->S.heap s g=st'.heap s g)->cO S (rv s g p)=some (ov aC p):=fun S e=>jU (fun l W=>by rw[e l W,hp l W]) fun l _=>dG l
   subst C hY;cases R with
   | none =>
     obtain rfl:d=0:=by simpa [ol] using hd
     rw[nJ] at D;have km:∀(st:St) (d:Option Nat),kU (aA prog) 136 [af,aa 0,aa 0] st d=some { dst:=d,val:=af}:=fun st d=>(if_pos (jC (.v _) (.v _) (.v _))).trans (kx aWR (jC (.v _) (.v _) (.v _)) (.v _) st d)
     simp only[Z8,seval,D,Nz,km];exact⟨_,jE rfl qc (cs:=aE (pD t (rv s g p) af n)) xk (Kt G (hp2 _ fun l e=>by simp only[E8,seval,s2,s3,false_and,if_false]) (bY (.v _))),p,none,n,rfl,WF,Nat.zero_le _,hB,nofun⟩
   | some l =>
     rw[dK] at *
     rw[iL] at D;have h8:=(XJ l rfl).1
     have hd81:aA prog 136 [.uniq 102 35 l.length (aC l),aa 0,aa d]=some (.uniq 102 35 (l.drop d).length (aC (l.drop d))):=by
      grind [aV6]
     have km:∀s g dd c,B3 (aA prog) 136 [aa 0,aa d] s g dd c (some (.row 102 35 l.length (aC l)))=_:=fun s g dd c=>Sx (dG l) (aU (.v _) (.v _)) hd81
     simp only[Z8,seval,D,Nz,h8,km];exact⟨_,jE rfl qc (cs:=aE (pD t (rv s g p) (.own 62 (st'.aJ 62)) n)) xk (Kt G (hp2 _ fun l e=>by simp only[E8,seval,s2,s3,s62,sk l e,false_and,if_false]) (Tryz.lR (L:=l.drop d) Wl)),p,some (l.drop d),n,rfl,WF,by grind [dK],hB,hRb.sub fun y m=>mem_of_mem_drop m⟩
end Go.Ab.Tryz
namespace Go.Ab.Tryz
open Classical Go.Proofs Go.Ab
end Go.Ab.Tryz
section
namespace Go.Ab.Tryz
open Classical Go.Proofs Go.Ab
def aNB:aP 0 1 6/\aP 1 3 10/\aP 2 3 13/\aP 3 2 15/\aP 5 3 18/\aP 6 3 20/\aP 7 4 23:=⟨rfl,rfl,rfl,rfl,rfl,rfl,rfl⟩
variable {α:Type} {c:α->List AV} {T E Z b:Nat} {v:List Value}
def gz (T U V:Nat):Code:=Wh (fun n=>if n=53 then T else n) (fun n=>if n=292 then U else if n=293 then V else n) (Tryz.f225.body.getD .skip)
theorem aPq (J:dD prog T=some (E,Z,b)) (aKC:∀x,(c x).length=Z) (m:b<=1000) {f U V:Nat} {fn:Func} (W:prog.funcs[f]? = some fn) (hb:fn.body=some (gz T U V)) (hr:fn.results.toList=[.tmp 6]) (nU:Oq true fn=true) (D:∀xs st,Ext.Zy f xs st=zK E Z xs st)
 (o:Option (List α)) (M:bg (ol o).length) (q:α) (k:Nat) (R:k<=(ol o).length) {s g d2 g2:Nat} (hd:d2≠25) (mC:¬(d2=s/\g2=g)) (p:St) (h1:s=25->g<p.aJ 25) (A:∀l,o=some l->p.heap s g=some (.row E Z l.length (l.flatMap c))) (e2:p.heap d2 g2=some (.row E Z 1 (c q))) :
 ∃X st',oX prog f [rv s g o,aa k,.own d2 g2] p=some (X,st')/\∃a g',X=.own a g'/\(a=s/\g'=p.aJ s\/a=25/\g'=p.aJ 25)/\yQ s g p st'/\g'<st'.aJ a/\st'.heap a g'=some (.row E Z ((ol o).take k++[q]++(ol o).drop k).length (((ol o).take k++[q]++(ol o).drop k).flatMap c)):=by
 have vx:To T 25=false/\pC T 25=false:=by simp[To,pC]
 have C:(To T 25 || pC T 25)=false:=by rw[vx.1,vx.2];rfl
 have sd:(25=d2)=False:=eq_false (fun e=>hd e.symm)
 have sd':(d2=25)=False:=eq_false hd
 cases o with
 | none =>
   obtain rfl:k=0:=Nat.le_zero.1 R
   have sl:∀(S:St) (lo:Operand),S.ev lo=aa 0->dW prog S T af (some lo) none=some af:=fun S lo he=>by
    simp only[dW,J,he,and_self,if_true]
   have Y:My E Z b (some (1,c q))=some (none,.row E Z 1 (c q)):=by
    simp only[My];rw[if_pos ⟨by rw[aKC,Nat.one_mul],WF,xm⟩]
   suffices h:∃r:AV × St,oX prog f [af,aa 0,.own d2 g2] p=some r/\r.1=.own 25 (p.aJ 25)/\yQ s g p r.2/\p.aJ 25<r.2.aJ 25/\r.2.heap 25 (p.aJ 25)=some (.row E Z 1 (c q)) by
    obtain⟨⟨x,st'⟩,h1,rfl,h2,h4,h3⟩:=h
    exact⟨_,st',h1,_,_,rfl,.inr ⟨rfl,rfl⟩,h2,h4,by simpa [ol] using h3⟩
   rw[Aj prog W hb nU _ _ (by rw[D];rfl)]
   simp only[gz,Tryz.f225,Option.getD_some,Wh,O0,N9,List.map_toArray,CH _ _ T 25 C,uF J,Y,ZG,seval,aNB,bV,aN,aV,sl,e2,J,ru];refine⟨_,FV (.inl rfl) hr (x:=.own 25 (p.aJ 25)) ?h1,rfl,⟨fun y h h1 _=>?h2,fun y=>?h3⟩, ?h5, ?h4⟩
   case h1=>rw[pF];simp only[bC,E8,seval,aV]
   case h2 =>
    have n25:(y=25/\h=p.aJ 25)=False:=eq_false qr
    simp only[E8,seval,aN,aV,n25,if_false]
   case h3 =>
    simp only[E8,seval,aN,aV];split<;>subst_vars<;>omega
   case h5=>simp only[E8,seval,aN,aV];omega
   case h4=>simp only[E8,seval,aN,aV]<;>rfl
 | some L =>
   have R:k<=L.length:=R
   have M:bg L.length:=M
   have A:=A L rfl
   rcases Nat.lt_or_ge k L.length with gk|gk
   ·have aN9:(d2,g2)≠(s,g):=fun e=>mC (by simpa using e)
    have G:True/\True/\True/\True/\True/\(0:Int)<=(k:Int)/\(k:Int)<L.length/\L.length<=1000000/\(d2,g2)≠(s,g):=⟨trivial,trivial,trivial,trivial,trivial,WF,WF,WF,aN9⟩
    have h:zK E Z [.own s g,aa k,.own d2 g2] p=some (.own s (p.aJ s),(p.gV s g none).new s (.row E Z (L.length+1) ((L.take k++[q]++L.drop k).flatMap c))):=by
     unfold zK;simp only[A,e2];rw[if_pos G,Int.toNat_natCast,wD aKC,Dk aKC];simp[flatMap_append]
    refine⟨_,_,aGz prog ((D _ _).trans h),s,p.aJ s,rfl,.inl ⟨rfl,rfl⟩,⟨fun y w hw hz=>?_,fun y=>?_⟩,by simp only[TA,Kv,if_true];omega, ?_⟩
    ·have n1:(y=s/\w=p.aJ s)=False:=eq_false qr
     simp only[Fy,qV,Kv,n1,eq_false hz,if_false]
    ·simp only[TA,Kv];split<;>subst_vars<;>omega
    ·have n2:(((ol (some L)).take k++[q]++(ol (some L)).drop k).length)=L.length+1:=Qaq
     rw[n2,dK];simp only[Fy,Kv,and_self,if_true]
   ·obtain rfl:k=L.length:=WF
    have s25:(25=s/\p.aJ 25=g)=False:=eq_false (fun e=>by have:=h1 e.1.symm;omega)
    have s25':(s=25/\g=p.aJ 25)=False:=eq_false (fun e=>by have:=h1 e.1;omega)
    have sl:∀(S:St) (lo:Operand),S.heap s g=some (.row E Z L.length (L.flatMap c))->S.ev lo=aa (L.length:Int)->dW prog S T (.own s g) (some lo) none=some (.sl 0 []):=fun S lo u he=>by
     have h2:(0:Int)<=(L.length:Int):=WF
     have h3:True/\¬((L.length:Int)=0/\0<L.length):=⟨trivial,WF⟩
     simp only[dW,J,u,he,h2,Int.le_refl,and_self,if_true];rw[if_pos h3]
    have N:zK E Z [.own s g,aa (L.length:Int),.own d2 g2] p=none:=by
     unfold zK;simp only[A,e2];rw[if_neg (fun h=>by have:=h.2.2.2.2.2.2.1;omega)]
    have NX:(L.length+1) * b<=140737488355328:=Nat.le_trans (Nat.mul_le_mul (show L.length+1<=1000000 from WF) m) ZB
    have Y:Mz E Z b (some (.row E Z L.length (L.flatMap c))) s g (some (1,c q))=some (some (s,g),.row E Z (L++[q]).length ((L++[q]).flatMap c)):=by
     simp only[Mz];rw[if_pos ⟨by rw[aKC,Nat.one_mul],trivial,trivial,by exact_mod_cast NX,xm⟩]
     simp[flatMap_append]
    suffices h:∃r:AV × St,oX prog f [.own s g,aa (L.length:Int),.own d2 g2] p=some r/\r.1=.own 25 (p.aJ 25)/\yQ s g p r.2/\p.aJ 25<r.2.aJ 25/\r.2.heap 25 (p.aJ 25)=some (.row E Z (L++[q]).length ((L++[q]).flatMap c)) by
     obtain⟨⟨x,st'⟩,h1,rfl,h2,h4,h3⟩:=h
     exact⟨_,st',h1,_,_,rfl,.inr ⟨rfl,rfl⟩,h2,h4,by simpa [ol] using h3⟩
    rw[Aj prog W hb nU _ _ ((D _ _).trans N)];simp only[gz,Tryz.f225,Option.getD_some,Wh,O0,N9,List.map_toArray,CH _ _ T 25 C,rG J,Y,ZG,seval,aNB,bV,aN,aV,sl,A,e2,s25,s25',J,ru];refine⟨_,FV (.inl rfl) hr (x:=.own 25 (p.aJ 25)) ?h1,rfl,⟨fun y h h1 h2=>?h2,fun y=>?h3⟩, ?h5, ?h4⟩
    case h1=>rw[pF];simp only[bC,E8,seval,aV]
    case h2 =>
     have n25:(y=25/\h=p.aJ 25)=False:=eq_false qr
     have nsc:(y=s/\h=g)=False:=eq_false h2
     simp only[E8,seval,aN,aV,n25,nsc,if_false]
    case h3 =>
     simp only[E8,seval,aN,aV];split<;>subst_vars<;>omega
    case h5=>simp only[E8,seval,aN,aV];omega
    case h4=>simp only[E8,seval,aN,aV,s25,s25',false_and,if_false]<;>rfl
end Go.Ab.Tryz
end
