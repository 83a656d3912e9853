/-
  Part 18 of the proof: an evaluator of programs, its soundness, and what functions of this program compute.
-/
import Derived.Test.YtmcjkemalibacaaGreatK17
import Derived.Test.YtmcjkemalibacaaGreatK10
set_option linter.all false
set_option maxRecDepth 20000
set_option maxHeartbeats 40000000
namespace Go.Ab.Tryz
open Classical Go.Proofs Go.Ab
theorem x57 {s:aM} {v:SV} (hs:SD s v) (Q3:((ol v.T).length:Int)<999999) (fQ:y7 v) (hB:0<(ol v.B).length) (hlim:s.cFg.lJ.qC<900000) (c:dQ) (L:List dQ) (hLc:L=[c]):∃x,aB Tryz.prog 57 [.agg (aA s),.sl L.length (pF L)]=some x∧∃(o:Option (List Table)),x=.agg (aA { s with tables:=ov aI o })∧SD { s with tables:=ov aI o } { v with T:=o }∧y7 { v with T:=o }:=by
 have tOk:rZ ⟨c,ov bI v.B⟩:=⟨v.B,rfl,hs.nB⟩
 obtain⟨y,hy,s',e,rfl,UZ,ne,ho⟩:=aK4 hs Q3 ⟨c,ov bI v.B⟩ tOk
 have aDf:=kx hy (bF hs.flat ((iE _).2 tOk.fl)) (.eG _ (bF UZ (.v _)))
 have fin:∃(S1:aM) (o:Option (List Table)),(if e=0 then s' else s)=S1∧S1={ s with tables:=ov aI o }∧SD S1 { v with T:=o }∧y7 { v with T:=o }:=by
  by_cases he:e=0
  ·obtain⟨o',hs',hl,ht,hsub,hn,hx⟩:=ho he
   refine⟨s',o',if_pos he,hs', ?_,⟨fQ.q,fQ.e,fQ.o,hn,fQ.ea,fun t h=>?_⟩⟩
   ·rw[hs'];exact⟨hs.iP,hs.dU,hs.gN,hs.early,hs.bL,hs.tree,rfl,hs.eV,ht,hs.nB,hs.nL,hs.nQ,hs.nE,hs.nO,by show ((ol o').length:Int)<_;omega,hs.nn⟩
   ·rcases hx t h with h|⟨B,h1,h2⟩
    ·exact fQ.tb t h
    ·exact⟨B,h1,fun e=>by rw[e] at h2;simp only[List.length_nil] at h2;omega⟩
  ·exact⟨s,v.T,if_neg he,by rw[← hs.tables],hs,fQ⟩
 obtain⟨S1,o,e1,e2,e3,e4⟩:=fin
 have f1:=e3.flat
 rw[cL Tryz.func57 rfl aSQ rfl];simp only[Z8,seval];have lc:L.length=1:=by rw[hLc];rfl
 refine cI (fun m st=>∃k:Nat,(st.env 1=.sl L.length (pF L)∧st.env 2=.ptr 2 0 0∧st.heap 2 0=some (.cells (aA (if k=0 then s else S1)))∧st.env 4=.ptr 4 0 0∧st.heap 4 0=some (.cells (aA fW))∧st.env 5=.v (.int .i64 k))∧k≤1∧m=1-k)
  (fun e st=>e=.exit 0∧st.env 2=.ptr 2 0 0∧st.heap 2 0=some (.cells (aA S1))∧st.env 4=.ptr 4 0 0∧st.heap 4 0=some (.cells (aA fW))) 1 ?step ?start ?rest
 case step =>
  rintro m st ⟨k,hI,hk,hm⟩
  rcases Nat.lt_or_ge k 1 with h|h
  ·obtain rfl:k=0:=by omega
   have hw:IntKind.i64.wrap 1=1:=by rw[nU _ (by omega) (by omega)]
   have bA:(0:Int)<(L.length:Nat):=by omega
   have g0:gx gP L 0=c:=by rw[hLc];rfl
   simp only[if_true] at hI;by_cases he:e=0
   ·rw[if_pos he] at e1;subst e1;apply oN (0)
    ·simp only[Z8,seval,hI,bA,Int.le_refl,g0,hs.iP,aDf,dN,bt he,hw];rfl
    ·exact⟨1,by simp only[E8,seval,hI,Nat.one_ne_zero,if_false,and_self],by omega,rfl⟩
   ·rw[if_neg he] at e1;subst e1;apply oN (0)
    ·simp only[Z8,seval,hI,bA,Int.le_refl,g0,hs.iP,aDf,dN,bf he,hw];rfl
    ·exact⟨1,by simp only[E8,seval,hI,ite_self,and_self],by omega,rfl⟩
  ·obtain rfl:k=1:=by omega
   have bA:¬((1:Int)<(L.length:Nat)):=by omega
   simp only[Nat.one_ne_zero,if_false] at hI;apply oT (.exit 0)
   ·simp only[Z8,seval,hI,bA];rfl
   ·exact⟨rfl,by simp only[E8,seval,hI]⟩
 case start=>exact⟨0,by simp only[E8,seval]<;>rfl,by omega,rfl⟩
 case rest =>
  rintro e' st ⟨rfl,hI⟩
  simp only[Z8,seval,hI];exact⟨_,fL rfl (by simp only[E8,seval,hI,f1]<;>rfl) (by simp only[Z8,seval,hI,f1]<;>rfl) (by simp only[eC,and_self,hI,f1]),o,by rw[e2],by rw[← e2];exact e3,e4⟩
theorem aDq {l:List Table} {c:dQ} (h:0≤DV l c):∃t∈l,t.ck=c:=by
 unfold DV at h;rcases sY (fun k=>(gx eI l k).ck=c) l.length with ⟨e,_⟩|⟨k,hk,hp,_,_⟩
 ·rw[e] at h;omega
 ·exact⟨_,sH (z:=eI) (i:=(k:Int)) (by omega) (by omega),hp⟩
theorem J2 (l:List Table) (x:Int):qN (qN l x) x=qN l x:=by
 unfold qN;rw[List.filter_filter];congr 1
 funext t
 simp
theorem aHg (s:aM) (c:dQ):c.aG≤(tL s c).aG:=by unfold tL;split<;>omega
theorem aHh (s:aM) (c:dQ):c.aG≤(rD s c).aG:=by unfold rD;split<;>omega
theorem aDr {s:aM} {c J:dQ} (h:s.aL.gI=J) (hl:c.aG≤J.aG):tL s c=J:=by
 unfold tL;rw[h,if_neg (by omega)]
theorem A9 {s:aM} {c F:dQ} (h:s.aL.fin=F) (hl:c.aG≤F.aG):rD s c=F:=by
 unfold rD;rw[h,if_neg (by omega)]
theorem QK {t:aM} {w:SV} (h:SD t w) {a b:dQ} {J F:dQ} (hJ:t.aL.gI=J) (hF:t.aL.fin=F) (ha:a.aG≤J.aG) (hb:b.aG≤F.aG) {D:List Table} (hT:w.T=some D) (hD:qN D J.aG=D):Oa t w a b=t:=by
 unfold Oa;rw[aDr hJ ha,A9 hF hb];split
 ·rfl
 ·rw[if_pos hF.symm,hT];show { t with aL:=⟨J,F⟩,tables:=ov aI (some (qN D J.aG))}=t
  rw[hD,← hT,← h.tables,← hJ,← hF]
structure UpT (s t:aM) (v w:SV) (a b:dQ):Prop where
 sd:SD t w
 up:gK w.ns
 Xs:(nd w.ns 0).up<0
 pos:0<w.ns.length
 B:w.B=v.B
 L:w.L=v.L
 ne:y7 w∨(w.O=some []∧y7 { w with O:=none }∧rD t b=t.aL.fin)
 jH:t.cFg.jH=s.cFg.jH
 now:t.now=s.now
 j:Rg t.aL.gI.aG
 f:Rg t.aL.fin.aG
 fix:Oa t w a b=t
theorem aAq {s:aM} {v:SV} (hs:SD s v) (hu:gK v.ns) (hr:(nd v.ns 0).up<0) (hp:1≤s.cFg.jH∧s.cFg.jH≤64) (hx:Rg s.now) (hj:Rg s.aL.gI.aG) (Pf:Rg s.aL.fin.aG) (fQ:y7 v) (ht:0<v.ns.length) (a b:dQ) (h1:Rg a.aG) (h2:Rg b.aG):∃w,UpT s (Oa s v a b) v w a b:=by
 by_cases hb:jX s v (tL s a) (rD s b)
 ·have e:Oa s v a b=s:=by unfold Oa;rw[if_pos hb]
  rw[e];exact⟨v,hs,hu,hr,ht,rfl,rfl,.inl fQ,rfl,rfl,hj,Pf,e⟩
 have oS:=(Yd hp hx (by unfold tL;split<;>assumption) (by unfold rD;split<;>assumption)).2 hb
 have la:=aHg s a
 have lb:=aHh s b
 have rJ:Rg (tL s a).aG:=by unfold tL;split<;>assumption
 have rF:Rg (rD s b).aG:=by unfold rD;split<;>assumption
 obtain⟨J,eJ⟩:∃J,tL s a=J:=⟨_,rfl⟩
 obtain⟨F,eF⟩:∃F,rD s b=F:=⟨_,rfl⟩
 have eU:Oa s v a b=_:=if_neg hb
 rw[eU];rw[eJ,eF] at oS ⊢;rw[eJ] at la rJ;rw[eF] at lb rF;obtain⟨⟨f1,f2,f3,f4⟩,_,_,_,_,hT0⟩:=oS
 cases QI:v.T with
 | none=>rw[QI] at hT0;exact absurd hT0 (by show ¬(0:Int)≤-1;omega)
 | some LT =>
 rw[QI,yY] at hT0;obtain⟨x,hx1,hx2⟩:=aDq hT0
 obtain⟨D,hD⟩:∃D,qN LT J.aG=D:=⟨_,rfl⟩
 have D1:qN D J.aG=D:=by rw[← hD,J2]
 have D2:x∈D:=by rw[← hD];exact List.mem_filter.2 ⟨hx1,by rw[hx2];simp⟩
 have D3:∀y∈D,y∈LT:=fun y hy=>by rw[← hD] at hy;exact (List.mem_filter.1 hy).1
 have D4:(some D:Option (List Table))≠some []:=fun e=>by rw[Option.some.inj e] at D2;cases D2
 have nT:=hs.nT
 have tB:=hs.tB
 have tb:=fQ.tb
 rw[QI,yY] at nT tB tb;have D5:(D.length:Int)<1000000:=by have:=List.length_filter_le (fun t:Table=>decide (J.aG≤t.ck.aG)) LT;rw[← hD];unfold qN;omega
 by_cases Q9:F=s.aL.fin
 ·rw[if_pos Q9];show ∃w,UpT s { s with aL:=⟨J,F⟩,tables:=ov aI (some (qN LT J.aG))} v w a b
  rw[hD];have d:SD { s with aL:=⟨J,F⟩,tables:=ov aI (some D)} { v with T:=some D }:=⟨hs.iP,hs.dU,hs.gN,hs.early,hs.bL,hs.tree,rfl,hs.eV,fun y hy=>tB y (D3 y hy),hs.nB,hs.nL,hs.nQ,hs.nE,hs.nO,D5,hs.nn⟩
  exact⟨_,d,hu,hr,ht,rfl,rfl,.inl ⟨fQ.q,fQ.e,fQ.o,D4,fQ.ea,fun y hy=>tb y (D3 y hy)⟩,rfl,rfl,rJ,rF,QK d rfl rfl la lb rfl D1⟩
 ·rw[if_neg Q9];have fr:=eQ v.ns F.root
  obtain⟨i,hi⟩:∃i,aN v.ns F.root=i:=⟨_,rfl⟩
  rw[hi] at f1 fr ⊢;obtain⟨pn,hpn⟩:∃pn,(jQ v.ns i v.ns.length).1=pn:=⟨_,rfl⟩
  have ias:=Ih hu f1 fr.2
  have pu:gK pn:=by rw[← hpn];exact o8 hu ias
  have pz:=IW hu ias
  have pa:=(GO hu ias).2.2
  rw[pz,hpn,if_pos rfl] at pa;have p0:(nd pn 0).up<0:=by rw[pa];show (-1:Int)<0;omega
  have pp:0<pn.length:=List.length_pos_iff.2 (by rw[← hpn];exact VM v.ns hu f1 fr.2)
  have pl:(pn.length:Int)<1000000:=by rw[← hpn];have:=Tb (ns:=v.ns) i;have:=hs.nn;omega
  rw[hpn];obtain⟨O,hO⟩:∃O,(v.O.map fun l=>l.filter fun b=>decide ((vC s F.aG).1<b.slot))=O:=⟨_,rfl⟩
  have lO:((ol O).length:Int)<1000000:=by
   have n:=hs.nO
   rw[← hO];cases hv:v.O with
   | none=>show ((0:Nat):Int)<_;omega
   | some l =>
     rw[hv,yY] at n;have:=List.length_filter_le (fun b:Block=>decide ((vC s F.aG).1<b.slot)) l
     show ((l.filter _).length:Int)<_
     omega
  rw[hO];obtain⟨bo,DO⟩:∃bo,(if aN pn s.eE<0 then dR else s.eE)=bo:=⟨_,rfl⟩
  rw[DO];show ∃w,UpT s { s with aL:=⟨J,F⟩,tables:=ov aI (some (qN LT J.aG)),tree:=⟨.sl pn.length (bU pn)⟩,eE:=bo,cC:={ s.cC with bL:=ov aF O }} v w a b
  rw[hD];have d:SD { s with aL:=⟨J,F⟩,tables:=ov aI (some D),tree:=⟨.sl pn.length (bU pn)⟩,eE:=bo,cC:={ s.cC with bL:=ov aF O }} { v with T:=some D,ns:=pn,O:=O }:=⟨hs.iP,hs.dU,hs.gN,hs.early,rfl,rfl,rfl,hs.eV,fun y hy=>tB y (D3 y hy),hs.nB,hs.nL,hs.nQ,hs.nE,lO,D5,pl⟩
  refine⟨_,d,pu,p0,pp,rfl,rfl, ?_,rfl,rfl,rJ,rF,QK d rfl rfl la lb rfl D1⟩
  by_cases ho:O=some []
  ·exact .inr ⟨ho,⟨fQ.q,fQ.e,nofun,D4,fQ.ea,fun y hy=>tb y (D3 y hy)⟩,A9 rfl lb⟩
  ·exact .inl ⟨fQ.q,fQ.e,ho,D4,fQ.ea,fun y hy=>tb y (D3 y hy)⟩
theorem c18 (l:List Int) (k:Int) (hl:(l.length:Int)≤9223372036854775807):aB Tryz.prog 18 [.sl l.length (aK l),.v (.int .i64 k)]=some (.v (.bool true)):=by
 obtain⟨t,v,Q,R,hy,T⟩:=x24 l hl
 have k24:=kx hy (cV (Sw l)) T.td.flat
 have hs:=T.gi.sd
 have fs:=hs.flat
 obtain⟨kk,hkk⟩:∃kk,IntKind.i64.wrap ((BitVec.ofInt IntKind.i64.bits k &&& BitVec.ofInt IntKind.i64.bits 16777215).toNat:Int)=kk:=⟨_,rfl⟩
 obtain⟨y,hy2,a,b,rfl,ra,rb⟩:=x56 T.gi T.rg kk
 have k56:=kx hy2 (bF fs (.v _)) (.eG _ (bF (.agg _ (bR a)) (.agg _ (bR b))))
 obtain⟨hB,L,hL,hL0⟩:=T.lists
 have Ws:v.L≠some []:=fun e=>hL0 (Option.some.inj (hL.symm.trans e))
 have V0:Rg t.store.now:=⟨T.rg.now.1,by have:=T.rg.now.2;omega⟩
 have aCY:=T.toTI0.iP
 have hnT:=T.gi.nT
 have hnTB:=T.gi.UX
 obtain⟨z,hz,o,rfl,d1,n1⟩:=x57 hs (by omega) T.rg.ne aCY.1 (by omega) a [a] rfl
 obtain⟨s1,hs1⟩:∃s1,({ t.store with tables:=ov aI o }:aM)=s1:=⟨_,rfl⟩
 have sp1:1≤s1.cFg.jH∧s1.cFg.jH≤64:=by rw[← hs1];exact T.gi.jH
 have nw1:Rg s1.now:=by rw[← hs1];exact V0
 have j1:Rg s1.aL.gI.aG:=by rw[← hs1];exact T.rg.j
 have f1:Rg s1.aL.fin.aG:=by rw[← hs1];exact T.rg.f
 rw[hs1] at hz d1;have fs1:=d1.flat
 have Xs:(nd v.ns 0).up<0:=by rw[T.gi.Xs];omega
 have h60:=c60 d1 T.gi.up Xs sp1 nw1 j1 f1 n1 hB Ws T.gi.pos a b ra rb
 obtain⟨w,W⟩:=aAq d1 T.gi.up Xs sp1 nw1 j1 f1 n1 T.gi.pos a b ra rb
 obtain⟨u,hu⟩:∃u,Oa s1 { v with T:=o } a b=u:=⟨_,rfl⟩
 rw[hu] at h60 W;have fu:=W.sd.flat
 have wB:w.B≠some []:=by rw[W.B];exact hB
 have wL:w.L≠some []:=by rw[W.L];exact Ws
 have sp2:1≤u.cFg.jH∧u.cFg.jH≤64:=by rw[W.jH];exact sp1
 have nw2:Rg u.now:=by rw[W.now];exact nw1
 have h60b:aB Tryz.prog 60 [.agg (aA u),.agg (bB a),.agg (bB b)]=some (.agg (aA u)):=by
  have e:aB Tryz.prog 60 [.agg (aA u),.agg (bB a),.agg (bB b)]=some (.agg (aA (Oa u w a b))):=by
   rcases W.ne with h|⟨h3,h4,h5⟩
   ·exact c60 W.sd W.up W.Xs sp2 nw2 W.j W.f h wB wL W.pos a b ra rb
   ·exact aSM W.sd h3 W.up sp2 nw2 W.j W.f h4 wB wL W.pos a b ra rb h5
  rw[W.fix] at e;exact e
 have fc:∀c:dQ,Flat (.agg (bB c)):=fun c=>.agg _ (bR c)
 have k60a:=kx h60 (mE fs1 (fc a) (fc b)) fu
 have k60b:=kx h60b (mE fu (fc a) (fc b)) fu
 have k42':=k42 W.sd
 have htr:=W.sd.tree
 have hp:(0:Int)<(w.ns.length:Int):=by have:=W.pos;omega
 have k57:∀(st:St) (p g:Nat) (d:Option Nat),st.heap p g=some (.row 41 33 1 (bB a))→fG (aB Tryz.prog) 57 [.agg (aA t.store),.own p g] st d=some { dst:=d,val:=.agg (aA s1),dS:=some (p,g,none)}:=fun st p g d hh=>by
  have hh':fP st (.own p g)=some (.sl [a].length (pF [a])):=by
   have:pF [a]=bB a:=by simp[pF]
   rw[this];exact AP hh (bR _)
  rw[Qj (s:=p) (k:=g) (by rw[List.flatMap_cons,vT fs];rfl) (by intro y hy;simp only[List.mem_cons,List.not_mem_nil,or_false] at hy;rcases hy with rfl|rfl;exact .inl fs;exact .inr (.inl ⟨p,g,rfl⟩)),List.map_cons,List.map_cons,List.map_nil,eB fs,hh',bM,bM,fY]
  exact OW hz fs1
 rw[cL Tryz.func18 rfl aSV rfl];refine iT ?_
 simp only[Z8,seval,k24,hkk,k56,dN,k57,k60a,k60b,k42',htr,hp,beI,beB,beq_self_eq_true,k62,mG,mH];exact⟨_,bZ rfl (by simp only[E8,seval]<;>rfl) (by first|exact .v _|simp only[eC]),rfl⟩
end Go.Ab.Tryz
