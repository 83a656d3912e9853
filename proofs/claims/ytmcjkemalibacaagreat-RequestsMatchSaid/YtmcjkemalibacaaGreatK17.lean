/-
  Part 17 of the proof: an evaluator of programs, its soundness, and what functions of this program compute.
-/
import Derived.Test.YtmcjkemalibacaaGreatK16
import Derived.Test.YtmcjkemalibacaaGreatK18
set_option linter.all false
set_option maxRecDepth 20000
set_option maxHeartbeats 40000000
namespace Go.Ab.Tryz
open Classical Go.Proofs Go.Ab
theorem c82 (o p:Option (List Request)) (e:ol p=ol o) (hn:((ol o).length:Int)<1000000):aC Tryz.prog 82 [ov aA o,ov aA p]=some (.v (.bool true)):=by
 rw[cL Tryz.func82 rfl aQx (by cases o<;>cases p<;>rfl)]
 refine jR ?_
 simp only[Z8,seval,e,JM];refine cH (fun m st=>∃k:Nat,(st.env 0=ov aA o∧st.env 1=ov aA p∧st.env 5=.v (.int .i64 k))∧k≤(ol o).length∧m=(ol o).length-k)
  (fun e st=>e=.exit 0) (ol o).length ?step ?start ?rest
 case step =>
  rintro m st ⟨k,hI,hk,hm⟩
  by_cases bB:(k:Int)<(ol o).length
  ·have q0:(0:Int)≤k:=by omega
   have hw:IntKind.i64.wrap ((k:Int)+1)=((k+1:Nat):Int):=by rw[qA _ (by omega) (by omega)];omega
   apply oN ((ol o).length-(k+1))
   ·simp only[Z8,seval,e,hI,bB,q0,JM,decide_true,Bool.not_true,hw];rfl
   ·exact⟨k+1,by simp only[E8,seval,hI],by omega,rfl⟩
  ·apply oT (.exit 0)
   ·simp only[Z8,seval,e,hI,bB];rfl
   ·exact rfl
 case start=>exact⟨0,by simp only[E8,seval]<;>exact⟨rfl,rfl,rfl⟩,by omega,by omega⟩
 case rest =>
  rintro e st rfl
  simp only[Z8,seval];exact⟨_,bT rfl (by simp only[E8,seval]<;>rfl) (by first|exact .v _|simp only[dY]),rfl⟩
theorem k82 (o p:Option (List Request)) (e:ol p=ol o) (hn:((ol o).length:Int)<1000000) (st:St) (d:Option Nat):aN (aC Tryz.prog) 82 [ov aA o,ov aA p] st d=some { dst:=d,val:=.v (.bool true)}:=bI (bE (dF o) (dF p)) (c82 o p e hn) (.v _)
theorem c28 {t:State} {v:SV} {Q R:Option (List Request)} (h:TD t v Q R) (Q' R':Option (List Request)) (eQ:ol Q'=ol Q) (eR:ol R'=ol R):aC Tryz.prog 28 [.agg (aI (Ww t t.store (ov aA Q') (ov aA R'))),.agg (aI t)]=some (.v (.bool true)):=by
 have nQ:((ol Q').length:Int)<1000000:=by rw[eQ];have:=h.nQ;omega
 have nR:((ol R').length:Int)<1000000:=by rw[eR];have:=h.nR;omega
 have kq:=k82 Q' Q eQ.symm nQ
 have kr:=k82 R' R eR.symm nR
 have jJ:=h.fl
 have ft:Flat (.agg (aI (Ww t t.store (ov aA Q') (ov aA R')))):=(lO _).2 ⟨jJ.1,jJ.2.1,jJ.2.2.1,jJ.2.2.2.1,jJ.2.2.2.2.1,jJ.2.2.2.2.2.1,jJ.2.2.2.2.2.2.1,dF Q',dF R'⟩
 rw[cL Tryz.func28 rfl aLx rfl];refine jR ?_
 simp only[Z8,seval,Ww,h.Bx,h.ret,k42 h.sd,kq,kr,JM,G3,beB,decide_true,gW,gX];exact⟨_,bT rfl (by simp only[E8,seval]<;>rfl) (by first|exact .v _|simp only[dY]),rfl⟩
theorem k28 {t:State} {v:SV} {Q R:Option (List Request)} (h:TD t v Q R) (Q' R':Option (List Request)) (eQ:ol Q'=ol Q) (eR:ol R'=ol R) (st:St) (d:Option Nat):aN (aC Tryz.prog) 28 [.agg (aI (Ww t t.store (ov aA Q') (ov aA R'))),.agg (aI t)] st d=some { dst:=d,val:=.v (.bool true)}:=by
 have jJ:=h.fl
 have ft:Flat (.agg (aI (Ww t t.store (ov aA Q') (ov aA R')))):=(lO _).2 ⟨jJ.1,jJ.2.1,jJ.2.2.1,jJ.2.2.2.1,jJ.2.2.2.2.1,jJ.2.2.2.2.2.1,jJ.2.2.2.2.2.2.1,dF Q',dF R'⟩
 exact bI (bE ft h.flat) (c28 h Q' R' eQ eR) (.v _)
theorem aQz:aC Tryz.prog 42 [.agg (aB eF),.agg (aB eF)]=some (.v (.bool true)):=by
 obtain⟨r,hr,rfl⟩:∃r,aC Tryz.prog 42 [.agg (aB eF),.agg (aB eF)]=some r∧r=.v (.bool true):=by
  rw[cG Tryz.func42 rfl aLw (by kernel_rfl) rfl]
  have n0:∀ {α:Type},((ol (none:Option (List α))).length:Int)<1000000:=by intro α;show ((0:Nat):Int)<_;omega
  have kB:∀(st:St) (d:Option Nat),aN (aC Tryz.prog) 103 [.v (.slice none 0 0),.v (.slice none 0 0)] st d=some { dst:=d,val:=.v (.bool true)}:=L3 none n0
  have kL:∀(st:St) (d:Option Nat),aN (aC Tryz.prog) 104 [.v (.slice none 0 0),.v (.slice none 0 0)] st d=some { dst:=d,val:=.v (.bool true)}:=aLq none n0
  have kQ:∀(st:St) (d:Option Nat),aN (aC Tryz.prog) 105 [.v (.slice none 0 0),.v (.slice none 0 0)] st d=some { dst:=d,val:=.v (.bool true)}:=O6 none n0
  have kT:∀(st:St) (d:Option Nat),aN (aC Tryz.prog) 107 [.v (.slice none 0 0),.v (.slice none 0 0)] st d=some { dst:=d,val:=.v (.bool true)}:=aLt none n0 (fun a h=>by simp[ol] at h)
  have hb:eF.cFg.jI=.v (.slice none 0 0):=rfl
  have hl:eF.fV.dV=.v (.slice none 0 0):=rfl
  have hq:eF.fV.gU=.v (.slice none 0 0):=rfl
  have he:eF.dM.early=.v (.slice none 0 0):=rfl
  have ho:eF.dM.bU=.v (.slice none 0 0):=rfl
  have ht:eF.tables=.v (.slice none 0 0):=rfl
  have hn:mI eF.tree=[.v (.slice none 0 0)]:=rfl
  simp only[ZG,seval,Bool.false_and,Prod.mk.injEq,MG,aEm,hb,hl,hq,he,ho,ht,hn,JM,G3,kB,kL,kQ,aIG,kT,decide_true,Bool.not_true,gW,gX,Wy,Int.natCast_zero,Int.lt_irrefl,decide_false];exact⟨_,bT rfl (by simp only[E8,seval]<;>rfl) (by first|exact .v _|simp only[dY]),rfl⟩
 exact hr
structure WT (t:State) (v:SV):Prop where
 td:TD t v (some [⟨⟨1⟩,mkRoot 9,0,0⟩]) none
 ne:NEv v
 hB:v.B≠some []
 hL:v.L≠some []
 pos:0<v.ns.length
 op:xK v.ns (mkRoot 9)
 tag:t.cJ=2
 now:t.store.now=1
theorem x83:∃r,aC Tryz.prog 83 []=some r∧∃(t:State) (v:SV),r=.agg (aI t)∧WT t v:=by
 obtain⟨y,hy,c,b,rfl,hc⟩:=aKV [7] (by decide)
 have fc:Flat (.agg (bS c)):=(xV c).2 (by rw[hc.jI];exact dR _)
 have aBC:∀(st:St) (a g:Nat) (d:Option Nat),st.heap a g=some (.row 3 1 1 [.v (.int .i64 7)])→fC (aC Tryz.prog) 101 [.own a g] st d=some { dst:=d,val:=.agg (bS c),dJ:=some (a,g,none)}:=fun st a g d hh=>by
  rw[Ii (s:=a) (k:=g) rfl (by intro y hy;simp only[List.mem_cons,List.not_mem_nil,or_false] at hy;subst hy;exact .inr (.inl ⟨a,g,rfl⟩)),List.map_cons,List.map_nil,Ij (L:=[7]) hh,bR,gR]
  exact DF hy fc
 obtain⟨y2,hy2,yU,last,y3,rfl,fy⟩:=aK5 hc
 have g0:=(GI.new hc).now 1
 have r0:=RG.new hc
 have gf:=N8 hc
 obtain⟨s0,hs0⟩:∃s0,SM c b=s0:=⟨_,rfl⟩
 have J2:s0.cFg=c:=by rw[← hs0];rfl
 have EZ:s0.aG.fin=⟨0,c.eB⟩:=by rw[← hs0];rfl
 have htr:s0.tree=⟨.sl (Tb c b).ns.length (cC (Tb c b).ns)⟩:=by rw[← hs0];rfl
 have hb0:({ p5 c b with yU:=yU,last:=last }:State)={ store:=s0,dQ:=.v (.slice none 0 0),mV:=.v (.slice none 0 0),cJ:=1,yU:=yU,last:=last,overflow:=false,halted:=false }:=by rw[← hs0];rfl
 rw[hs0] at g0;have wQ:=((TI.new hc).emit yU last).td.flat
 have N5:=kx hy2 (cO fc) (.eE _ (lN wQ fy (.v _)))
 rw[hb0] at N5;obtain⟨w,hw⟩:∃w,Tb c b=w:=⟨_,rfl⟩
 rw[hw] at g0 gf htr r0;have hslot:(nd w.ns 0).block.slot=0:=by rw[← hw];rfl
 have hlen:w.ns.length=1:=by rw[← hw];rfl
 have kI:∀B:Block,B.root=mkRoot 9→B.parent=c.eB→B.slot=1→∀(st:St) (d:Option Nat),aN (aC Tryz.prog) 149 [.agg (cP ⟨w.ns⟩),.agg (aU B),.v (.int .i64 0)] st d=some { dst:=d,val:=.eE [.agg (cP ⟨w.ns++[⟨B,0,0⟩]⟩),.v (.int .i64 0)]}:=fun B h1 h2 h3 st d=>by
  have hE:Sz w.ns B 0=0:=by
   unfold Sz;rw[if_neg (by decide),h1,gf.2,if_neg (by omega),h2,gf.1,if_neg (by omega),hslot,h3,if_neg (by omega),if_neg (by rw[hlen];omega)]
  have hA:Dq w.ns B 0=.eE [.agg (cP ⟨w.ns++[⟨B,0,0⟩]⟩),.v (.int .i64 0)]:=by
   unfold Dq;rw[if_pos hE,h2,gf.1]
  rw[← hA];exact aIv w.ns g0.sd.nn B 0 st d
 obtain⟨T1,SU⟩:∃T1:Block→State,T1=fun B=>{ store:={ cFg:=c,fV:=s0.fV,aG:=s0.aG,dM:=s0.dM,tree:={ nodes:=.sl (w.ns++[(⟨B,0,0⟩:Node)]).length (cC (w.ns++[⟨B,0,0⟩]))},now:=1,iD:=s0.iD,tables:=s0.tables },dQ:=.v (.slice none 0 0),mV:=.v (.slice none 0 0),cJ:=1,yU:=yU,last:=last,overflow:=false,halted:=false }:=⟨_,rfl⟩
 have hP:∀B:Block,B.root=mkRoot 9→B.parent=c.eB→B.iL=mkRoot 109→TD (T1 B) { w with ns:=w.ns++[⟨B,0,0⟩]} none none∧xK (w.ns++[⟨B,0,0⟩]) (mkRoot 9):=fun B h1 h2 h3=>by
  have hs:Mw B=0:=by
   unfold Mw;rw[h3,if_neg];intro e;have e1:IntKind.u8.wrap 109=dK[0]:=by rw[← sY,e]
   rw[show dK[0]=0 from rfl] at e1
   exact absurd e1 (by decide)
  have hi:zV w B=w.ns++[⟨B,0,0⟩]:=by unfold zV;rw[h2,gf.1,hs]
  have g1:=g0.Ja (b:=B) (by rw[hlen];show ((1:Nat):Int)<s0.cFg.mA.rK;rw[J2];have:=hc.n6;omega) (by rw[h2,gf.1];omega)
  have eS:Tryz.Ja { s0 with now:=1 } w B=(T1 B).store:=by rw[SU];unfold Tryz.Ja;rw[hi];simp only[J2]
  have eW:Gr w B={ w with ns:=w.ns++[⟨B,0,0⟩]}:=by unfold Gr;rw[hi]
  rw[eS,eW] at g1;have n0:((ol (none:Option (List Request))).length:Int)<900000:=by show ((0:Nat):Int)<_;omega
  refine⟨⟨g1.sd,by rw[SU];rfl,by rw[SU];rfl,n0,n0⟩, ?_⟩
  have f9:aM (w.ns++[⟨B,0,0⟩]) (mkRoot 9)=1:=by
   rw[← hw];have e:(Tb c b).ns=[⟨FF c,-1,1⟩]:=rfl
   rw[e];unfold aM;have gT:¬(FF c).root=mkRoot 9:=by show ¬c.eB=mkRoot 9;rw[hc.gen];exact aEg (by omega) (by omega) (by omega) (by omega) (by omega)
   simp[List.findIdx?_cons,gT,h1]
  refine⟨by rw[f9];omega, ?_⟩
  rw[f9,← hw];rfl
 have kO:∀B:Block,B.root=mkRoot 9→B.parent=c.eB→B.iL=mkRoot 109→∀(st:St) (a g:Nat) (d:Option Nat),st.heap a g=some (.row 27 32 1 (aZ (mkRoot 9))) →
  fC (aC Tryz.prog) 32 [.agg (aI (T1 B)),.own a g] st d=some { dst:=d,val:=.agg (aI (FI (T1 B) (some [⟨⟨1⟩,mkRoot 9,0,0⟩],2))),dJ:=some (a,g,none)}:=fun B h1 h2 h3 st a g d hh=>by
  obtain⟨p1,p2⟩:=hP B h1 h2 h3
  have h:=c32 p1 (some [mkRoot 9]) (by show ((0:Nat):Int)+((1:Nat):Int)<_;omega)
  have hO:Kt (w.ns++[⟨B,0,0⟩]) (none,(T1 B).cJ) (ol (some [mkRoot 9]))=(some [⟨⟨1⟩,mkRoot 9,0,0⟩],2):=by
   rw[SU];show QS _ (none,1) (mkRoot 9)=_
   unfold QS;rw[if_pos p2];rfl
  have p1n:({ w with ns:=w.ns++[⟨B,0,0⟩]}:SV).ns=w.ns++[⟨B,0,0⟩]:=rfl
  rw[p1n,hO] at h;have jJ:=p1.fl
  have fo:Flat (.agg (aI (FI (T1 B) (some [⟨⟨1⟩,mkRoot 9,0,0⟩],2)))):=(lO _).2 ⟨jJ.1,jJ.2.1,jJ.2.2.1,jJ.2.2.2.1,jJ.2.2.2.2.1,jJ.2.2.2.2.2.1,jJ.2.2.2.2.2.2.1,dF (some _),jJ.2.2.2.2.2.2.2.2⟩
  have hh':fO st (.own a g)=some (ov gJ (some [mkRoot 9])):=by
   have:gJ [mkRoot 9]=aZ (mkRoot 9):=by simp[gJ]
   show _=some (AV.sl 1 (gJ [mkRoot 9]))
   rw[this];exact P2 hh (dP _)
  have ft:=p1.flat
  rw[Ii (s:=a) (k:=g) (by rw[List.flatMap_cons,vB ft];rfl) (by intro y hy;simp only[List.mem_cons,List.not_mem_nil,or_false] at hy;rcases hy with rfl|rfl;exact .inl ft;exact .inr (.inl ⟨a,g,rfl⟩)),List.map_cons,List.map_cons,List.map_nil,dX ft,hh',bR,bR,gR]
  exact DF h fo
 simp only[SU] at kO;rw[cL Tryz.func83 rfl aQA rfl];simp only[Z8,seval,aBC,N5,eA,J2,EZ,htr,Po,kI,kO];obtain⟨B,hB⟩:∃B:Block,B=⟨⟨⟨0,c.eB⟩,⟨0,c.eB⟩⟩,1,mkRoot 9,c.eB,mkRoot 109,fB.diff,fB.Vt,⟨0,c.eB⟩,⟨0,c.eB⟩,fB.Bk⟩:=⟨_,rfl⟩
 obtain⟨p1,p2⟩:=hP B (by rw[hB]) (by rw[hB]) (by rw[hB])
 have jJ:=p1.fl
 have fo:Flat (.agg (aI (FI (T1 B) (some [⟨⟨1⟩,mkRoot 9,0,0⟩],2)))):=(lO _).2 ⟨jJ.1,jJ.2.1,jJ.2.2.1,jJ.2.2.2.1,jJ.2.2.2.2.1,jJ.2.2.2.2.2.1,jJ.2.2.2.2.2.2.1,dF (some _),jJ.2.2.2.2.2.2.2.2⟩
 have hw':w.B=some b∧w.L=some (List.replicate b.length rU):=by rw[← hw];exact⟨rfl,rfl⟩
 refine⟨_,fF rfl (by simp only[E8,seval]<;>rfl) (by simp only[Z8,seval]<;>rfl) ?fl,FI (T1 B) (some [⟨⟨1⟩,mkRoot 9,0,0⟩],2),{ w with ns:=w.ns++[⟨B,0,0⟩]}, ?eq,⟨⟨p1.sd,rfl,p1.ret,by show ((1:Nat):Int)<_;omega,p1.nR⟩, ?_, ?_, ?_, ?_,p2,rfl,by rw[SU];rfl⟩⟩
 case fl=>subst SU hB;exact fo
 case eq=>subst SU hB;rfl
 ·exact⟨r0.ne.q,r0.ne.e,r0.ne.o,r0.ne.t,r0.ne.ea,r0.ne.tb⟩
 ·show w.B≠some []
  rw[hw'.1];have:=hc.nb
  intro e;cases e
  simp at this
 ·show w.L≠some []
  rw[hw'.2];have:=hc.nb
  intro e;have h2:=congrArg List.length (Option.some.inj e)
  rw[List.length_replicate,List.length_nil] at h2;omega
 ·show 0<(w.ns++[(⟨B,0,0⟩:Node)]).length
  simp
theorem aQB {t:State} {v:SV} {Q R:Option (List Request)} (h:TD t v Q R) (w:eD) (hj:∀j:Nat,j<(ol Q).length→¬zB (ol Q) w.tagged.tag j):aC Tryz.prog 26 [.agg (aI t),.agg (bN w)]=some (.eE [.agg (bK bW),.agg (aI gP),.v (.int .i64 23)]):=by
 have Mk:=tC
 have nQ1:((ol Q).length:Int)<1000000:=by have:=h.nQ;omega
 have q77:∀(args:List AV) (st:St) (d:Option Nat),aN (aC Tryz.prog) 77 args st d=tQ (aC Tryz.prog) 77 (cE (args.map (fO st))) (decide (∀x∈args,Flat x)) st d:=fun args st d=>mU _ _ _ _ _
 have k77:∀(fl:Bool) (st:St) (d:Option Nat),tQ (aC Tryz.prog) 77 (some [ov aA Q,.Ev 78 [.ip (bN w) 0]]) fl st d=some { dst:=d,val:=.v (.int .i64 (Bj (zB (ol Q) w.tagged.tag) (ol Q).length))}:=fun fl st d=>DE (c77 Q nQ1 w)
 have eV:∀(st:St) (o:Nat),CL st (some (.cells (bN w))) o=some (.ip (bN w) o):=fun st o=>Vg st (gE w) o
 refine jR ?_
 rw[cG Tryz.func26 rfl aLv (by kernel_rfl) rfl]
 rw[sT _ hj] at k77;simp only[ZG,seval,Bool.false_and,Prod.mk.injEq,aFD,h.Bx,q77,Ps,eV,k77];exact⟨_,by apply cN;rfl;all_goals simp only[aE,bJ,Z8,seval,Mk]<;>rfl,rfl⟩
theorem c29:aC Tryz.prog 29 []=some (.v (.bool true)):=by
 obtain⟨r,hr,t,v,rfl,W⟩:=x83
 have ft:=W.td.flat
 have k83:=kx hr (fun x h=>by cases h) ft
 obtain⟨y,hy,⟨hj,_⟩|⟨k,hk,hh,hj,rfl⟩⟩:=c26 W.td W.ne W.hB W.hL W.pos nofun nofun ⟨⟨1⟩,zC.kind,zC.dV⟩
 ·exact absurd rfl (hj 0 (by show 0<1;omega))
 obtain rfl:k=0:=by have:k<1:=hk;omega
 have n0:((ol (some ([]:List Request))).length:Int)<900000:=by show ((0:Nat):Int)<_;omega
 have T2:TD { t with dQ:=ov aA (some [])} v (some []) none:=⟨W.td.sd,rfl,W.td.ret,n0,W.td.nR⟩
 have p4:=T2.flat
 have e1:({ t with dQ:=ov aA (some ((ol (some [(⟨⟨1⟩,mkRoot 9,0,0⟩:Request)])).take 0++(ol (some [(⟨⟨1⟩,mkRoot 9,0,0⟩:Request)])).drop (0+1)))}:State)={ t with dQ:=ov aA (some [])}:=rfl
 have e2:gx bW (ol (some [(⟨⟨1⟩,mkRoot 9,0,0⟩:Request)])) ((0:Nat):Int)=⟨⟨1⟩,mkRoot 9,0,0⟩:=rfl
 rw[e1,e2] at hy;have fw:∀w:eD,Flat (.agg (bN w)):=fun w=>.agg _ (gE w)
 have ka:=kx hy (bE ft (fw _)) (.eE _ (lN (.agg _ (eI _)) p4 (.v _)))
 have kb:=kx (aQB T2 ⟨⟨1⟩,zC.kind,zC.dV⟩ (fun j h=>by simp[ol] at h)) (bE p4 (fw _)) (.eE _ (lN (.agg _ (eI _)) tC (.v _)))
 obtain⟨t2,ht2⟩:∃t2,({ t with dQ:=ov aA (some [])}:State)=t2:=⟨_,rfl⟩
 rw[ht2] at ka kb T2;rw[cL Tryz.func29 rfl aQC rfl];refine jR ?_
 simp only[Z8,seval,k83,ka,kb,eA,Po,k79,T2.Bx,Uk,decide_true,beq_self_eq_true];exact⟨_,bT rfl (by simp only[E8,seval]<;>rfl) (by first|exact .v _|simp only[dY]),rfl⟩
theorem k29 (st:St) (d:Option Nat):aN (aC Tryz.prog) 29 [] st d=some { dst:=d,val:=.v (.bool true)}:=bI (fun x h=>by cases h) c29 (.v _)
theorem aQD:aC Tryz.prog 28 [.agg (aI gP),.agg (aI gP)]=some (.v (.bool true)):=by
 have n0:((ol (none:Option (List Request))).length:Int)<1000000:=by show ((0:Nat):Int)<_;omega
 have kq:=k82 none none rfl n0
 have k42z:=kx aQz (bE ((lO _).1 tC |> fun h=>(yL _).2 ⟨h.1,h.2.1,h.2.2.1,h.2.2.2.1,h.2.2.2.2.1,h.2.2.2.2.2.1,h.2.2.2.2.2.2.1⟩) ((lO _).1 tC |> fun h=>(yL _).2 ⟨h.1,h.2.1,h.2.2.1,h.2.2.2.1,h.2.2.2.2.1,h.2.2.2.2.2.1,h.2.2.2.2.2.2.1⟩)) (.v _)
 have h1:gP.store=eF:=rfl
 have h2:gP.dQ=ov aA none:=rfl
 have h3:gP.mV=ov aA none:=rfl
 obtain⟨z,hz⟩:∃z,gP=z:=⟨_,rfl⟩
 rw[hz] at h1 h2 h3 ⊢;rw[cL Tryz.func28 rfl aLx rfl];refine jR ?_
 simp only[Z8,seval,h1,h2,h3,k42z,kq,JM,G3,beB,decide_true,gW,gX];exact⟨_,bT rfl (by simp only[E8,seval]<;>rfl) (by first|exact .v _|simp only[dY]),rfl⟩
theorem aLy (st:St) (d:Option Nat):aN (aC Tryz.prog) 28 [.agg (aI gP),.agg (aI gP)] st d=some { dst:=d,val:=.v (.bool true)}:=bI (bE tC tC) aQD (.v _)
end Go.Ab.Tryz
namespace Go.Ab.Tryz
open Go Go.Ab
def Wz:List (Option IntKind):=(([some .u64])++(([some .i64])++(List.replicate 32 (some .u8))))
def zD:List Value:=[.int .u64 0]++([.int .i64 0]++sW)
theorem MH {l:List AV} (h:nK Wz l):∃x:eD,l=bN x:=by
 unfold Wz at h;obtain⟨l0,r0,e0,a0,b0⟩:=nK.app h
 obtain⟨l1,r1,e1,a1,b1⟩:=nK.app b0
 obtain⟨x0,y0⟩:=aBL a0
 obtain⟨x1,y1⟩:=aBM a1
 obtain⟨x2,y2⟩:=P3 b1
 refine⟨⟨⟨x0⟩,x1,x2⟩, ?_⟩
 simp only[bN,iU,e0,e1,y0,y1,y2]
theorem aFF {n:Int} (hn:IntKind.u64.has n):Rg n:=by
 simp only[IntKind.has,IntKind.min,IntKind.max,IntKind.signed,IntKind.bits] at hn;simp at hn
 exact⟨by omega,by omega⟩
theorem MI {x:eD} (h:∀k n,AV.v (.int k n)∈bN x→k.has n):Rg x.tagged.tag:=aFF (h _ _ (by simp[bN,iU,rC]))
end Go.Ab.Tryz
namespace Go.Ab.Tryz
open Classical Go.Proofs Go.Ab
theorem c3 (l:List Int) (w0:eD) (k:Int) (hl:(l.length:Int)≤9223372036854775807) (_hw:Rg w0.tagged.tag):aC Tryz.prog 3 [.sl l.length (aK l),.agg (bN w0),.v (.int .i64 k)]=some (.v (.bool true)):=by
 obtain⟨t,v,Q,R,hy,T⟩:=x24 l hl
 have ft:=T.td.flat
 have jJ:=T.td.fl
 have k24:=kx hy (cO (Pn l)) ft
 obtain⟨b0,b1⟩:=Ia (k.fdiv (2 ^ min 2 IntKind.i64.bits)) 16777215 (by decide)
 obtain⟨kk,hkk⟩:∃kk,IntKind.i64.wrap ((BitVec.ofInt IntKind.i64.bits (k.fdiv (2 ^ min 2 IntKind.i64.bits)) &&& BitVec.ofInt IntKind.i64.bits 16777215).toNat:Int)=kk:=⟨_,rfl⟩
 rw[hkk] at b0;have fw:∀w:eD,Flat (.agg (bN w)):=fun w=>.agg _ (gE w)
 obtain⟨y,hy2,w,rfl,rw5⟩:=x25 T.td T.gi (fun r hr=>by have h1:=T.tq.all _ hr;have h2:=T.nt;have h3:=T.mB;exact⟨by omega,by omega⟩) kk b0
 have k25:=kx hy2 (bE ft (.v _)) (fw w)
 obtain⟨hB,L,hL,hL0⟩:=T.lists
 have AA:v.L≠some []:=fun e=>hL0 (Option.some.inj (hL.symm.trans e))
 have z28:=aLy
 have Mk:=tC
 have main:∀w:eD,∃(r1 r2:AV),(∀(st:St) (d:Option Nat),aN (aC Tryz.prog) 26 [.agg (aI t),.agg (bN w)] st d=some { dst:=d,val:=r1 })∧(∀(st:St) (d:Option Nat),aN (aC Tryz.prog) 27 [.agg (aI t),.agg (bN w)] st d=some { dst:=d,val:=r2 }) ∧
  ∃(e:Int) (q:Request) (s1 s2:State),r1=.eE [.agg (bK q),.agg (aI s1),.v (.int .i64 e)]∧r2=.eE [.agg (bK q),.agg (aI s2),.v (.int .i64 e)]∧(∀(st:St) (d:Option Nat),aN (aC Tryz.prog) 28 [.agg (aI s1),.agg (aI s2)] st d=some { dst:=d,val:=.v (.bool true)}):=by
  intro w;obtain⟨y1,h1,⟨j1,rfl⟩|⟨n,hn,hh,j1,rfl⟩⟩:=c26 T.td T.rg.ne hB AA T.gi.pos T.qn T.rn w
  ·obtain⟨y2,h2,⟨j2,rfl⟩|⟨n2,hn2,tG,j2,rfl⟩⟩:=x27 T.td w
   ·exact⟨_,_,kx h1 (bE ft (fw _)) (.eE _ (lN (.agg _ (eI _)) Mk (.v _))),kx h2 (bE ft (fw _)) (.eE _ (lN (.agg _ (eI _)) Mk (.v _))),23,bW,gP,gP,rfl,rfl,aLy⟩
   ·exact absurd tG (j1 _ hn2)
  ·obtain⟨y2,h2,⟨j2,rfl⟩|⟨n2,hn2,tG,j2,rfl⟩⟩:=x27 T.td w
   ·exact absurd hh (j2 _ hn)
   ·obtain rfl:n=n2:=by
     rcases Nat.lt_trichotomy n n2 with h|h|h
     ·exact absurd hh (j2 _ h)
     ·exact h
     ·exact absurd tG (j1 _ h)
    have T2:=(T.less n).td
    have f2:=T2.flat
    have f1:Flat (.agg (aI { t with dQ:=ov aA (some ((ol Q).take n++(ol Q).drop (n+1)))})):=(lO _).2 ⟨jJ.1,jJ.2.1,jJ.2.2.1,jJ.2.2.2.1,jJ.2.2.2.2.1,jJ.2.2.2.2.2.1,jJ.2.2.2.2.2.2.1,dF (some _),jJ.2.2.2.2.2.2.2.2⟩
    have kS:=k28 T2 (some ((ol Q).take n++(ol Q).drop (n+1))) R (by unfold nz;split<;>rename_i hz;rw[hz];rfl;rfl) rfl
    have e:Ww { t with dQ:=ov aA (nz ((ol Q).take n++(ol Q).drop (n+1)))} ({ t with dQ:=ov aA (nz ((ol Q).take n++(ol Q).drop (n+1)))}:State).store (ov aA (some ((ol Q).take n++(ol Q).drop (n+1)))) (ov aA R)={ t with dQ:=ov aA (some ((ol Q).take n++(ol Q).drop (n+1)))}:=by
     unfold Ww;rw[← T.td.ret]
    rw[e] at kS;exact⟨_,_,kx h1 (bE ft (fw _)) (.eE _ (lN (.agg _ (eI _)) f1 (.v _))),kx h2 (bE ft (fw _)) (.eE _ (lN (.agg _ (eI _)) f2 (.v _))),0,_,_,_,rfl,rfl,kS⟩
 rw[cL Tryz.func3 rfl ok3 rfl];refine jR ?_
 by_cases g:(0:Int)<IntKind.i64.wrap ((BitVec.ofInt IntKind.i64.bits k &&& BitVec.ofInt IntKind.i64.bits 3).toNat:Int)
 ·obtain⟨r1,r2,k26,G2,e,q,s1,s2,rfl,rfl,kS⟩:=main w
  simp only[Z8,seval,k24,hkk,g,k25,k26,G2,eA,kS,k29,JM,G3,beB,beq_self_eq_true,decide_true,gW,gX];exact⟨_,bT rfl (by simp only[E8,seval]<;>rfl) (by first|exact .v _|simp only[dY]),rfl⟩
 ·obtain⟨r1,r2,k26,G2,e,q,s1,s2,rfl,rfl,kS⟩:=main w0
  simp only[Z8,seval,k24,hkk,g,k26,G2,eA,kS,k29,JM,G3,beB,beq_self_eq_true,decide_true,gW,gX];exact⟨_,bT rfl (by simp only[E8,seval]<;>rfl) (by first|exact .v _|simp only[dY]),rfl⟩
end Go.Ab.Tryz
