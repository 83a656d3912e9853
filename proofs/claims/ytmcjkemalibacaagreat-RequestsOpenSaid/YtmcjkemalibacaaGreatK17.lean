/-
  Part 17 of the proof: an evaluator of programs, its soundness, and what functions of this program compute.
-/
import Derived.Test.YtmcjkemalibacaaGreatK16
import Derived.Test.YtmcjkemalibacaaGreatK18
set_option linter.all false
set_option maxRecDepth 20000
set_option maxHeartbeats 40000000
namespace Go.Ab.Tryz
open Classical Go.Proofs Go.Ab
theorem c82 (o p:Option (List Request)) (e:ol p=ol o) (hn:((ol o).length:Int)<1000000):aC Tryz.prog 82 [ov aA o,ov aA p]=some (.v (.bool true)):=by
 rw[cL Tryz.func82 rfl aRz (by cases o<;>cases p<;>rfl)]
 refine jG ?_
 simp only[Z8,seval,e,r7];refine cE (fun m st=>∃k:Nat,(st.env 0=ov aA o∧st.env 1=ov aA p∧st.env 5=.v (.int .i64 k))∧k≤(ol o).length∧m=(ol o).length-k)
  (fun e st=>e=.exit 0) (ol o).length ?step ?start ?rest
 case step =>
  rintro m st ⟨k,hI,hk,hm⟩
  by_cases aY:(k:Int)<(ol o).length
  ·have q0:(0:Int)≤k:=by omega
   have hw:IntKind.i64.wrap ((k:Int)+1)=((k+1:Nat):Int):=by rw[pZ _ (by omega) (by omega)];omega
   apply oN ((ol o).length-(k+1))
   ·simp only[Z8,seval,e,hI,aY,q0,r7,decide_true,Bool.not_true,hw];rfl
   ·exact⟨k+1,by simp only[E8,seval,hI],by omega,rfl⟩
  ·apply oT (.exit 0)
   ·simp only[Z8,seval,e,hI,aY];rfl
   ·exact rfl
 case start=>exact⟨0,by simp only[E8,seval]<;>exact⟨rfl,rfl,rfl⟩,by omega,by omega⟩
 case rest =>
  rintro e st rfl
  simp only[Z8,seval];exact⟨_,bS rfl (by simp only[E8,seval]<;>rfl) (by first|exact .v _|simp only[dU]),rfl⟩
theorem k82 (o p:Option (List Request)) (e:ol p=ol o) (hn:((ol o).length:Int)<1000000) (st:St) (d:Option Nat):aM (aC Tryz.prog) 82 [ov aA o,ov aA p] st d=some { dst:=d,val:=.v (.bool true)}:=bI (bG (dK o) (dK p)) (c82 o p e hn) (.v _)
theorem c28 {t:State} {v:SV} {Q R:Option (List Request)} (h:TD t v Q R) (Q' R':Option (List Request)) (eQ:ol Q'=ol Q) (eR:ol R'=ol R):aC Tryz.prog 28 [.agg (aF (Sk t t.store (ov aA Q') (ov aA R'))),.agg (aF t)]=some (.v (.bool true)):=by
 have nQ:((ol Q').length:Int)<1000000:=by rw[eQ];have:=h.nQ;omega
 have nR:((ol R').length:Int)<1000000:=by rw[eR];have:=h.nR;omega
 have kq:=k82 Q' Q eQ.symm nQ
 have kr:=k82 R' R eR.symm nR
 have kE:=h.fl
 have ft:Flat (.agg (aF (Sk t t.store (ov aA Q') (ov aA R')))):=(oG _).2 ⟨kE.1,kE.2.1,kE.2.2.1,kE.2.2.2.1,kE.2.2.2.2.1,kE.2.2.2.2.2.1,kE.2.2.2.2.2.2.1,dK Q',dK R'⟩
 rw[cL Tryz.func28 rfl aRA rfl];refine jG ?_
 simp only[Z8,seval,Sk,h.Cp,h.ret,k42 h.sd,kq,kr,r7,beI,beB,decide_true,qA,qB];exact⟨_,bS rfl (by simp only[E8,seval]<;>rfl) (by first|exact .v _|simp only[dU]),rfl⟩
theorem k28 {t:State} {v:SV} {Q R:Option (List Request)} (h:TD t v Q R) (Q' R':Option (List Request)) (eQ:ol Q'=ol Q) (eR:ol R'=ol R) (st:St) (d:Option Nat):aM (aC Tryz.prog) 28 [.agg (aF (Sk t t.store (ov aA Q') (ov aA R'))),.agg (aF t)] st d=some { dst:=d,val:=.v (.bool true)}:=by
 have kE:=h.fl
 have ft:Flat (.agg (aF (Sk t t.store (ov aA Q') (ov aA R')))):=(oG _).2 ⟨kE.1,kE.2.1,kE.2.2.1,kE.2.2.2.1,kE.2.2.2.2.1,kE.2.2.2.2.2.1,kE.2.2.2.2.2.2.1,dK Q',dK R'⟩
 exact bI (bG ft h.flat) (c28 h Q' R' eQ eR) (.v _)
structure WT (t:State) (v:SV):Prop where
 td:TD t v (some [⟨⟨1⟩,mkRoot 9,0,0⟩]) none
 ne:NEv v
 hB:v.B≠some []
 hL:v.L≠some []
 pos:0<v.ns.length
 op:sI v.ns (mkRoot 9)
 tag:t.bB=2
 now:t.store.now=1
theorem x83:∃r,aC Tryz.prog 83 []=some r∧∃(t:State) (v:SV),r=.agg (aF t)∧WT t v:=by
 obtain⟨y,hy,c,b,rfl,hc⟩:=aLG [7] (by decide)
 have fc:Flat (.agg (bR c)):=(yU c).2 (by rw[hc.jO];exact dP _)
 have aCx:∀(st:St) (a g:Nat) (d:Option Nat),st.heap a g=some (.row 3 1 1 [.v (.int .i64 7)])→eI (aC Tryz.prog) 101 [.own a g] st d=some { dst:=d,val:=.agg (bR c),dJ:=some (a,g,none)}:=fun st a g d hh=>by
  rw[Gd (s:=a) (k:=g) rfl (by intro y hy;simp only[List.mem_cons,List.not_mem_nil,or_false] at hy;subst hy;exact .inr (.inl ⟨a,g,rfl⟩)),List.map_cons,List.map_nil,Kc (L:=[7]) hh,bL,gK]
  exact Zi hy fc
 obtain⟨y2,hy2,zX,last,y3,rfl,fy⟩:=aLR hc
 have g0:=(GI.new hc).now 1
 have r0:=RG.new hc
 have gf:=W0 hc
 obtain⟨s0,hs0⟩:∃s0,VY c b=s0:=⟨_,rfl⟩
 have Q9:s0.cFg=c:=by rw[← hs0];rfl
 have IU:s0.bJ.fin=⟨0,c.dX⟩:=by rw[← hs0];rfl
 have htr:s0.tree=⟨.sl (Wa c b).ns.length (cB (Wa c b).ns)⟩:=by rw[← hs0];rfl
 have hb0:({ G1 c b with zX:=zX,last:=last }:State)={ store:=s0,cY:=.v (.slice none 0 0),oD:=.v (.slice none 0 0),bB:=1,zX:=zX,last:=last,overflow:=false,halted:=false }:=by rw[← hs0];rfl
 rw[hs0] at g0;have MV:=((TI.new hc).emit zX last).td.flat
 have V7:=kx hy2 (cU fc) (.eG _ (nA MV fy (.v _)))
 rw[hb0] at V7;obtain⟨w,hw⟩:∃w,Wa c b=w:=⟨_,rfl⟩
 rw[hw] at g0 gf htr r0;have hslot:(nd w.ns 0).block.slot=0:=by rw[← hw];rfl
 have hlen:w.ns.length=1:=by rw[← hw];rfl
 have kI:∀B:Block,B.root=mkRoot 9→B.parent=c.dX→B.slot=1→∀(st:St) (d:Option Nat),aM (aC Tryz.prog) 149 [.agg (cT ⟨w.ns⟩),.agg (aT B),.v (.int .i64 0)] st d=some { dst:=d,val:=.eG [.agg (cT ⟨w.ns++[⟨B,0,0⟩]⟩),.v (.int .i64 0)]}:=fun B h1 h2 h3 st d=>by
  have hE:Vy w.ns B 0=0:=by
   unfold Vy;rw[if_neg (by decide),h1,gf.2,if_neg (by omega),h2,gf.1,if_neg (by omega),hslot,h3,if_neg (by omega),if_neg (by rw[hlen];omega)]
  have hA:Fo w.ns B 0=.eG [.agg (cT ⟨w.ns++[⟨B,0,0⟩]⟩),.v (.int .i64 0)]:=by
   unfold Fo;rw[if_pos hE,h2,gf.1]
  rw[← hA];exact aJf w.ns g0.sd.nn B 0 st d
 obtain⟨T1,WG⟩:∃T1:Block→State,T1=fun B=>{ store:={ cFg:=c,gE:=s0.gE,bJ:=s0.bJ,dS:=s0.dS,tree:={ nodes:=.sl (w.ns++[(⟨B,0,0⟩:Node)]).length (cB (w.ns++[⟨B,0,0⟩]))},now:=1,iG:=s0.iG,tables:=s0.tables },cY:=.v (.slice none 0 0),oD:=.v (.slice none 0 0),bB:=1,zX:=zX,last:=last,overflow:=false,halted:=false }:=⟨_,rfl⟩
 have hP:∀B:Block,B.root=mkRoot 9→B.parent=c.dX→B.iO=mkRoot 109→TD (T1 B) { w with ns:=w.ns++[⟨B,0,0⟩]} none none∧sI (w.ns++[⟨B,0,0⟩]) (mkRoot 9):=fun B h1 h2 h3=>by
  have hs:Px B=0:=by
   unfold Px;rw[h3,if_neg];intro e;have e1:IntKind.u8.wrap 109=dE[0]:=by rw[← tR,e]
   rw[show dE[0]=0 from rfl] at e1
   exact absurd e1 (by decide)
  have hi:Az w B=w.ns++[⟨B,0,0⟩]:=by unfold Az;rw[h2,gf.1,hs]
  have g1:=g0.Ln (b:=B) (by rw[hlen];show ((1:Nat):Int)<s0.cFg.mD.rY;rw[Q9];have:=hc.n6;omega) (by rw[h2,gf.1];omega)
  have eS:Tryz.Ln { s0 with now:=1 } w B=(T1 B).store:=by rw[WG];unfold Tryz.Ln;rw[hi];simp only[Q9]
  have eW:Io w B={ w with ns:=w.ns++[⟨B,0,0⟩]}:=by unfold Io;rw[hi]
  rw[eS,eW] at g1;have n0:((ol (none:Option (List Request))).length:Int)<900000:=by show ((0:Nat):Int)<_;omega
  refine⟨⟨g1.sd,by rw[WG];rfl,by rw[WG];rfl,n0,n0⟩, ?_⟩
  have f9:aO (w.ns++[⟨B,0,0⟩]) (mkRoot 9)=1:=by
   rw[← hw];have e:(Wa c b).ns=[⟨IZ c,-1,1⟩]:=rfl
   rw[e];unfold aO;have gN:¬(IZ c).root=mkRoot 9:=by show ¬c.dX=mkRoot 9;rw[hc.gen];exact aES (by omega) (by omega) (by omega) (by omega) (by omega)
   simp[List.findIdx?_cons,gN,h1]
  refine⟨by rw[f9];omega, ?_⟩
  rw[f9,← hw];rfl
 have kO:∀B:Block,B.root=mkRoot 9→B.parent=c.dX→B.iO=mkRoot 109→∀(st:St) (a g:Nat) (d:Option Nat),st.heap a g=some (.row 27 32 1 (aV (mkRoot 9))) →
  eI (aC Tryz.prog) 32 [.agg (aF (T1 B)),.own a g] st d=some { dst:=d,val:=.agg (aF (DN (T1 B) (some [⟨⟨1⟩,mkRoot 9,0,0⟩],2))),dJ:=some (a,g,none)}:=fun B h1 h2 h3 st a g d hh=>by
  obtain⟨p1,p2⟩:=hP B h1 h2 h3
  have h:=c32 p1 (some [mkRoot 9]) (by show ((0:Nat):Int)+((1:Nat):Int)<_;omega)
  have hO:Gz (w.ns++[⟨B,0,0⟩]) (none,(T1 B).bB) (ol (some [mkRoot 9]))=(some [⟨⟨1⟩,mkRoot 9,0,0⟩],2):=by
   rw[WG];show GU _ (none,1) (mkRoot 9)=_
   unfold GU;rw[if_pos p2];rfl
  have p1n:({ w with ns:=w.ns++[⟨B,0,0⟩]}:SV).ns=w.ns++[⟨B,0,0⟩]:=rfl
  rw[p1n,hO] at h;have kE:=p1.fl
  have fo:Flat (.agg (aF (DN (T1 B) (some [⟨⟨1⟩,mkRoot 9,0,0⟩],2)))):=(oG _).2 ⟨kE.1,kE.2.1,kE.2.2.1,kE.2.2.2.1,kE.2.2.2.2.1,kE.2.2.2.2.2.1,kE.2.2.2.2.2.2.1,dK (some _),kE.2.2.2.2.2.2.2.2⟩
  have hh':fG st (.own a g)=some (ov dV (some [mkRoot 9])):=by
   have:dV [mkRoot 9]=aV (mkRoot 9):=by simp[dV]
   show _=some (AV.sl 1 (dV [mkRoot 9]))
   rw[this];exact PL hh (dF _)
  have ft:=p1.flat
  rw[Gd (s:=a) (k:=g) (by rw[List.flatMap_cons,tP ft];rfl) (by intro y hy;simp only[List.mem_cons,List.not_mem_nil,or_false] at hy;rcases hy with rfl|rfl;exact .inl ft;exact .inr (.inl ⟨a,g,rfl⟩)),List.map_cons,List.map_cons,List.map_nil,dM ft,hh',bL,bL,gK]
  exact Zi h fo
 simp only[WG] at kO;rw[cL Tryz.func83 rfl aRB rfl];simp only[Z8,seval,aCx,V7,dY,Q9,IU,htr,Pm,kI,kO];obtain⟨B,hB⟩:∃B:Block,B=⟨⟨⟨0,c.dX⟩,⟨0,c.dX⟩⟩,1,mkRoot 9,c.dX,mkRoot 109,fD.diff,fD.Yy,⟨0,c.dX⟩,⟨0,c.dX⟩,fD.Co⟩:=⟨_,rfl⟩
 obtain⟨p1,p2⟩:=hP B (by rw[hB]) (by rw[hB]) (by rw[hB])
 have kE:=p1.fl
 have fo:Flat (.agg (aF (DN (T1 B) (some [⟨⟨1⟩,mkRoot 9,0,0⟩],2)))):=(oG _).2 ⟨kE.1,kE.2.1,kE.2.2.1,kE.2.2.2.1,kE.2.2.2.2.1,kE.2.2.2.2.2.1,kE.2.2.2.2.2.2.1,dK (some _),kE.2.2.2.2.2.2.2.2⟩
 have hw':w.B=some b∧w.L=some (List.replicate b.length sR):=by rw[← hw];exact⟨rfl,rfl⟩
 refine⟨_,fI rfl (by simp only[E8,seval]<;>rfl) (by simp only[Z8,seval]<;>rfl) ?fl,DN (T1 B) (some [⟨⟨1⟩,mkRoot 9,0,0⟩],2),{ w with ns:=w.ns++[⟨B,0,0⟩]}, ?eq,⟨⟨p1.sd,rfl,p1.ret,by show ((1:Nat):Int)<_;omega,p1.nR⟩, ?_, ?_, ?_, ?_,p2,rfl,by rw[WG];rfl⟩⟩
 case fl=>subst WG hB;exact fo
 case eq=>subst WG hB;rfl
 ·exact⟨r0.ne.q,r0.ne.e,r0.ne.o,r0.ne.t,r0.ne.ea,r0.ne.tb⟩
 ·show w.B≠some []
  rw[hw'.1];have:=hc.nb
  intro e;cases e
  simp at this
 ·show w.L≠some []
  rw[hw'.2];have:=hc.nb
  intro e;have h2:=congrArg List.length (Option.some.inj e)
  rw[List.length_replicate,List.length_nil] at h2;omega
 ·show 0<(w.ns++[(⟨B,0,0⟩:Node)]).length
  simp
theorem aRC {t:State} {v:SV} {Q R:Option (List Request)} (h:TD t v Q R) (w:fL) (hj:∀j:Nat,j<(ol Q).length→¬Af (ol Q) w.tagged.tag j):aC Tryz.prog 26 [.agg (aF t),.agg (bW w)]=some (.eG [.agg (bN bU),.agg (aF iW),.v (.int .i64 23)]):=by
 have Uw:=Te
 have nQ1:((ol Q).length:Int)<1000000:=by have:=h.nQ;omega
 have q77:∀(args:List AV) (st:St) (d:Option Nat),aM (aC Tryz.prog) 77 args st d=sN (aC Tryz.prog) 77 (cM (args.map (fG st))) (decide (∀x∈args,Flat x)) st d:=fun args st d=>lN _ _ _ _ _
 have k77:∀(fl:Bool) (st:St) (d:Option Nat),sN (aC Tryz.prog) 77 (some [ov aA Q,.Da 78 [.ip (bW w) 0]]) fl st d=some { dst:=d,val:=.v (.int .i64 (Cn (Af (ol Q) w.tagged.tag) (ol Q).length))}:=fun fl st d=>Yl (c77 Q nQ1 w)
 have eV:∀(st:St) (o:Nat),Yk st (some (.cells (bW w))) o=some (.ip (bW w) o):=fun st o=>Nd st (gM w) o
 refine jG ?_
 rw[cG Tryz.func26 rfl aMf (by kernel_rfl) rfl]
 rw[tN _ hj] at k77;simp only[ZG,seval,Bool.false_and,Prod.mk.injEq,aGk,h.Cp,q77,Jy,eV,k77];exact⟨_,by apply gO;rfl;all_goals simp only[aI,bT,Z8,seval,Uw]<;>rfl,rfl⟩
theorem c29:aC Tryz.prog 29 []=some (.v (.bool true)):=by
 obtain⟨r,hr,t,v,rfl,W⟩:=x83
 have ft:=W.td.flat
 have k83:=kx hr (fun x h=>by cases h) ft
 obtain⟨y,hy,⟨hj,_⟩|⟨k,hk,hh,hj,rfl⟩⟩:=c26 W.td W.ne W.hB W.hL W.pos nofun nofun ⟨⟨1⟩,Ag.kind,Ag.dT⟩
 ·exact absurd rfl (hj 0 (by show 0<1;omega))
 obtain rfl:k=0:=by have:k<1:=hk;omega
 have n0:((ol (some ([]:List Request))).length:Int)<900000:=by show ((0:Nat):Int)<_;omega
 have T2:TD { t with cY:=ov aA (some [])} v (some []) none:=⟨W.td.sd,rfl,W.td.ret,n0,W.td.nR⟩
 have MY:=T2.flat
 have e1:({ t with cY:=ov aA (some ((ol (some [(⟨⟨1⟩,mkRoot 9,0,0⟩:Request)])).take 0++(ol (some [(⟨⟨1⟩,mkRoot 9,0,0⟩:Request)])).drop (0+1)))}:State)={ t with cY:=ov aA (some [])}:=rfl
 have e2:gx bU (ol (some [(⟨⟨1⟩,mkRoot 9,0,0⟩:Request)])) ((0:Nat):Int)=⟨⟨1⟩,mkRoot 9,0,0⟩:=rfl
 rw[e1,e2] at hy;have fw:∀w:fL,Flat (.agg (bW w)):=fun w=>.agg _ (gM w)
 have ka:=kx hy (bG ft (fw _)) (.eG _ (nA (.agg _ (gL _)) MY (.v _)))
 have kb:=kx (aRC T2 ⟨⟨1⟩,Ag.kind,Ag.dT⟩ (fun j h=>by simp[ol] at h)) (bG MY (fw _)) (.eG _ (nA (.agg _ (gL _)) Te (.v _)))
 obtain⟨t2,ht2⟩:∃t2,({ t with cY:=ov aA (some [])}:State)=t2:=⟨_,rfl⟩
 rw[ht2] at ka kb T2;rw[cL Tryz.func29 rfl aRD rfl];refine jG ?_
 simp only[Z8,seval,k83,ka,kb,dY,Pm,k79,T2.Cp,Bz,decide_true,beq_self_eq_true];exact⟨_,bS rfl (by simp only[E8,seval]<;>rfl) (by first|exact .v _|simp only[dU]),rfl⟩
theorem k29 (st:St) (d:Option Nat):aM (aC Tryz.prog) 29 [] st d=some { dst:=d,val:=.v (.bool true)}:=bI (fun x h=>by cases h) c29 (.v _)
end Go.Ab.Tryz
namespace Go.Ab.Tryz
open Go Go.Ab
def Dw:List Value:=[.int .u64 0]++([.int .i64 0]++tQ)
end Go.Ab.Tryz
namespace Go.Ab.Tryz
open Classical Go.Proofs Go.Ab
end Go.Ab.Tryz
namespace Go.Ab.Tryz
open Classical Go.Proofs Go.Ab
theorem c84 {t:State} {v:SV} {Q R:Option (List Request)} (h:TD t v Q R) (r:cA):aC Tryz.prog 84 [.agg (aF t),.agg (aV r)]=some (.v (.bool (decide (sI v.ns r)))):=by
 have hr:=fN v.ns r
 rw[cL Tryz.func84 rfl aRE rfl];refine jG ?_
 by_cases g1:0≤aO v.ns r
 ·by_cases g2:(nd v.ns (aO v.ns r)).status=0
  ·simp only[Z8,seval,h.sd.tree,k89 _ _ h.sd.nn,g1,hr.2,bt g2];exact⟨_,bS rfl (by simp only[E8,seval]<;>rfl) (by first|exact .v _|simp only[dU]),by simp[sI,g1,g2]⟩
  ·simp only[Z8,seval,h.sd.tree,k89 _ _ h.sd.nn,g1,hr.2,bf g2];exact⟨_,bS rfl (by simp only[E8,seval]<;>rfl) (by first|exact .v _|simp only[dU]),by simp[sI,g1,g2]⟩
 ·simp only[Z8,seval,h.sd.tree,k89 _ _ h.sd.nn,g1];exact⟨_,bS rfl (by simp only[E8,seval]<;>rfl) (by first|exact .v _|simp only[dU]),by simp[sI,g1]⟩
def JP (t:State) (v:SV) (Q R:Option (List Request)) (X:AV) (tag:Int):State:={ Sk t (p8 t.store v 9 0) X (rv 9 (0+nR v Q) R) with bB:=tag }
theorem aMh {t:State} {v:SV} {Q R:Option (List Request)} (h:TD t v Q R) (q:Option (List Request)) (tag:Int) (hq:((ol q).length:Int)<900000) (r:cA) (st:St) (d:Option Nat) {X:AV} (hh:∀j,j<nS v→st.heap 9 (0+j)=(By v)[j]?) (hx:cF st X=some (ov aA q)) (hy:cF st (rv 9 (0+nR v Q) R)=some (ov aA R)) :
 aM (aC Tryz.prog) 84 [.agg (aF (JP t v Q R X tag)),.agg (aV r)] st d=some { dst:=d,val:=.v (.bool (decide (sI v.ns r)))}:=by
 have T2:TD { t with cY:=ov aA q,bB:=tag } v q R:=⟨h.sd,rfl,h.ret,hq,h.nR⟩
 have he:fG st (.agg (aF (JP t v Q R X tag)))=some (.agg (aF { t with cY:=ov aA q,bB:=tag })):=by
  have e:=WN (t:={ t with bB:=tag }) (v:=v) h.sd (d:=9) (c:=0) (q:=X) (r:=rv 9 (0+nR v Q) R) hh hx hy
  have e2:Sk { t with bB:=tag } ({ t with bB:=tag }:State).store (ov aA q) (ov aA R)={ t with cY:=ov aA q,bB:=tag }:=by unfold Sk;rw[← h.ret]
  rw[e2] at e;exact e
 rw[lN,List.map_cons,List.map_cons,List.map_nil,he,dM (.agg _ (dF r)),bL,bL,gK];exact IC (c84 T2 r)
theorem X5 {t:State} {v:SV} {Q R:Option (List Request)} (h:TD t v Q R) (q:Option (List Request)) (tag:Int) (st:St) {X:AV} (hh:∀j,j<nS v→st.heap 9 j=(By v)[j]?) (hx:cF st X=some (ov aA q)) (hy:cF st (rv 9 (nR v Q) R)=some (ov aA R)) :
 fG st (.agg (aF (JP t v Q R X tag)))=some (.agg (aF { t with cY:=ov aA q,bB:=tag })):=by
 have e:=WN (t:={ t with bB:=tag }) (v:=v) h.sd (d:=9) (c:=0) (q:=X) (r:=rv 9 (0+nR v Q) R) (fun j hj=>by rw[Nat.zero_add];exact hh j hj) hx (by rw[Nat.zero_add];exact hy)
 have e2:Sk { t with bB:=tag } ({ t with bB:=tag }:State).store (ov aA q) (ov aA R)={ t with cY:=ov aA q,bB:=tag }:=by unfold Sk;rw[← h.ret]
 rw[e2] at e;exact e
theorem c31 {t:State} {v:SV} {Q R:Option (List Request)} (h:TD t v Q R) (gN:NEv v) (hB:v.B≠some []) (hL:v.L≠some []) (ht:0<v.ns.length) (hQ:Q≠some []) (hR:R≠some []) (L:Option (List cA)) (hn:((ol Q).length:Int)+(ol L).length<800000) (q:Option (List Request)) (tag:Int) (hq:Gz v.ns (Q,t.bB) (ol L)=(q,tag)) :
 aC Tryz.prog 31 [.agg (aF t),ov dV L]=some (.agg (aF { t with cY:=ov aA q,bB:=tag })):=by
 have aGn:=k80 h gN hB hL ht hQ hR
 rw[cL Tryz.func31 rfl aMi (by cases L<;>rfl)]
 refine jG ?_
 obtain⟨Z,hZ⟩:∃Z,O2 t v Q R 9 0=Z:=⟨_,rfl⟩
 simp only[Z8,seval,aGn,AE,NW];refine cE (fun m st=>∃(k:Nat) (X:AV) (p:Option (List Request)) (tg:Int),(st.env 10=ov dV L∧st.env 11=.v (.int .i64 (ol L).length)∧st.env 12=.v (.int .i64 k)∧st.env 4=.ptr 4 0 0∧st.heap 4 0=some (.cells (aF iW))∧st.env 5=.ptr 5 0 0∧st.heap 5 0=some (.cells (aF (JP t v Q R X tg))))∧(∀j,j<nS v→st.heap 9 j=(By v)[j]?)∧(∀l,R=some l→st.heap 9 (nR v Q)=some (.row 63 35 l.length (aA l))) ∧
  ((p=none∧X=.v (.slice none 0 0))∨∃s g l,p=some l∧X=.own s g∧st.heap s g=some (.row 63 35 l.length (aA l))∧((s=27∧g<st.aP 27)∨(s=9∧g=nS v∧Q≠none)))∧Gz v.ns (Q,t.bB) ((ol L).take k)=(p,tg)∧k≤(ol L).length∧m=(ol L).length-k)
  (fun e st=>e=.exit 0∧∃(X:AV),(st.env 4=.ptr 4 0 0∧st.heap 4 0=some (.cells (aF iW))∧st.env 5=.ptr 5 0 0∧st.heap 5 0=some (.cells (aF (JP t v Q R X tag))))∧(∀j,j<nS v→st.heap 9 j=(By v)[j]?)∧(∀l,R=some l→st.heap 9 (nR v Q)=some (.row 63 35 l.length (aA l))) ∧
   ((q=none∧X=.v (.slice none 0 0))∨∃s g l,q=some l∧X=.own s g∧st.heap s g=some (.row 63 35 l.length (aA l))∧((s=27∧g<st.aP 27)∨(s=9∧g=nS v∧Q≠none)))) (ol L).length ?step ?start ?rest
 case step =>
  rintro m st ⟨k,X,p,tg,hI,hH,PM,hX,hp,hk,hm⟩
  by_cases aY:(k:Int)<(ol L).length
  case neg =>
   have Fg:k=(ol L).length:=by omega
   subst Fg;rw[List.take_length,hq] at hp;obtain⟨rfl,rfl⟩:=Prod.mk.inj hp
   apply oT (.exit 0)
   ·simp only[Z8,seval,hI,aY];rfl
   ·exact⟨rfl,X,by simp only[E8,seval,hI],fun j hj=>by simp only[E8,seval];exact hH j hj,fun l hl=>by simp only[E8,seval];exact PM l hl,by simpa only[E8,seval] using hX⟩
  have q0:(0:Int)≤k:=by omega
  have hw:IntKind.i64.wrap ((k:Int)+1)=((k+1:Nat):Int):=by rw[pZ _ (by omega) (by omega)];omega
  have sG:=Zm v.ns (Q,t.bB) (ol L) k (by omega)
  rw[hp] at sG;obtain⟨r,hr⟩:∃r,gx dE (ol L) (k:Int)=r:=⟨_,rfl⟩
  rw[hr] at sG;have lp:((ol p).length:Int)<900000:=by
   have h1:=Qg v.ns (Q,t.bB) ((ol L).take k)
   rw[hp,List.length_take] at h1;have h2:(ol (p,tg).1).length=(ol p).length:=rfl
   have h3:(ol (Q,t.bB).1).length=(ol Q).length:=rfl
   omega
  have lp2:((ol p).length:Int)<1000000:=by omega
  obtain⟨K,hK⟩:∃K:St→Prop,K=fun uZ=>(∀j,j<nS v→uZ.heap 9 j=(By v)[j]?)∧(∀l,R=some l→uZ.heap 9 (nR v Q)=some (.row 63 35 l.length (aA l)))∧cF uZ X=some (ov aA p):=⟨_,rfl⟩
  have K0:K st:=by
   rw[hK];refine⟨hH,PM, ?_⟩
   rcases hX with ⟨rfl,rfl⟩|⟨s,g,l,rfl,rfl,h1,_⟩
   ·exact bY (.v _)
   ·exact Tryz.iK h1
  have Kp:∀uZ d y,K (St.put uZ d y)=K uZ:=fun uZ d y=>by rw[hK];cases d<;>rfl
  have xn:∀uZ e,cF (St.new uZ 7 e) X=cF uZ X:=fun uZ e=>by
   rcases hX with ⟨rfl,rfl⟩|⟨s,g,l,rfl,rfl,h1,h2⟩
   ·rw[bY (.v _),bY (.v _)]
   ·have s7:(s=7)=False:=eq_false (by omega)
    rw[bA,bA];simp only[sV,s7,false_and,if_false]
  have xs:∀uZ c e,cF (St.jA uZ 7 c e) X=cF uZ X:=fun uZ c e=>by
   rcases hX with ⟨rfl,rfl⟩|⟨s,g,l,rfl,rfl,h1,h2⟩
   ·rw[bY (.v _),bY (.v _)]
   ·have s7:(s=7)=False:=eq_false (by omega)
    rw[bA,bA];simp only[pU,s7,false_and,if_false]
  have n97:((9:Nat)=7)=False:=eq_false (by decide)
  have Kn:∀uZ e,K (St.new uZ 7 e)=K uZ:=fun uZ e=>by rw[hK];simp only[sV,n97,false_and,if_false,xn]
  have Ks:∀uZ c e,K (St.jA uZ 7 c e)=K uZ:=fun uZ c e=>by rw[hK];simp only[pU,n97,false_and,if_false,xs]
  have JQ:∀(uZ:St) (d:Option Nat),K uZ→aM (aC Tryz.prog) 84 [.agg (aF (JP t v Q R X tg)),.agg (aV r)] uZ d=some { dst:=d,val:=.v (.bool (decide (sI v.ns r)))}:=fun uZ d hk=>by
   rw[hK] at hk;exact aMh h p tg lp r uZ d (fun j hj=>by rw[Nat.zero_add];exact hk.1 j hj) hk.2.2 (by rw[Nat.zero_add];exact nI hk.2.1 fun l _=>fJ l)
  have eX:(JP t v Q R X tg).cY=X:=rfl
  have eN:(JP t v Q R X tg).bB=tg:=rfl
  have zR:bU.due=0:=rfl
  have zT:bU.tries=0:=rfl
  by_cases ho:sI v.ns r
  case neg =>
   rw[show GU v.ns (p,tg) r=(p,tg) from if_neg ho] at sG;apply oN ((ol L).length-(k+1))
   ·simp only[Z8,seval,hI,aY,q0,hr,Kp,Kn,Ks,K0,JQ,ho,decide_false,hw];rfl
   ·exact⟨k+1,X,p,tg,by simp only[E8,seval,hI],fun j hj=>by simp only[E8,seval];exact hH j hj,fun l hl=>by simp only[E8,seval];exact PM l hl,hX.imp id fun ⟨s,g,l,e1,e2,h1,h2⟩=>⟨s,g,l,e1,e2,by have s7:(s=7)=False:=eq_false (by omega);simp only[E8,seval,s7,false_and,if_false];exact h1,by simpa only[E8,seval] using h2⟩,sG,by omega,rfl⟩
  rw[show GU v.ns (p,tg) r=(some (ol p++[⟨⟨tg⟩,r,0,0⟩]),IntKind.u64.wrap (tg+1)) from if_pos ho] at sG
  rcases hX with ⟨rfl,rfl⟩|⟨s,g,l,rfl,rfl,h1,h2⟩
  ·apply oN ((ol L).length-(k+1))
   ·simp only[Z8,seval,hI,aY,q0,hr,Kp,Kn,Ks,K0,JQ,ho,decide_true,eX,eN,zR,zT,hw];rfl
   ·exact⟨k+1,.own 27 (st.aP 27),_,_,by simp only[E8,seval,hI]<;>rfl,fun j hj=>by simp only[E8,seval];exact hH j hj,fun l hl=>by simp only[E8,seval];exact PM l hl,.inr ⟨27,st.aP 27,_,rfl,rfl,by simp only[E8,seval]<;>rfl,.inl ⟨rfl,by simp only[E8,seval]<;>omega⟩⟩,sG,by omega,rfl⟩
  ·rw[Bz] at lp2;rcases h2 with ⟨rfl,hg⟩|⟨rfl,rfl,hQ1⟩
   ·have uY:(g=st.aP 27)=False:=eq_false (by omega)
    have hgn':(st.aP 27=g)=False:=eq_false (by omega)
    apply oN ((ol L).length-(k+1))
    ·simp only[Z8,seval,hI,aY,q0,hr,Kp,Kn,Ks,K0,JQ,ho,decide_true,eX,eN,zR,zT,hw,h1,mA _ _ _ _ lp2];rfl
    ·exact⟨k+1,.own 27 (st.aP 27),_,_,by simp only[E8,seval,hI]<;>rfl,fun j hj=>by simp only[E8,seval];exact hH j hj,fun l hl=>by simp only[E8,seval];exact PM l hl,.inr ⟨27,st.aP 27,_,rfl,rfl,by simp only[E8,seval]<;>rfl,.inl ⟨rfl,by simp only[E8,seval]<;>omega⟩⟩,sG,by omega,rfl⟩
   ·have hR1:nR v Q=nS v+1:=by
     cases Q with
     | none=>exact absurd rfl hQ1
     | some l=>rfl
    apply oN ((ol L).length-(k+1))
    ·simp only[Z8,seval,hI,aY,q0,hr,Kp,Kn,Ks,K0,JQ,ho,decide_true,eX,eN,zR,zT,hw,h1,mA _ _ _ _ lp2];rfl
    ·exact⟨k+1,.own 27 (st.aP 27),_,_,by simp only[E8,seval,hI]<;>rfl,fun j hj=>by have UD:(j=nS v)=False:=eq_false (by omega);simp only[E8,seval,UD,and_false,if_false];exact hH j hj,fun l hl=>by have UD:(nR v Q=nS v)=False:=eq_false (by omega);simp only[E8,seval,UD,and_false,if_false];exact PM l hl,.inr ⟨27,st.aP 27,_,rfl,rfl,by simp only[E8,seval]<;>rfl,.inl ⟨rfl,by simp only[E8,seval]<;>omega⟩⟩,sG,by omega,rfl⟩
 case start =>
  have hz:O2 t v Q R 9 0=JP t v Q R (rv 9 (nS v) Q) t.bB:=by unfold O2 JP;rw[Nat.zero_add (nS v)];rfl
  have lt:∀j,j<nS v→j<(HF v Q R).length:=fun j hj=>by unfold HF;rw[List.length_append];unfold nS at hj;omega
  refine⟨0,rv 9 (nS v) Q,Q,t.bB,by simp only[E8,seval,NW,hz]<;>rfl,fun j hj=>?_,fun l hl=>?_, ?_,rfl,by omega,by omega⟩
  ·have lj:=lt j hj
   simp only[E8,seval,NW,true_and,Nat.zero_le,Nat.sub_zero,lj,if_true,aGg v Q R j hj]
  ·have e:=aGi v Q R l hl
   have lj:=(List.getElem?_eq_some_iff.1 e).1
   simp only[E8,seval,NW,true_and,Nat.zero_le,Nat.sub_zero,lj,if_true,e]
  ·cases Q with
   | none=>exact .inl ⟨rfl,rfl⟩
   | some l =>
     have e:=aGh v (some l) R l rfl
     have lj:=(List.getElem?_eq_some_iff.1 e).1
     refine .inr ⟨9,nS v,l,rfl,rfl, ?_,.inr ⟨rfl,rfl,nofun⟩⟩
     simp only[E8,seval,NW,true_and,Nat.zero_le,Nat.sub_zero,lj,if_true,e]
 case rest =>
  rintro e st ⟨rfl,X,hI,hH,PM,hX⟩
  simp only[Z8,seval,hI];have n4:((9:Nat)=4)=False:=eq_false (by decide)
  refine⟨.agg (aF { t with cY:=ov aA q,bB:=tag }),eB rfl (by simp only[E8,seval]<;>rfl) (cs:=aF (JP t v Q R X tag)) (by simp only[Z8,seval,hI]<;>rfl) ?ex,rfl⟩
  refine X5 h q tag _ (fun j hj=>by simp only[E8,seval,n4,false_and,if_false];exact hH j hj) ?x1 (nI (fun l hl=>by simp only[E8,seval,n4,false_and,if_false];exact PM l hl) fun l _=>fJ l)
  rcases hX with ⟨rfl,rfl⟩|⟨s,g,l,rfl,rfl,h1,h2⟩
  ·exact bY (.v _)
  ·have s4:(s=4)=False:=eq_false (by omega)
   exact Go.Ab.iK (by simp only[E8,seval,s4,false_and,if_false];exact h1) (fJ l)
end Go.Ab.Tryz
section
namespace Go.Ab.Tryz
open Classical Go.Proofs Go.Ab
section
variable {x:AV} {e sz m:Nat} {cs:List AV}
theorem WQ {f:Nat} {fn:Func} {c:Code} (hf:Tryz.prog.funcs[f]? = some fn) (hb:fn.body=some c) (oR:bF fn=true) (hu:nM x=false) (hx:Ext.ext f [x,.uniq e sz m cs]=none) :
 aC Tryz.prog f [x,.uniq e sz m cs]=cH (yS Tryz.prog c (St.qG x e sz m cs)) (yG Tryz.prog f fn):=by
 simp only[bF,hb,Bool.and_eq_true,Bool.not_eq_true'] at oR;rw[G4 Tryz.prog hf hb oR.1 _ _ _ _ _ hu hx,oR.2];rfl
theorem iL0:(St.qG x e sz m cs).env 0=x:=rfl
theorem iL1:(St.qG x e sz m cs).env 1=.own 1 0:=rfl
theorem iLh:(St.qG x e sz m cs).heap 1 0=some (.yD e sz m cs):=rfl
theorem iLc:(St.qG x e sz m cs).aP 2=0∧(St.qG x e sz m cs).aP 4=0∧(St.qG x e sz m cs).aP 5=0∧(St.qG x e sz m cs).aP 7=0∧(St.qG x e sz m cs).aP 9=0∧(St.qG x e sz m cs).aP 26=0∧(St.qG x e sz m cs).aP 27=0:=⟨rfl,rfl,rfl,rfl,rfl,rfl,rfl⟩
end
theorem aRG {t:State} {v:SV} {Q R:Option (List Request)} (h:TD t v Q R) (gN:NEv v) (hB:v.B≠some []) (hL:v.L≠some []) (ht:0<v.ns.length) (hQ:Q≠some []) (hR:R≠some []) (L:List cA) (hn:((ol Q).length:Int)+L.length<800000) (q:Option (List Request)) (tag:Int) (hq:Gz v.ns (Q,t.bB) L=(q,tag)) :
 aC Tryz.prog 31 [.agg (aF t),.uniq 27 32 L.length (dV L)]=some (.agg (aF { t with cY:=ov aA q,bB:=tag })):=by
 have aGn:=k80 h gN hB hL ht hQ hR
 rw[WQ Tryz.func31 rfl aMi rfl (qY _ _)];refine jG ?_
 obtain⟨Z,hZ⟩:∃Z,O2 t v Q R 9 0=Z:=⟨_,rfl⟩
 simp only[Z8,seval,aGn,AE,NW,iL0,iL1,iLh,iLc,PN,HG,X6];refine cE (fun m st=>∃(k:Nat) (X:AV) (p:Option (List Request)) (tg:Int),(st.env 10=.own 1 0∧st.heap 1 0=some (.yD 27 32 L.length (dV L))∧st.env 11=.v (.int .i64 L.length)∧st.env 12=.v (.int .i64 k)∧st.env 4=.ptr 4 0 0∧st.heap 4 0=some (.cells (aF iW))∧st.env 5=.ptr 5 0 0∧st.heap 5 0=some (.cells (aF (JP t v Q R X tg))))∧(∀j,j<nS v→st.heap 9 j=(By v)[j]?)∧(∀l,R=some l→st.heap 9 (nR v Q)=some (.row 63 35 l.length (aA l))) ∧
  ((p=none∧X=.v (.slice none 0 0))∨∃s g l,p=some l∧X=.own s g∧st.heap s g=some (.row 63 35 l.length (aA l))∧((s=27∧g<st.aP 27)∨(s=9∧g=nS v∧Q≠none)))∧Gz v.ns (Q,t.bB) (L.take k)=(p,tg)∧k≤L.length∧m=L.length-k)
  (fun e st=>e=.exit 0∧∃(X:AV),(st.env 4=.ptr 4 0 0∧st.heap 4 0=some (.cells (aF iW))∧st.env 5=.ptr 5 0 0∧st.heap 5 0=some (.cells (aF (JP t v Q R X tag))))∧(∀j,j<nS v→st.heap 9 j=(By v)[j]?)∧(∀l,R=some l→st.heap 9 (nR v Q)=some (.row 63 35 l.length (aA l))) ∧
   ((q=none∧X=.v (.slice none 0 0))∨∃s g l,q=some l∧X=.own s g∧st.heap s g=some (.row 63 35 l.length (aA l))∧((s=27∧g<st.aP 27)∨(s=9∧g=nS v∧Q≠none)))) L.length ?step ?start ?rest
 case step =>
  rintro m st ⟨k,X,p,tg,hI,hH,PM,hX,hp,hk,hm⟩
  by_cases aY:(k:Int)<L.length
  case neg =>
   have Fg:k=L.length:=by omega
   subst Fg;rw[List.take_length,hq] at hp;obtain⟨rfl,rfl⟩:=Prod.mk.inj hp
   apply oT (.exit 0)
   ·simp only[Z8,seval,hI,aY];rfl
   ·exact⟨rfl,X,by simp only[E8,seval,hI],fun j hj=>by simp only[E8,seval];exact hH j hj,fun l hl=>by simp only[E8,seval];exact PM l hl,by simpa only[E8,seval] using hX⟩
  have q0:(0:Int)≤k:=by omega
  have hw:IntKind.i64.wrap ((k:Int)+1)=((k+1:Nat):Int):=by rw[pZ _ (by omega) (by omega)];omega
  have sG:=Zm v.ns (Q,t.bB) L k (by omega)
  rw[hp] at sG;obtain⟨r,hr⟩:∃r,gx dE L (k:Int)=r:=⟨_,rfl⟩
  have ix:DQ 27 32 (some (.yD 27 32 L.length (dV L))) 1 0 (k:Int)=some (.ptr 1 0 ((k:Int).toNat * 32)):=PN _ _ _ _ _ _ _ q0 aY
  have ld:sQ Tryz.prog 27 (some (.yD 27 32 L.length (dV L))) ((k:Int).toNat * 32)=eK Tryz.prog 27 (aV (gx dE L (k:Int))) 0:=r9 (n:=L.length) (k:=32) q0 aY aFG (by decide) (by decide)
  rw[hr] at ld;rw[hr] at sG;have lp:((ol p).length:Int)<900000:=by
   have h1:=Qg v.ns (Q,t.bB) (L.take k)
   rw[hp,List.length_take] at h1;have h2:(ol (p,tg).1).length=(ol p).length:=rfl
   have h3:(ol (Q,t.bB).1).length=(ol Q).length:=rfl
   omega
  have lp2:((ol p).length:Int)<1000000:=by omega
  obtain⟨K,hK⟩:∃K:St→Prop,K=fun uZ=>(∀j,j<nS v→uZ.heap 9 j=(By v)[j]?)∧(∀l,R=some l→uZ.heap 9 (nR v Q)=some (.row 63 35 l.length (aA l)))∧cF uZ X=some (ov aA p):=⟨_,rfl⟩
  have K0:K st:=by
   rw[hK];refine⟨hH,PM, ?_⟩
   rcases hX with ⟨rfl,rfl⟩|⟨s,g,l,rfl,rfl,h1,_⟩
   ·exact bY (.v _)
   ·exact Tryz.iK h1
  have Kp:∀uZ d y,K (St.put uZ d y)=K uZ:=fun uZ d y=>by rw[hK];cases d<;>rfl
  have xn:∀uZ e,cF (St.new uZ 7 e) X=cF uZ X:=fun uZ e=>by
   rcases hX with ⟨rfl,rfl⟩|⟨s,g,l,rfl,rfl,h1,h2⟩
   ·rw[bY (.v _),bY (.v _)]
   ·have s7:(s=7)=False:=eq_false (by omega)
    rw[bA,bA];simp only[sV,s7,false_and,if_false]
  have xs:∀uZ c e,cF (St.jA uZ 7 c e) X=cF uZ X:=fun uZ c e=>by
   rcases hX with ⟨rfl,rfl⟩|⟨s,g,l,rfl,rfl,h1,h2⟩
   ·rw[bY (.v _),bY (.v _)]
   ·have s7:(s=7)=False:=eq_false (by omega)
    rw[bA,bA];simp only[pU,s7,false_and,if_false]
  have n97:((9:Nat)=7)=False:=eq_false (by decide)
  have Kn:∀uZ e,K (St.new uZ 7 e)=K uZ:=fun uZ e=>by rw[hK];simp only[sV,n97,false_and,if_false,xn]
  have Ks:∀uZ c e,K (St.jA uZ 7 c e)=K uZ:=fun uZ c e=>by rw[hK];simp only[pU,n97,false_and,if_false,xs]
  have JQ:∀(uZ:St) (d:Option Nat),K uZ→aM (aC Tryz.prog) 84 [.agg (aF (JP t v Q R X tg)),.agg (aV r)] uZ d=some { dst:=d,val:=.v (.bool (decide (sI v.ns r)))}:=fun uZ d hk=>by
   rw[hK] at hk;exact aMh h p tg lp r uZ d (fun j hj=>by rw[Nat.zero_add];exact hk.1 j hj) hk.2.2 (by rw[Nat.zero_add];exact nI hk.2.1 fun l _=>fJ l)
  have eX:(JP t v Q R X tg).cY=X:=rfl
  have eN:(JP t v Q R X tg).bB=tg:=rfl
  have zR:bU.due=0:=rfl
  have zT:bU.tries=0:=rfl
  by_cases ho:sI v.ns r
  case neg =>
   rw[show GU v.ns (p,tg) r=(p,tg) from if_neg ho] at sG;apply oN (L.length-(k+1))
   ·simp only[Z8,seval,hI,aY,q0,hr,ix,ld,Kp,Kn,Ks,K0,JQ,ho,decide_false,hw];rfl
   ·exact⟨k+1,X,p,tg,by simp only[E8,seval,hI],fun j hj=>by simp only[E8,seval];exact hH j hj,fun l hl=>by simp only[E8,seval];exact PM l hl,hX.imp id fun ⟨s,g,l,e1,e2,h1,h2⟩=>⟨s,g,l,e1,e2,by have s7:(s=7)=False:=eq_false (by omega);simp only[E8,seval,s7,false_and,if_false];exact h1,by simpa only[E8,seval] using h2⟩,sG,by omega,rfl⟩
  rw[show GU v.ns (p,tg) r=(some (ol p++[⟨⟨tg⟩,r,0,0⟩]),IntKind.u64.wrap (tg+1)) from if_pos ho] at sG
  rcases hX with ⟨rfl,rfl⟩|⟨s,g,l,rfl,rfl,h1,h2⟩
  ·apply oN (L.length-(k+1))
   ·simp only[Z8,seval,hI,aY,q0,hr,ix,ld,Kp,Kn,Ks,K0,JQ,ho,decide_true,eX,eN,zR,zT,hw];rfl
   ·exact⟨k+1,.own 27 (st.aP 27),_,_,by simp only[E8,seval,hI]<;>rfl,fun j hj=>by simp only[E8,seval];exact hH j hj,fun l hl=>by simp only[E8,seval];exact PM l hl,.inr ⟨27,st.aP 27,_,rfl,rfl,by simp only[E8,seval]<;>rfl,.inl ⟨rfl,by simp only[E8,seval]<;>omega⟩⟩,sG,by omega,rfl⟩
  ·rw[Bz] at lp2;rcases h2 with ⟨rfl,hg⟩|⟨rfl,rfl,hQ1⟩
   ·have uY:(g=st.aP 27)=False:=eq_false (by omega)
    have hgn':(st.aP 27=g)=False:=eq_false (by omega)
    apply oN (L.length-(k+1))
    ·simp only[Z8,seval,hI,aY,q0,hr,ix,ld,Kp,Kn,Ks,K0,JQ,ho,decide_true,eX,eN,zR,zT,hw,h1,mA _ _ _ _ lp2];rfl
    ·exact⟨k+1,.own 27 (st.aP 27),_,_,by simp only[E8,seval,hI]<;>rfl,fun j hj=>by simp only[E8,seval];exact hH j hj,fun l hl=>by simp only[E8,seval];exact PM l hl,.inr ⟨27,st.aP 27,_,rfl,rfl,by simp only[E8,seval]<;>rfl,.inl ⟨rfl,by simp only[E8,seval]<;>omega⟩⟩,sG,by omega,rfl⟩
   ·have hR1:nR v Q=nS v+1:=by
     cases Q with
     | none=>exact absurd rfl hQ1
     | some l=>rfl
    apply oN (L.length-(k+1))
    ·simp only[Z8,seval,hI,aY,q0,hr,ix,ld,Kp,Kn,Ks,K0,JQ,ho,decide_true,eX,eN,zR,zT,hw,h1,mA _ _ _ _ lp2];rfl
    ·exact⟨k+1,.own 27 (st.aP 27),_,_,by simp only[E8,seval,hI]<;>rfl,fun j hj=>by have UD:(j=nS v)=False:=eq_false (by omega);simp only[E8,seval,UD,and_false,if_false];exact hH j hj,fun l hl=>by have UD:(nR v Q=nS v)=False:=eq_false (by omega);simp only[E8,seval,UD,and_false,if_false];exact PM l hl,.inr ⟨27,st.aP 27,_,rfl,rfl,by simp only[E8,seval]<;>rfl,.inl ⟨rfl,by simp only[E8,seval]<;>omega⟩⟩,sG,by omega,rfl⟩
 case start =>
  have hz:O2 t v Q R 9 0=JP t v Q R (rv 9 (nS v) Q) t.bB:=by unfold O2 JP;rw[Nat.zero_add (nS v)];rfl
  have lt:∀j,j<nS v→j<(HF v Q R).length:=fun j hj=>by unfold HF;rw[List.length_append];unfold nS at hj;omega
  refine⟨0,rv 9 (nS v) Q,Q,t.bB,by simp only[E8,seval,NW,hz,iL0,iL1,iLh,iLc]<;>rfl,fun j hj=>?_,fun l hl=>?_, ?_,rfl,by omega,by omega⟩
  ·have lj:=lt j hj
   simp only[E8,seval,NW,iLc,true_and,Nat.zero_le,Nat.sub_zero,lj,if_true,aGg v Q R j hj]
  ·have e:=aGi v Q R l hl
   have lj:=(List.getElem?_eq_some_iff.1 e).1
   simp only[E8,seval,NW,iLc,true_and,Nat.zero_le,Nat.sub_zero,lj,if_true,e]
  ·cases Q with
   | none=>exact .inl ⟨rfl,rfl⟩
   | some l =>
     have e:=aGh v (some l) R l rfl
     have lj:=(List.getElem?_eq_some_iff.1 e).1
     refine .inr ⟨9,nS v,l,rfl,rfl, ?_,.inr ⟨rfl,rfl,nofun⟩⟩
     simp only[E8,seval,NW,iLc,true_and,Nat.zero_le,Nat.sub_zero,lj,if_true,e]
 case rest =>
  rintro e st ⟨rfl,X,hI,hH,PM,hX⟩
  simp only[Z8,seval,hI];have n4:((9:Nat)=4)=False:=eq_false (by decide)
  refine⟨.agg (aF { t with cY:=ov aA q,bB:=tag }),eB rfl (by simp only[E8,seval]<;>rfl) (cs:=aF (JP t v Q R X tag)) (by simp only[Z8,seval,hI]<;>rfl) ?ex,rfl⟩
  refine X5 h q tag _ (fun j hj=>by simp only[E8,seval,n4,false_and,if_false];exact hH j hj) ?x1 (nI (fun l hl=>by simp only[E8,seval,n4,false_and,if_false];exact PM l hl) fun l _=>fJ l)
  rcases hX with ⟨rfl,rfl⟩|⟨s,g,l,rfl,rfl,h1,h2⟩
  ·exact bY (.v _)
  ·have s4:(s=4)=False:=eq_false (by omega)
   exact Go.Ab.iK (by simp only[E8,seval,s4,false_and,if_false];exact h1) (fJ l)
end Go.Ab.Tryz
end
namespace Go.Ab.Tryz
open Classical Go.Proofs Go.Ab
theorem c4 (l p:List Int) (hl:(l.length:Int)≤9223372036854775807) (hp:(p.length:Int)≤9223372036854775807):aC Tryz.prog 4 [.sl l.length (aJ l),.sl p.length (aJ p)]=some (.v (.bool true)):=by
 obtain⟨t,v,Q,R,hy,T⟩:=x24 l hl
 have ft:=T.td.flat
 have k24:=kx hy (cU (Sl l)) ft
 have hs:=T.gi.sd
 have aGp:=k29
 have Cl:(0:Int)<(v.ns.length:Int):=by have:=T.gi.pos;omega
 have gN:¬((v.ns.length:Int)=0):=by omega
 obtain⟨hB,L,hL,hL0⟩:=T.lists
 have DB:v.L≠some []:=fun e=>hL0 (Option.some.inj (hL.symm.trans e))
 have lQ:=T.lq
 have mB:=T.mB
 have ev31:∀ {call:Nat→List AV→Option AV} {ops:Array Oper} {st:St} {T:Nat} {pos:String} {eH:Array Edge} (args:Array Operand) (rZ:Array Nat),cD Tryz.prog call ops ⟨some 56,.call ⟨.value (.func 31),args,rZ⟩,T,pos,eH,none⟩ st=cH (nK call 31 (args.toList.map st.ev) st (some 56)) fun e=>some (e.apply st):=fun args rZ=>G5 31 args rZ rfl rfl rfl
 rw[cL Tryz.func4 rfl ok4 rfl];refine jG ?_
 by_cases g20:(20:Int)<(p.length:Int)
 ·simp only[Z8,seval,k24,g20,aGp];exact⟨_,bS rfl (by simp only[E8,seval]<;>rfl) (by first|exact .v _|simp only[dU]),rfl⟩
 simp only[Z8,seval,k24,g20];refine cE (fun m st=>∃(k:Nat) (rs:List cA),(st.env 1=.sl p.length (aJ p)∧st.env 5=.ptr 5 0 0∧st.heap 5 0=some (.cells (aF t))∧st.env 7=.v (.int .i64 k))∧((k=0∧rs=[]∧st.env 6=.v (.slice none 0 0))∨(0<k∧∃g,st.env 6=.own 53 g∧g<st.aP 53∧st.heap 53 g=some (.row 27 32 rs.length (dV rs))))∧rs.length=k∧k≤p.length∧m=p.length-k)
  (fun e st=>e=.exit 0∧∃(rs:List cA),(st.env 5=.ptr 5 0 0∧st.heap 5 0=some (.cells (aF t)))∧((rs=[]∧st.env 6=.v (.slice none 0 0))∨∃g,st.env 6=.own 53 g∧st.heap 53 g=some (.row 27 32 rs.length (dV rs)))∧rs.length≤20) p.length ?step ?start ?rest
 case step =>
  rintro m st ⟨k,rs,hI,h6,hr,hk,hm⟩
  by_cases aY:(k:Int)<p.length
  case neg =>
   rcases h6 with ⟨h0,h1,h6⟩|⟨h0,g,h6⟩
   ·apply oT (.exit 0)
    ·simp only[Z8,seval,hI,aY];rfl
    ·exact⟨rfl,rs,by simp only[E8,seval,hI],.inl ⟨h1,by simp only[E8,seval,h6]⟩,by omega⟩
   ·apply oT (.exit 0)
    ·simp only[Z8,seval,hI,aY];rfl
    ·exact⟨rfl,rs,by simp only[E8,seval,hI],.inr ⟨g,by simp only[E8,seval,h6]⟩,by omega⟩
  have q0:(0:Int)≤k:=by omega
  have hw:IntKind.i64.wrap ((k:Int)+1)=((k+1:Nat):Int):=by rw[pZ _ (by omega) (by omega)];omega
  obtain⟨y,hyy⟩:∃y,it p (k:Int)=y:=⟨_,rfl⟩
  obtain⟨b0,_⟩:=Jw y 65535 (by decide)
  obtain⟨x1,hx1⟩:∃x,IntKind.i64.wrap ((BitVec.ofInt IntKind.i64.bits y &&& BitVec.ofInt IntKind.i64.bits 65535).toNat:Int)=x:=⟨_,rfl⟩
  rw[hx1] at b0;obtain⟨m1,m2⟩:=eA (n:=(v.ns.length:Int)) b0 Cl
  obtain⟨i,hi⟩:∃i,x1.tmod (v.ns.length:Int)=i:=⟨_,rfl⟩
  rw[hi] at m1 m2;have lr:(rs.length:Int)<1000000:=by omega
  by_cases g7:IntKind.i64.wrap ((BitVec.ofInt IntKind.i64.bits (x1.fdiv (2 ^ min 8 IntKind.i64.bits)) &&& BitVec.ofInt IntKind.i64.bits 7).toNat:Int)=7
  ·rcases h6 with ⟨h0,rfl,h6⟩|⟨h0,g,h6⟩
   ·apply oN (p.length-(k+1))
    ·simp only[Z8,seval,hI,h6,aY,q0,hyy,hx1,gN,hi,m1,m2,hs.tree,bt g7,Pm,hw];rfl
    ·exact⟨k+1,[_],by simp only[E8,seval,hI],.inr ⟨by omega,_,by simp only[E8,seval]<;>rfl,(by simp only[E8,seval]<;>omega),(by simp only[E8,seval]<;>rfl)⟩,by simp at hr ⊢;omega,by omega,rfl⟩
   ·apply oN (p.length-(k+1))
    ·simp only[Z8,seval,hI,h6,lr,aY,q0,hyy,hx1,gN,hi,m1,m2,hs.tree,bt g7,Pm,hw];rfl
    ·exact⟨k+1,rs++[_],by simp only[E8,seval,hI],.inr ⟨by omega,_,by simp only[E8,seval]<;>rfl,(by simp only[E8,seval]<;>omega),(by simp only[E8,seval]<;>rfl)⟩,by rw[List.length_append,hr];rfl,by omega,rfl⟩
  ·rcases h6 with ⟨h0,rfl,h6⟩|⟨h0,g,h6⟩
   ·apply oN (p.length-(k+1))
    ·simp only[Z8,seval,hI,h6,aY,q0,hyy,hx1,gN,hi,m1,m2,hs.tree,bf g7,hw];rfl
    ·exact⟨k+1,[_],by simp only[E8,seval,hI],.inr ⟨by omega,_,by simp only[E8,seval]<;>rfl,(by simp only[E8,seval]<;>omega),(by simp only[E8,seval]<;>rfl)⟩,by simp at hr ⊢;omega,by omega,rfl⟩
   ·apply oN (p.length-(k+1))
    ·simp only[Z8,seval,hI,h6,lr,aY,q0,hyy,hx1,gN,hi,m1,m2,hs.tree,bf g7,hw];rfl
    ·exact⟨k+1,rs++[_],by simp only[E8,seval,hI],.inr ⟨by omega,_,by simp only[E8,seval]<;>rfl,(by simp only[E8,seval]<;>omega),(by simp only[E8,seval]<;>rfl)⟩,by rw[List.length_append,hr];rfl,by omega,rfl⟩
 case start=>exact⟨0,[],by simp only[E8,seval]<;>rfl,.inl ⟨rfl,rfl,by simp only[E8,seval]⟩,rfl,by omega,by omega⟩
 case rest =>
  rintro e st ⟨rfl,rs,hI,h6,hr⟩
  obtain⟨⟨q,tag⟩,hP⟩:∃P,Gz v.ns (Q,t.bB) rs=P:=⟨_,rfl⟩
  have ql:=Qg v.ns (Q,t.bB) rs
  rw[hP] at ql;have e1:(ol (q,tag).1).length=(ol q).length:=rfl
  have e2:(ol (Q,t.bB).1).length=(ol Q).length:=rfl
  have nq:((ol q).length:Int)<900000:=by omega
  obtain⟨t2,ht2⟩:∃t2,({ t with cY:=ov aA q,bB:=tag }:State)=t2:=⟨_,rfl⟩
  have T2:TD t2 v q R:=by rw[← ht2];exact⟨T.td.sd,rfl,T.td.ret,nq,T.td.nR⟩
  have MY:=T2.flat
  have aGq:=k28 T2 q R rfl rfl
  rw[show Sk t2 t2.store (ov aA q) (ov aA R)=t2 by unfold Sk;rw[← T2.Cp,← T2.ret]] at aGq
  rcases h6 with ⟨rfl,h6⟩|⟨g,h6,hg⟩
  ·have h31:=c31 T.td T.rg.ne hB DB T.gi.pos T.qn T.rn none (by show ((ol Q).length:Int)+((0:Nat):Int)<_;omega) q tag hP
   have h32:=c32 T.td none (by show ((ol Q).length:Int)+((0:Nat):Int)<_;omega)
   rw[show DN t (Gz v.ns (Q,t.bB) (ol none))=t2 by rw[show ol (none:Option (List cA))=[] from rfl,hP,← ht2];rfl] at h32
   rw[ht2] at h31;have fn:∀x∈([.agg (aF t),.v (.slice none 0 0)]:List AV),Flat x:=bG ft (.v _)
   have kl:∀(st:St) (d:Option Nat),nK (aC Tryz.prog) 31 [.agg (aF t),.v (.slice none 0 0)] st d=some { dst:=d,val:=.agg (aF t2)}:=fun st d=>by
    unfold nK;show (if _ then _ else _)=_
    rw[if_pos fn];exact kx h31 fn MY st d
   have ke:∀(st:St) (d:Option Nat),eI (aC Tryz.prog) 32 [.agg (aF t),.v (.slice none 0 0)] st d=some { dst:=d,val:=.agg (aF t2)}:=fun st d=>by
    rw[Zh fn];exact kx h32 fn MY st d
   simp only[Z8,seval,hI,h6,ev31,kl,ke,aGq,aGp];exact⟨_,bS rfl (by simp only[E8,seval]<;>rfl) (by first|exact .v _|simp only[dU]),rfl⟩
  ·have h31:=aRG T.td T.rg.ne hB DB T.gi.pos T.qn T.rn rs (by omega) q tag hP
   have h32:=c32 T.td (some rs) (by rw[Bz];omega)
   rw[show DN t (Gz v.ns (Q,t.bB) (ol (some rs)))=t2 by rw[Bz,hP,← ht2];rfl] at h32
   rw[ht2] at h31;have kl:∀(st:St) (d:Option Nat),st.heap 53 g=some (.row 27 32 rs.length (dV rs))→nK (aC Tryz.prog) 31 [.agg (aF t),.own 53 g] st d=some { dst:=d,val:=.agg (aF t2)}:=fun st d hh=>by
    unfold nK;simp only[hh];rw[if_pos ⟨ft,Ca rs⟩,h31];simp only
    rw[if_pos MY]
   have ke:∀(st:St) (d:Option Nat),st.heap 53 g=some (.row 27 32 rs.length (dV rs))→eI (aC Tryz.prog) 32 [.agg (aF t),.own 53 g] st d=some { dst:=d,val:=.agg (aF t2),dJ:=some (53,g,none)}:=fun st d hh=>by
    have hh':fG st (.own 53 g)=some (ov dV (some rs)):=PL hh (Ca _)
    rw[Gd (s:=53) (k:=g) (by rw[List.flatMap_cons,tP ft];rfl) (by intro y hy;simp only[List.mem_cons,List.not_mem_nil,or_false] at hy;rcases hy with rfl|rfl;exact .inl ft;exact .inr (.inl ⟨53,g,rfl⟩)),List.map_cons,List.map_cons,List.map_nil,dM ft,hh',bL,bL,gK]
    exact Zi h32 MY
   simp only[Z8,seval,hI,h6,hg,ev31,kl,ke,aGq,aGp];exact⟨_,bS rfl (by simp only[E8,seval]<;>rfl) (by first|exact .v _|simp only[dU]),rfl⟩
end Go.Ab.Tryz
