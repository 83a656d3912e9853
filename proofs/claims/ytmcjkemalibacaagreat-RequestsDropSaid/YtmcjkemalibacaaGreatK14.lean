/-
  Part 14 of the proof: an evaluator of programs, its soundness, and what functions of this program compute.
-/
import Derived.Test.YtmcjkemalibacaaGreatK13
import Derived.Test.YtmcjkemalibacaaGreatK12
set_option linter.all false
set_option maxRecDepth 20000
set_option maxHeartbeats 40000000
namespace Go.Ab.Tryz
open Classical Go.Proofs Go.Ab
theorem x37 {s:aO} {v:SV} {q:Int} (h:GI s v q) (r:RG s v) (hB:0<(ol v.B).length∧(ol v.B).length≤64) (k:Int) (hk:0≤k):∃x,aC Tryz.prog 37 [.agg (aB s),.v (.int .i64 k)]=some x∧∃(a:rX) (V:List Int),x=.agg (iB a)∧a.eY=ov aJ (some V)∧(V.length:Int)≤1000∧Rg a.slot∧Rg a.target.aK:=by
 have hn:=h.sd.nn
 have hp:(0:Int)<(v.ns.length:Int):=by have:=h.pos;omega
 have gW:¬((v.ns.length:Int)=0):=by omega
 obtain⟨m1,m2⟩:=eG (n:=(v.ns.length:Int)) hk hp
 obtain⟨i,hi⟩:∃i,k.tmod (v.ns.length:Int)=i:=⟨_,rfl⟩
 rw[hi] at m1 m2;obtain⟨m3,m4⟩:=eG (n:=(v.ns.length:Int)) (Ar hk (min 4 IntKind.i64.bits)) hp
 have Mq:=h.sp
 obtain⟨l,kl,hl⟩:=k45 (ol v.B).length ((k).fdiv (2 ^ min 3 IntKind.i64.bits)) (by omega) (by omega)
 have nl:(l.length:Int)<1000000:=by omega
 have rn:Rg s.now:=⟨r.now.1,by have:=r.now.2;omega⟩
 rw[cL Tryz.func37 rfl aQj rfl];by_cases g1:0<((((k).fdiv (2 ^ min 9 IntKind.i64.bits))).tmod 4)
 case neg =>
  obtain⟨y,hy,c,rfl,rc⟩:=x92 h r i (IntKind.u64.wrap ((s.now).tdiv s.cFg.qS)) (jW _)
  have Qv:=kx hy (nD h.sd.flat (.v _) (.v _)) (.agg _ (dC _))
  by_cases d0:((((k).fdiv (2 ^ min 12 IntKind.i64.bits))).tmod 20)=0
  ·simp only[Z8,seval,h.sd.tree,h.sd.jN,gW,hi,m1,m2,kl,g1,Mq,Qv,bt d0];exact⟨_,by apply eH;rfl;all_goals simp only[aI,Z8,seval,bR,lZ,bG,cO,jV,dW]<;>rfl,_,l,rfl,rfl,by omega,rn,jW _⟩
  by_cases d1:((((k).fdiv (2 ^ min 12 IntKind.i64.bits))).tmod 20)=1
  ·simp only[Z8,seval,h.sd.tree,h.sd.jN,gW,hi,m1,m2,kl,g1,Mq,Qv,bf d0,bt d1,Qj];exact⟨_,by apply eH;rfl;all_goals simp only[aI,Z8,seval,bR,lZ,bG,cO,jV,dW]<;>rfl,_,l,rfl,rfl,by omega,rn,rc⟩
  by_cases d2:((((k).fdiv (2 ^ min 12 IntKind.i64.bits))).tmod 20)=2
  ·simp only[Z8,seval,h.sd.tree,h.sd.jN,gW,hi,m1,m2,kl,g1,Mq,Qv,bf d0,bf d1,bt d2,m3,m4];exact⟨_,by apply eH;rfl;all_goals simp only[aI,Z8,seval,bR,lZ,bG,cO,jV,dW]<;>rfl,_,l,rfl,rfl,by omega,rn,rc⟩
  by_cases d3:((((k).fdiv (2 ^ min 12 IntKind.i64.bits))).tmod 20)=3
  ·simp only[Z8,seval,h.sd.tree,h.sd.jN,gW,hi,m1,m2,kl,g1,Mq,Qv,bf d0,bf d1,bf d2,bt d3];exact⟨_,by apply eH;rfl;all_goals simp only[aI,Z8,seval,bR,lZ,bG,cO,jV,dW]<;>rfl,_,l,rfl,rfl,by omega,jW _,rc⟩
  by_cases d4:((((k).fdiv (2 ^ min 12 IntKind.i64.bits))).tmod 20)=4
  ·simp only[Z8,seval,h.sd.tree,h.sd.jN,gW,hi,m1,m2,kl,g1,Mq,Qv,bf d0,bf d1,bf d2,bf d3,bt d4,Ep _ _ _ _ nl];exact⟨_,by apply eH;rfl;all_goals simp only[aI,Z8,seval,bR,lZ,bG,cO,jV,dW]<;>rfl,_,l++[((((k).fdiv (2 ^ min 17 IntKind.i64.bits))).tmod 9)],rfl,rfl,by rw[List.length_append,List.length_cons,List.length_nil];omega,rn,rc⟩
  simp only[Z8,seval,h.sd.tree,h.sd.jN,gW,hi,m1,m2,kl,g1,Mq,Qv,bf d0,bf d1,bf d2,bf d3,bf d4];exact⟨_,by apply eH;rfl;all_goals simp only[aI,Z8,seval,bR,lZ,bG,cO,jV,dW]<;>rfl,_,l,rfl,rfl,by omega,rn,rc⟩
 by_cases g2:0<s.now
 case neg =>
  obtain⟨y,hy,c,rfl,rc⟩:=x92 h r i (IntKind.u64.wrap ((s.now).tdiv s.cFg.qS)) (jW _)
  have Qv:=kx hy (nD h.sd.flat (.v _) (.v _)) (.agg _ (dC _))
  by_cases d0:((((k).fdiv (2 ^ min 12 IntKind.i64.bits))).tmod 20)=0
  ·simp only[Z8,seval,h.sd.tree,h.sd.jN,gW,hi,m1,m2,kl,g1,g2,Mq,Qv,bt d0];exact⟨_,by apply eH;rfl;all_goals simp only[aI,Z8,seval,bR,lZ,bG,cO,jV,dW]<;>rfl,_,l,rfl,rfl,by omega,rn,jW _⟩
  by_cases d1:((((k).fdiv (2 ^ min 12 IntKind.i64.bits))).tmod 20)=1
  ·simp only[Z8,seval,h.sd.tree,h.sd.jN,gW,hi,m1,m2,kl,g1,g2,Mq,Qv,bf d0,bt d1,Qj];exact⟨_,by apply eH;rfl;all_goals simp only[aI,Z8,seval,bR,lZ,bG,cO,jV,dW]<;>rfl,_,l,rfl,rfl,by omega,rn,rc⟩
  by_cases d2:((((k).fdiv (2 ^ min 12 IntKind.i64.bits))).tmod 20)=2
  ·simp only[Z8,seval,h.sd.tree,h.sd.jN,gW,hi,m1,m2,kl,g1,g2,Mq,Qv,bf d0,bf d1,bt d2,m3,m4];exact⟨_,by apply eH;rfl;all_goals simp only[aI,Z8,seval,bR,lZ,bG,cO,jV,dW]<;>rfl,_,l,rfl,rfl,by omega,rn,rc⟩
  by_cases d3:((((k).fdiv (2 ^ min 12 IntKind.i64.bits))).tmod 20)=3
  ·simp only[Z8,seval,h.sd.tree,h.sd.jN,gW,hi,m1,m2,kl,g1,g2,Mq,Qv,bf d0,bf d1,bf d2,bt d3];exact⟨_,by apply eH;rfl;all_goals simp only[aI,Z8,seval,bR,lZ,bG,cO,jV,dW]<;>rfl,_,l,rfl,rfl,by omega,jW _,rc⟩
  by_cases d4:((((k).fdiv (2 ^ min 12 IntKind.i64.bits))).tmod 20)=4
  ·simp only[Z8,seval,h.sd.tree,h.sd.jN,gW,hi,m1,m2,kl,g1,g2,Mq,Qv,bf d0,bf d1,bf d2,bf d3,bt d4,Ep _ _ _ _ nl];exact⟨_,by apply eH;rfl;all_goals simp only[aI,Z8,seval,bR,lZ,bG,cO,jV,dW]<;>rfl,_,l++[((((k).fdiv (2 ^ min 17 IntKind.i64.bits))).tmod 9)],rfl,rfl,by rw[List.length_append,List.length_cons,List.length_nil];omega,rn,rc⟩
  simp only[Z8,seval,h.sd.tree,h.sd.jN,gW,hi,m1,m2,kl,g1,g2,Mq,Qv,bf d0,bf d1,bf d2,bf d3,bf d4];exact⟨_,by apply eH;rfl;all_goals simp only[aI,Z8,seval,bR,lZ,bG,cO,jV,dW]<;>rfl,_,l,rfl,rfl,by omega,rn,rc⟩
 obtain⟨y,hy,c,rfl,rc⟩:=x92 h r i (IntKind.u64.wrap ((IntKind.u64.wrap (s.now-1)).tdiv s.cFg.qS)) (jW _)
 have Qv:=kx hy (nD h.sd.flat (.v _) (.v _)) (.agg _ (dC _))
 by_cases d0:((((k).fdiv (2 ^ min 12 IntKind.i64.bits))).tmod 20)=0
 ·simp only[Z8,seval,h.sd.tree,h.sd.jN,gW,hi,m1,m2,kl,g1,g2,Mq,Qv,bt d0];exact⟨_,by apply eH;rfl;all_goals simp only[aI,Z8,seval,bR,lZ,bG,cO,jV,dW]<;>rfl,_,l,rfl,rfl,by omega,jW _,jW _⟩
 by_cases d1:((((k).fdiv (2 ^ min 12 IntKind.i64.bits))).tmod 20)=1
 ·simp only[Z8,seval,h.sd.tree,h.sd.jN,gW,hi,m1,m2,kl,g1,g2,Mq,Qv,bf d0,bt d1,Qj];exact⟨_,by apply eH;rfl;all_goals simp only[aI,Z8,seval,bR,lZ,bG,cO,jV,dW]<;>rfl,_,l,rfl,rfl,by omega,jW _,rc⟩
 by_cases d2:((((k).fdiv (2 ^ min 12 IntKind.i64.bits))).tmod 20)=2
 ·simp only[Z8,seval,h.sd.tree,h.sd.jN,gW,hi,m1,m2,kl,g1,g2,Mq,Qv,bf d0,bf d1,bt d2,m3,m4];exact⟨_,by apply eH;rfl;all_goals simp only[aI,Z8,seval,bR,lZ,bG,cO,jV,dW]<;>rfl,_,l,rfl,rfl,by omega,jW _,rc⟩
 by_cases d3:((((k).fdiv (2 ^ min 12 IntKind.i64.bits))).tmod 20)=3
 ·simp only[Z8,seval,h.sd.tree,h.sd.jN,gW,hi,m1,m2,kl,g1,g2,Mq,Qv,bf d0,bf d1,bf d2,bt d3];exact⟨_,by apply eH;rfl;all_goals simp only[aI,Z8,seval,bR,lZ,bG,cO,jV,dW]<;>rfl,_,l,rfl,rfl,by omega,jW _,rc⟩
 by_cases d4:((((k).fdiv (2 ^ min 12 IntKind.i64.bits))).tmod 20)=4
 ·simp only[Z8,seval,h.sd.tree,h.sd.jN,gW,hi,m1,m2,kl,g1,g2,Mq,Qv,bf d0,bf d1,bf d2,bf d3,bt d4,Ep _ _ _ _ nl];exact⟨_,by apply eH;rfl;all_goals simp only[aI,Z8,seval,bR,lZ,bG,cO,jV,dW]<;>rfl,_,l++[((((k).fdiv (2 ^ min 17 IntKind.i64.bits))).tmod 9)],rfl,rfl,by rw[List.length_append,List.length_cons,List.length_nil];omega,jW _,rc⟩
 simp only[Z8,seval,h.sd.tree,h.sd.jN,gW,hi,m1,m2,kl,g1,g2,Mq,Qv,bf d0,bf d1,bf d2,bf d3,bf d4];exact⟨_,by apply eH;rfl;all_goals simp only[aI,Z8,seval,bR,lZ,bG,cO,jV,dW]<;>rfl,_,l,rfl,rfl,by omega,jW _,rc⟩
theorem iR {call:Nat→List AV→Option AV} {ops:Array Oper} {st:St} {T:Nat} {pos:String} {eP:Array Edge} (d:Nat):cF Tryz.prog call ops ⟨some d,.buildSlice 22 6 #[(0,.const (.int .i64 1)),(1,.const (.int .i64 1)),(2,.const (.int .i64 2)),(3,.const (.int .i64 2)),(4,.const (.int .i64 3)),(5,.const (.int .i64 4))],T,pos,eP,none⟩ st =
 some ((st.new d (.row 3 1 6 (aJ [1,1,2,2,3,4]))).put (some d) (.own d (st.aP d))):=by
 rw[lB];simp[Kw,ze3,cN,St.ev,AV.jD,Value.oneCell',gT,AV.cells,List.range,List.range.loop,aJ,pV]
theorem x25 {t:State} {v:SV} {Q R:Option (List Request)} {q:Int} (hT:TD t v Q R) (h:GI t.store v q) (hq:∀r∈ol Q,Rg r.tagged.tag) (k:Int) (hk:0≤k):∃x,aC Tryz.prog 25 [.agg (aF t),.v (.int .i64 k)]=some x∧∃w:fM,x=.agg (bZ w)∧Rg w.tagged.tag:=by
 have hn:=h.sd.nn
 have hp:(0:Int)<(v.ns.length:Int):=by have:=h.pos;omega
 have gW:¬((v.ns.length:Int)=0):=by omega
 obtain⟨m1,m2⟩:=eG (n:=(v.ns.length:Int)) hk hp
 obtain⟨j0,j1⟩:=eG (n:=6) (Ar hk (min 4 IntKind.i64.bits)) (by omega)
 obtain⟨j,hj⟩:∃j,((((k).fdiv (2 ^ min 4 IntKind.i64.bits))).tmod 6)=j:=⟨_,rfl⟩
 rw[hj] at j0 j1;have g6:=pD (l:=[1,1,2,2,3,4]) j0 (by show j<((6:Nat):Int);omega)
 have fv:∀w:fM,Flat (.agg (bZ w))=True:=fun w=>eq_true (.agg _ (gN w))
 have K3:=jW (k.tmod 9)
 rw[cG Tryz.func25 rfl aQk (by kernel_rfl) rfl]
 by_cases g1:(0:Int)<((ol Q).length:Int)
 case neg =>
  by_cases p0:0≤aN v.ns ((nd v.ns (k.tmod (v.ns.length:Int))).block.root)
  case neg =>
   have kp:=fun st d=>l8 v.ns (aN v.ns ((nd v.ns (k.tmod (v.ns.length:Int))).block.root)) (fun hh=>p0 hh.1) st d
   by_cases e2:((((k).fdiv (2 ^ min 14 IntKind.i64.bits))).tmod 16)=0
   ·simp only[ZG,seval,Bool.false_and,Prod.mk.injEq,Gf,iR,hj,j0,j1,g6,hT.Ai,h.sd.tree,gW,m1,m2,mT _ _ hn,g1,kp,bt e2,Qj];exact⟨_,fL rfl (by simp only[E8,seval,fv]<;>rfl) (by simp only[Z8,seval,fv]<;>rfl) (by simp only[dW,and_self,fv]),_,rfl,K3⟩
   simp only[ZG,seval,Bool.false_and,Prod.mk.injEq,Gf,iR,hj,j0,j1,g6,hT.Ai,h.sd.tree,gW,m1,m2,mT _ _ hn,g1,kp,bf e2];exact⟨_,fL rfl (by simp only[E8,seval,fv]<;>rfl) (by simp only[Z8,seval,fv]<;>rfl) (by simp only[dW,and_self,fv]),_,rfl,K3⟩
  have pr:=fY v.ns ((nd v.ns (k.tmod (v.ns.length:Int))).block.root)
  have kp:=fun st d=>k76 v.ns h.up hn (aN v.ns ((nd v.ns (k.tmod (v.ns.length:Int))).block.root)) p0 pr.2 st d
  have pm:=yG h.up p0 pr.2
  have prg:∀x∈path v.ns (aN v.ns ((nd v.ns (k.tmod (v.ns.length:Int))).block.root)),0≤x∧x<v.ns.length:=fun x hx=>vB h.up hx
  have pl:=As h.up (aN v.ns ((nd v.ns (k.tmod (v.ns.length:Int))).block.root))
  obtain⟨p,ep⟩:∃p,path v.ns (aN v.ns ((nd v.ns (k.tmod (v.ns.length:Int))).block.root))=p:=⟨_,rfl⟩
  rw[ep] at kp pm prg pl;have l0:(0:Int)<(p.length:Int):=by have:=List.length_pos_of_mem pm;omega
  have lne:¬((p.length:Int)=0):=by omega
  by_cases e1:0<((((k).fdiv (2 ^ min 14 IntKind.i64.bits))).tmod 4)
  case neg =>
   by_cases e2:((((k).fdiv (2 ^ min 14 IntKind.i64.bits))).tmod 16)=0
   ·simp only[ZG,seval,Bool.false_and,Prod.mk.injEq,Gf,iR,hj,j0,j1,g6,hT.Ai,h.sd.tree,gW,m1,m2,mT _ _ hn,g1,kp,l0,e1,bt e2,Qj];exact⟨_,fL rfl (by simp only[E8,seval,fv]<;>rfl) (by simp only[Z8,seval,fv]<;>rfl) (by simp only[dW,and_self,fv]),_,rfl,K3⟩
   simp only[ZG,seval,Bool.false_and,Prod.mk.injEq,Gf,iR,hj,j0,j1,g6,hT.Ai,h.sd.tree,gW,m1,m2,mT _ _ hn,g1,kp,l0,e1,bf e2];exact⟨_,fL rfl (by simp only[E8,seval,fv]<;>rfl) (by simp only[Z8,seval,fv]<;>rfl) (by simp only[dW,and_self,fv]),_,rfl,K3⟩
  obtain⟨x1,x2⟩:=eG (n:=(p.length:Int)) (Ar hk (min 16 IntKind.i64.bits)) l0
  obtain⟨y,hy⟩:∃y,((((k).fdiv (2 ^ min 16 IntKind.i64.bits))).tmod (p.length:Int))=y:=⟨_,rfl⟩
  rw[hy] at x1 x2;have gp:=pD x1 x2
  obtain⟨z1,z2⟩:=prg (it p y) (by obtain⟨h1,h2⟩:=xA x1 x2;rw[h2];exact List.getElem_mem h1)
  by_cases e2:((((k).fdiv (2 ^ min 14 IntKind.i64.bits))).tmod 16)=0
  ·simp only[ZG,seval,Bool.false_and,Prod.mk.injEq,Gf,iR,hj,j0,j1,g6,hT.Ai,h.sd.tree,gW,m1,m2,mT _ _ hn,g1,kp,l0,lne,e1,hy,x1,x2,gp,z1,z2,bt e2,Qj];exact⟨_,fL rfl (by simp only[E8,seval,fv]<;>rfl) (by simp only[Z8,seval,fv]<;>rfl) (by simp only[dW,and_self,fv]),_,rfl,K3⟩
  simp only[ZG,seval,Bool.false_and,Prod.mk.injEq,Gf,iR,hj,j0,j1,g6,hT.Ai,h.sd.tree,gW,m1,m2,mT _ _ hn,g1,kp,l0,lne,e1,hy,x1,x2,gp,z1,z2,bf e2];exact⟨_,fL rfl (by simp only[E8,seval,fv]<;>rfl) (by simp only[Z8,seval,fv]<;>rfl) (by simp only[dW,and_self,fv]),_,rfl,K3⟩
 by_cases g2:0<((((k).fdiv (2 ^ min 8 IntKind.i64.bits))).tmod 8)
 case neg =>
  by_cases p0:0≤aN v.ns ((nd v.ns (k.tmod (v.ns.length:Int))).block.root)
  case neg =>
   have kp:=fun st d=>l8 v.ns (aN v.ns ((nd v.ns (k.tmod (v.ns.length:Int))).block.root)) (fun hh=>p0 hh.1) st d
   by_cases e2:((((k).fdiv (2 ^ min 14 IntKind.i64.bits))).tmod 16)=0
   ·simp only[ZG,seval,Bool.false_and,Prod.mk.injEq,Gf,iR,hj,j0,j1,g6,hT.Ai,h.sd.tree,gW,m1,m2,mT _ _ hn,g1,g2,kp,bt e2,Qj];exact⟨_,fL rfl (by simp only[E8,seval,fv]<;>rfl) (by simp only[Z8,seval,fv]<;>rfl) (by simp only[dW,and_self,fv]),_,rfl,K3⟩
   simp only[ZG,seval,Bool.false_and,Prod.mk.injEq,Gf,iR,hj,j0,j1,g6,hT.Ai,h.sd.tree,gW,m1,m2,mT _ _ hn,g1,g2,kp,bf e2];exact⟨_,fL rfl (by simp only[E8,seval,fv]<;>rfl) (by simp only[Z8,seval,fv]<;>rfl) (by simp only[dW,and_self,fv]),_,rfl,K3⟩
  have pr:=fY v.ns ((nd v.ns (k.tmod (v.ns.length:Int))).block.root)
  have kp:=fun st d=>k76 v.ns h.up hn (aN v.ns ((nd v.ns (k.tmod (v.ns.length:Int))).block.root)) p0 pr.2 st d
  have pm:=yG h.up p0 pr.2
  have prg:∀x∈path v.ns (aN v.ns ((nd v.ns (k.tmod (v.ns.length:Int))).block.root)),0≤x∧x<v.ns.length:=fun x hx=>vB h.up hx
  have pl:=As h.up (aN v.ns ((nd v.ns (k.tmod (v.ns.length:Int))).block.root))
  obtain⟨p,ep⟩:∃p,path v.ns (aN v.ns ((nd v.ns (k.tmod (v.ns.length:Int))).block.root))=p:=⟨_,rfl⟩
  rw[ep] at kp pm prg pl;have l0:(0:Int)<(p.length:Int):=by have:=List.length_pos_of_mem pm;omega
  have lne:¬((p.length:Int)=0):=by omega
  by_cases e1:0<((((k).fdiv (2 ^ min 14 IntKind.i64.bits))).tmod 4)
  case neg =>
   by_cases e2:((((k).fdiv (2 ^ min 14 IntKind.i64.bits))).tmod 16)=0
   ·simp only[ZG,seval,Bool.false_and,Prod.mk.injEq,Gf,iR,hj,j0,j1,g6,hT.Ai,h.sd.tree,gW,m1,m2,mT _ _ hn,g1,g2,kp,l0,e1,bt e2,Qj];exact⟨_,fL rfl (by simp only[E8,seval,fv]<;>rfl) (by simp only[Z8,seval,fv]<;>rfl) (by simp only[dW,and_self,fv]),_,rfl,K3⟩
   simp only[ZG,seval,Bool.false_and,Prod.mk.injEq,Gf,iR,hj,j0,j1,g6,hT.Ai,h.sd.tree,gW,m1,m2,mT _ _ hn,g1,g2,kp,l0,e1,bf e2];exact⟨_,fL rfl (by simp only[E8,seval,fv]<;>rfl) (by simp only[Z8,seval,fv]<;>rfl) (by simp only[dW,and_self,fv]),_,rfl,K3⟩
  obtain⟨x1,x2⟩:=eG (n:=(p.length:Int)) (Ar hk (min 16 IntKind.i64.bits)) l0
  obtain⟨y,hy⟩:∃y,((((k).fdiv (2 ^ min 16 IntKind.i64.bits))).tmod (p.length:Int))=y:=⟨_,rfl⟩
  rw[hy] at x1 x2;have gp:=pD x1 x2
  obtain⟨z1,z2⟩:=prg (it p y) (by obtain⟨h1,h2⟩:=xA x1 x2;rw[h2];exact List.getElem_mem h1)
  by_cases e2:((((k).fdiv (2 ^ min 14 IntKind.i64.bits))).tmod 16)=0
  ·simp only[ZG,seval,Bool.false_and,Prod.mk.injEq,Gf,iR,hj,j0,j1,g6,hT.Ai,h.sd.tree,gW,m1,m2,mT _ _ hn,g1,g2,kp,l0,lne,e1,hy,x1,x2,gp,z1,z2,bt e2,Qj];exact⟨_,fL rfl (by simp only[E8,seval,fv]<;>rfl) (by simp only[Z8,seval,fv]<;>rfl) (by simp only[dW,and_self,fv]),_,rfl,K3⟩
  simp only[ZG,seval,Bool.false_and,Prod.mk.injEq,Gf,iR,hj,j0,j1,g6,hT.Ai,h.sd.tree,gW,m1,m2,mT _ _ hn,g1,g2,kp,l0,lne,e1,hy,x1,x2,gp,z1,z2,bf e2];exact⟨_,fL rfl (by simp only[E8,seval,fv]<;>rfl) (by simp only[Z8,seval,fv]<;>rfl) (by simp only[dW,and_self,fv]),_,rfl,K3⟩
 have qne:¬(((ol Q).length:Int)=0):=by omega
 obtain⟨c1,c2⟩:=eG (n:=((ol Q).length:Int)) (Ar hk (min 11 IntKind.i64.bits)) g1
 obtain⟨c,hc⟩:∃c,((((k).fdiv (2 ^ min 11 IntKind.i64.bits))).tmod ((ol Q).length:Int))=c:=⟨_,rfl⟩
 rw[hc] at c1 c2;have rTB:Rg (gx bN (ol Q) c).tagged.tag:=hq _ (tY c1 c2)
 by_cases p0:0≤aN v.ns ((gx bN (ol Q) c).block)
 case neg =>
  have kp:=fun st d=>l8 v.ns (aN v.ns ((gx bN (ol Q) c).block)) (fun hh=>p0 hh.1) st d
  by_cases e2:((((k).fdiv (2 ^ min 14 IntKind.i64.bits))).tmod 16)=0
  ·simp only[ZG,seval,Bool.false_and,Prod.mk.injEq,Gf,iR,hj,j0,j1,g6,hT.Ai,h.sd.tree,gW,m1,m2,mT _ _ hn,g1,g2,qne,hc,c1,c2,kp,bt e2,Qj];exact⟨_,fL rfl (by simp only[E8,seval,fv]<;>rfl) (by simp only[Z8,seval,fv]<;>rfl) (by simp only[dW,and_self,fv]),_,rfl,rTB⟩
  simp only[ZG,seval,Bool.false_and,Prod.mk.injEq,Gf,iR,hj,j0,j1,g6,hT.Ai,h.sd.tree,gW,m1,m2,mT _ _ hn,g1,g2,qne,hc,c1,c2,kp,bf e2];exact⟨_,fL rfl (by simp only[E8,seval,fv]<;>rfl) (by simp only[Z8,seval,fv]<;>rfl) (by simp only[dW,and_self,fv]),_,rfl,rTB⟩
 have pr:=fY v.ns ((gx bN (ol Q) c).block)
 have kp:=fun st d=>k76 v.ns h.up hn (aN v.ns ((gx bN (ol Q) c).block)) p0 pr.2 st d
 have pm:=yG h.up p0 pr.2
 have prg:∀x∈path v.ns (aN v.ns ((gx bN (ol Q) c).block)),0≤x∧x<v.ns.length:=fun x hx=>vB h.up hx
 have pl:=As h.up (aN v.ns ((gx bN (ol Q) c).block))
 obtain⟨p,ep⟩:∃p,path v.ns (aN v.ns ((gx bN (ol Q) c).block))=p:=⟨_,rfl⟩
 rw[ep] at kp pm prg pl;have l0:(0:Int)<(p.length:Int):=by have:=List.length_pos_of_mem pm;omega
 have lne:¬((p.length:Int)=0):=by omega
 by_cases e1:0<((((k).fdiv (2 ^ min 14 IntKind.i64.bits))).tmod 4)
 case neg =>
  by_cases e2:((((k).fdiv (2 ^ min 14 IntKind.i64.bits))).tmod 16)=0
  ·simp only[ZG,seval,Bool.false_and,Prod.mk.injEq,Gf,iR,hj,j0,j1,g6,hT.Ai,h.sd.tree,gW,m1,m2,mT _ _ hn,g1,g2,qne,hc,c1,c2,kp,l0,e1,bt e2,Qj];exact⟨_,fL rfl (by simp only[E8,seval,fv]<;>rfl) (by simp only[Z8,seval,fv]<;>rfl) (by simp only[dW,and_self,fv]),_,rfl,rTB⟩
  simp only[ZG,seval,Bool.false_and,Prod.mk.injEq,Gf,iR,hj,j0,j1,g6,hT.Ai,h.sd.tree,gW,m1,m2,mT _ _ hn,g1,g2,qne,hc,c1,c2,kp,l0,e1,bf e2];exact⟨_,fL rfl (by simp only[E8,seval,fv]<;>rfl) (by simp only[Z8,seval,fv]<;>rfl) (by simp only[dW,and_self,fv]),_,rfl,rTB⟩
 obtain⟨x1,x2⟩:=eG (n:=(p.length:Int)) (Ar hk (min 16 IntKind.i64.bits)) l0
 obtain⟨y,hy⟩:∃y,((((k).fdiv (2 ^ min 16 IntKind.i64.bits))).tmod (p.length:Int))=y:=⟨_,rfl⟩
 rw[hy] at x1 x2;have gp:=pD x1 x2
 obtain⟨z1,z2⟩:=prg (it p y) (by obtain⟨h1,h2⟩:=xA x1 x2;rw[h2];exact List.getElem_mem h1)
 by_cases e2:((((k).fdiv (2 ^ min 14 IntKind.i64.bits))).tmod 16)=0
 ·simp only[ZG,seval,Bool.false_and,Prod.mk.injEq,Gf,iR,hj,j0,j1,g6,hT.Ai,h.sd.tree,gW,m1,m2,mT _ _ hn,g1,g2,qne,hc,c1,c2,kp,l0,lne,e1,hy,x1,x2,gp,z1,z2,bt e2,Qj];exact⟨_,fL rfl (by simp only[E8,seval,fv]<;>rfl) (by simp only[Z8,seval,fv]<;>rfl) (by simp only[dW,and_self,fv]),_,rfl,rTB⟩
 simp only[ZG,seval,Bool.false_and,Prod.mk.injEq,Gf,iR,hj,j0,j1,g6,hT.Ai,h.sd.tree,gW,m1,m2,mT _ _ hn,g1,g2,qne,hc,c1,c2,kp,l0,lne,e1,hy,x1,x2,gp,z1,z2,bf e2];exact⟨_,fL rfl (by simp only[E8,seval,fv]<;>rfl) (by simp only[Z8,seval,fv]<;>rfl) (by simp only[dW,and_self,fv]),_,rfl,rTB⟩
end Go.Ab.Tryz
section
namespace Go.Ab
open Classical
theorem pL [Ext] {P:Program} {bi:Bool} {a b:Code} {st:St} {β:Type} {K:Ex × St→Option β} {R:β→Prop} (Q:St→Prop) (h:∃st',wM P bi a st=some (.normal,st')∧Q st')
 (rest:∀st',Q st'→∃r,cN (wM P bi b st') K=some r∧R r):∃r,cN (wM P bi (.seq a b) st) K=some r∧R r:=by
 obtain⟨s1,h1,h2⟩:=h
 rw[GN,h1];exact rest s1 h2
end Go.Ab
namespace Go.Ab.Tryz
open Classical Go.Proofs Go.Ab
structure BQ (n:Int) (v:SV) (b:Block):Prop extends RB b where
 rt:b.root=mkRoot n∨∃m∈v.ns,b.root=m.block.root
theorem x50 {s:aO} {v:SV} {q:Int} (h:GI s v q) (r:RG s v) (n k:Int) (hk:0≤k):∃x,aC Tryz.prog 50 [.agg (aB s),.v (.int .i64 n),.v (.int .i64 k)]=some x∧∃b:Block,x=.agg (aU b)∧BQ n v b:=by
 have hn:=h.sd.nn
 have hp:(0:Int)<(v.ns.length:Int):=by have:=h.pos;omega
 have gW:¬((v.ns.length:Int)=0):=by omega
 have Mq:=h.sp
 have rn:Rg s.now:=⟨r.now.1,by have:=r.now.2;omega⟩
 have rnd:∀p:Int,0≤p→p<v.ns.length→RB (nd v.ns p).block:=fun p h0 h1=>(r.nd _ (GC h0 h1)).1
 obtain⟨m1,m2⟩:=eG (n:=(v.ns.length:Int)) hk hp
 obtain⟨m3,m4⟩:=eG (n:=(v.ns.length:Int)) (Ar hk (min 3 IntKind.i64.bits)) hp
 rw[cG Tryz.func50 rfl aQl (by kernel_rfl) rfl]
 refine pL (fun st=>st.aP 8=0∧st.aP 9=0∧st.aP 11=0∧st.env 1=.v (.int .i64 n)∧st.env 2=.v (.int .i64 k)∧st.env 3=.ptr 3 0 0∧st.heap 3 0=some (.cells (aB s))∧st.env 6=.ptr 6 0 0∧st.heap 6 0=some (.cells (aU fC))) ?h0 ?r0
 case h0 =>
  refine⟨?s1, ?h1, ?q1⟩
  case h1 =>
   simp only[ZG,seval,Bool.false_and,Prod.mk.injEq,sG];rfl
  case q1=>exact⟨by simp only[E8,seval]<;>rfl,by simp only[E8,seval]<;>rfl,by simp only[E8,seval]<;>rfl,by simp only[E8,seval]<;>rfl,by simp only[E8,seval]<;>rfl,by simp only[E8,seval]<;>rfl,by simp only[E8,seval]<;>rfl,by simp only[E8,seval]<;>rfl,by simp only[E8,seval]<;>rfl⟩
 case r0 =>
 intro st hI;refine pL (fun st=>∃p:Int,(st.aP 8=0∧st.aP 9=0∧st.aP 11=0∧st.env 1=.v (.int .i64 n)∧st.env 2=.v (.int .i64 k)∧st.env 3=.ptr 3 0 0∧st.heap 3 0=some (.cells (aB s))∧st.env 6=.ptr 6 0 0∧st.heap 6 0=some (.cells (aU fC))∧st.env 7=.v (.int .i64 p))∧0≤p∧p<v.ns.length) ?h1 ?r1
 case h1 =>
  refine⟨?s2, ?h2, ?q2⟩
  case h2 =>
   simp only[ZG,seval,Bool.false_and,Prod.mk.injEq,sG,hI,h.sd.tree,gW];rfl
  case q2=>exact⟨_,by and_intros<;>(simp only[E8,seval,hI]<;>rfl),m1,m2⟩
 case r1 =>
 rintro st ⟨p,hI,p0,p1⟩
 refine pL (fun st=>∃p:Int,(st.aP 8=0∧st.aP 9=0∧st.aP 11=0∧st.env 1=.v (.int .i64 n)∧st.env 2=.v (.int .i64 k)∧st.env 3=.ptr 3 0 0∧st.heap 3 0=some (.cells (aB s))∧st.env 6=.ptr 6 0 0∧st.heap 6 0=some (.cells (aU fC))∧st.env 7=.v (.int .i64 p))∧0≤p∧p<v.ns.length) ?h2 ?r2
 case h2 =>
  by_cases g:0<((((k).fdiv (2 ^ min 6 IntKind.i64.bits))).tmod 3)
  ·obtain⟨M,hM⟩:∃M,(if (v.ns.length:Int)<3 then (v.ns.length:Int) else 3)=M:=⟨_,rfl⟩
   have hM1:1≤M∧M≤v.ns.length:=by rw[← hM];split<;>omega
   have hM0:¬M=0:=by omega
   obtain⟨x0,x1⟩:=eG (n:=M) p0 (by omega)
   have w1:IntKind.i64.wrap ((v.ns.length:Int)-1)=(v.ns.length:Int)-1:=pR _ (by omega) (by omega)
   have w2:IntKind.i64.wrap ((v.ns.length:Int)-1-p.tmod M)=(v.ns.length:Int)-1-p.tmod M:=pR _ (by omega) (by omega)
   refine⟨?s3, ?h3, ?q3⟩
   case h3 =>
    simp only[ZG,seval,Bool.false_and,Prod.mk.injEq,sG,hI,h.sd.tree,g,hM,hM0,w1,w2];rfl
   case q3=>exact⟨(v.ns.length:Int)-1-p.tmod M,by and_intros<;>(simp only[E8,seval,hI]<;>rfl),by omega,by omega⟩
  ·skip
   refine⟨?s4, ?h4, ?q4⟩
   case h4 =>
    simp only[ZG,seval,Bool.false_and,Prod.mk.injEq,sG,hI,g];rfl
   case q4=>exact⟨p,by and_intros<;>(simp only[E8,seval,hI]<;>rfl),p0,p1⟩
 case r2 =>
 clear hI p0 p1
 clear p
 rintro st ⟨p,hI,p0,p1⟩
 have rN:=rnd p p0 p1
 refine pL (fun st=>st.aP 9=0∧st.aP 11=0∧st.env 1=.v (.int .i64 n)∧st.env 2=.v (.int .i64 k)∧st.env 3=.ptr 3 0 0∧st.heap 3 0=some (.cells (aB s))∧st.env 6=.ptr 6 0 0∧st.heap 6 0=some (.cells (aU fC))∧st.env 7=.v (.int .i64 p)∧st.env 8=.ptr 8 0 0∧st.heap 8 0=some (.cells (fG (nd v.ns p)))) ?h4 ?r4
 case h4 =>
  refine⟨?s5, ?h5, ?q5⟩
  case h5 =>
   simp only[ZG,seval,Bool.false_and,Prod.mk.injEq,sG,hI,h.sd.tree,p0,p1];rfl
  case q5=>exact⟨by simp only[E8,seval,hI]<;>rfl,by simp only[E8,seval,hI]<;>rfl,by simp only[E8,seval,hI]<;>rfl,by simp only[E8,seval,hI]<;>rfl,by simp only[E8,seval,hI]<;>rfl,by simp only[E8,seval,hI]<;>rfl,by simp only[E8,seval,hI]<;>rfl,by simp only[E8,seval,hI]<;>rfl,by simp only[E8,seval,hI]<;>rfl,by simp only[E8,seval,hI]<;>rfl,by simp only[E8,seval,hI]<;>rfl⟩
 case r4 =>
 clear hI
 intro st hI;refine pL (fun st=>∃b:Block,(st.aP 11=0∧st.env 1=.v (.int .i64 n)∧st.env 2=.v (.int .i64 k)∧st.env 3=.ptr 3 0 0∧st.heap 3 0=some (.cells (aB s))∧st.env 6=.ptr 6 0 0∧st.heap 6 0=some (.cells (aU fC))∧st.env 7=.v (.int .i64 p)∧st.env 8=.ptr 8 0 0∧st.heap 8 0=some (.cells (fG (nd v.ns p)))∧st.env 9=.ptr 9 0 0∧st.heap 9 0=some (.cells (aU b)))∧BQ n v b) ?h5 ?r5
 case h5 =>
  refine⟨?s6, ?h6, ?q6⟩
  case h6 =>
   simp only[ZG,seval,Bool.false_and,Prod.mk.injEq,sG,hI,Qj];rfl
  case q6=>exact⟨_,by and_intros<;>(simp only[E8,seval,hI]<;>rfl),by exact⟨⟨rn,rN.j,rN.f,rN.pj,rN.pf⟩,.inl rfl⟩⟩
 case r5 =>
 clear hI
 rintro st ⟨b,hI,rb⟩
 refine pL (fun st=>∃b:Block,(st.aP 11=0∧st.env 1=.v (.int .i64 n)∧st.env 2=.v (.int .i64 k)∧st.env 3=.ptr 3 0 0∧st.heap 3 0=some (.cells (aB s))∧st.env 6=.ptr 6 0 0∧st.heap 6 0=some (.cells (aU fC))∧st.env 7=.v (.int .i64 p)∧st.env 8=.ptr 8 0 0∧st.heap 8 0=some (.cells (fG (nd v.ns p)))∧st.env 9=.ptr 9 0 0∧st.heap 9 0=some (.cells (aU b)))∧BQ n v b) ?h6 ?r6
 case h6 =>
  by_cases g:((((k).fdiv (2 ^ min 10 IntKind.i64.bits))).tmod 5)=0
  case neg =>
   refine⟨?s7, ?h7, ?q7⟩
   case h7 =>
    simp only[ZG,seval,Bool.false_and,Prod.mk.injEq,sG,hI,bf g];rfl
   case q7=>exact⟨b,by and_intros<;>(simp only[E8,seval,hI]<;>rfl),rb⟩
  by_cases g2:0<s.now
  case neg =>
   refine⟨?s8, ?h8, ?q8⟩
   case h8 =>
    simp only[ZG,seval,Bool.false_and,Prod.mk.injEq,sG,hI,bt g,g2];rfl
   case q8=>exact⟨b,by and_intros<;>(simp only[E8,seval,hI]<;>rfl),rb⟩
  refine⟨?s9, ?h9, ?q9⟩
  case h9 =>
   simp only[ZG,seval,Bool.false_and,Prod.mk.injEq,sG,hI,bt g,g2];rfl
  case q9=>exact⟨_,by and_intros<;>(simp only[E8,seval,hI]<;>rfl),by exact⟨⟨jW _,rb.j,rb.f,rb.pj,rb.pf⟩,rb.rt⟩⟩
 case r6 =>
 clear hI rb
 clear b
 rintro st ⟨b,hI,rb⟩
 refine pL (fun st=>∃b:Block,(st.aP 11=0∧st.env 1=.v (.int .i64 n)∧st.env 2=.v (.int .i64 k)∧st.env 3=.ptr 3 0 0∧st.heap 3 0=some (.cells (aB s))∧st.env 6=.ptr 6 0 0∧st.heap 6 0=some (.cells (aU fC))∧st.env 7=.v (.int .i64 p)∧st.env 8=.ptr 8 0 0∧st.heap 8 0=some (.cells (fG (nd v.ns p)))∧st.env 9=.ptr 9 0 0∧st.heap 9 0=some (.cells (aU b)))∧BQ n v b) ?h8 ?r8
 case h8 =>
  by_cases g:((((k).fdiv (2 ^ min 12 IntKind.i64.bits))).tmod 16)=0
  case neg =>
   refine⟨?s10, ?h10, ?q10⟩
   case h10 =>
    simp only[ZG,seval,Bool.false_and,Prod.mk.injEq,sG,hI,bf g];rfl
   case q10=>exact⟨b,by and_intros<;>(simp only[E8,seval,hI]<;>rfl),rb⟩
  refine⟨?s11, ?h11, ?q11⟩
  case h11 =>
   simp only[ZG,seval,Bool.false_and,Prod.mk.injEq,sG,hI,bt g,Qj];rfl
  case q11=>exact⟨_,by and_intros<;>(simp only[E8,seval,hI]<;>rfl),by exact⟨⟨rb.sl,rb.j,rb.f,rb.pj,rb.pf⟩,rb.rt⟩⟩
 case r8 =>
 clear hI rb
 clear b
 rintro st ⟨b,hI,rb⟩
 refine pL (fun st=>∃e:Int,(st.aP 11=0∧st.env 1=.v (.int .i64 n)∧st.env 2=.v (.int .i64 k)∧st.env 3=.ptr 3 0 0∧st.heap 3 0=some (.cells (aB s))∧st.env 6=.ptr 6 0 0∧st.heap 6 0=some (.cells (aU fC))∧st.env 7=.v (.int .i64 p)∧st.env 8=.ptr 8 0 0∧st.heap 8 0=some (.cells (fG (nd v.ns p)))∧st.env 9=.ptr 9 0 0∧st.heap 9 0=some (.cells (aU b))∧st.env 10=.v (.int .u64 e))∧Rg e) ?h10 ?r10
 case h10 =>
  refine⟨?s12, ?h12, ?q12⟩
  case h12 =>
   simp only[ZG,seval,Bool.false_and,Prod.mk.injEq,sG,hI,Mq];rfl
  case q12=>exact⟨_,by and_intros<;>(simp only[E8,seval,hI]<;>rfl),jW _⟩
 case r10 =>
 clear hI
 rintro st ⟨e,hI,re⟩
 obtain⟨y,hy,c,rfl,rc⟩:=x92 h r p e re
 have Qv:=kx hy (nD h.sd.flat (.v _) (.v _)) (.agg _ (dC _))
 refine pL (fun st=>∃b:Block,(st.env 1=.v (.int .i64 n)∧st.env 2=.v (.int .i64 k)∧st.env 3=.ptr 3 0 0∧st.heap 3 0=some (.cells (aB s))∧st.env 6=.ptr 6 0 0∧st.heap 6 0=some (.cells (aU fC))∧st.env 7=.v (.int .i64 p)∧st.env 8=.ptr 8 0 0∧st.heap 8 0=some (.cells (fG (nd v.ns p)))∧st.env 9=.ptr 9 0 0∧st.heap 9 0=some (.cells (aU b))∧st.env 10=.v (.int .u64 e))∧BQ n v b) ?h11 ?r11
 case h11 =>
  by_cases g:b.dS.pj.aK<c.aK
  case neg =>
   refine⟨?s13, ?h13, ?q13⟩
   case h13 =>
    simp only[ZG,seval,Bool.false_and,Prod.mk.injEq,sG,hI,Qv,g];rfl
   case q13=>exact⟨b,by and_intros<;>(simp only[E8,seval,hI]<;>rfl),rb⟩
  by_cases g2:((((k).fdiv (2 ^ min 13 IntKind.i64.bits))).tmod 2)=0
  case neg =>
   refine⟨?s14, ?h14, ?q14⟩
   case h14 =>
    simp only[ZG,seval,Bool.false_and,Prod.mk.injEq,sG,hI,Qv,g,bf g2];rfl
   case q14=>exact⟨b,by and_intros<;>(simp only[E8,seval,hI]<;>rfl),rb⟩
  by_cases g3:((((k).fdiv (2 ^ min 14 IntKind.i64.bits))).tmod 2)=0
  case neg =>
   refine⟨?s15, ?h15, ?q15⟩
   case h15 =>
    simp only[ZG,seval,Bool.false_and,Prod.mk.injEq,sG,hI,Qv,g,bt g2,bf g3];rfl
   case q15=>exact⟨_,by and_intros<;>(simp only[E8,seval,hI]<;>rfl),by exact⟨⟨rb.sl,rb.j,rb.f,rc,rb.pf⟩,rb.rt⟩⟩
  refine⟨?s16, ?h16, ?q16⟩
  case h16 =>
   simp only[ZG,seval,Bool.false_and,Prod.mk.injEq,sG,hI,Qv,g,bt g2,bt g3];rfl
  case q16=>exact⟨_,by and_intros<;>(simp only[E8,seval,hI]<;>rfl),by exact⟨⟨rb.sl,rb.j,rb.f,rc,rb.pj⟩,rb.rt⟩⟩
 case r11 =>
 clear hI rb
 clear b
 rintro st ⟨b,hI,rb⟩
 refine pL (fun st=>∃b:Block,(st.env 1=.v (.int .i64 n)∧st.env 2=.v (.int .i64 k)∧st.env 3=.ptr 3 0 0∧st.heap 3 0=some (.cells (aB s))∧st.env 6=.ptr 6 0 0∧st.heap 6 0=some (.cells (aU fC))∧st.env 7=.v (.int .i64 p)∧st.env 8=.ptr 8 0 0∧st.heap 8 0=some (.cells (fG (nd v.ns p)))∧st.env 9=.ptr 9 0 0∧st.heap 9 0=some (.cells (aU b))∧st.env 10=.v (.int .u64 e))∧BQ n v b) ?h16 ?r16
 case h16 =>
  by_cases g:((((k).fdiv (2 ^ min 15 IntKind.i64.bits))).tmod 3)=0
  case neg =>
   refine⟨?s17, ?h17, ?q17⟩
   case h17 =>
    simp only[ZG,seval,Bool.false_and,Prod.mk.injEq,sG,hI,bf g];rfl
   case q17=>exact⟨b,by and_intros<;>(simp only[E8,seval,hI]<;>rfl),rb⟩
  by_cases g2:IntKind.u64.wrap ((nd v.ns p).block.slot.tdiv s.cFg.qS)<e
  case neg =>
   refine⟨?s18, ?h18, ?q18⟩
   case h18 =>
    simp only[ZG,seval,Bool.false_and,Prod.mk.injEq,sG,hI,bt g,Mq,g2];rfl
   case q18=>exact⟨b,by and_intros<;>(simp only[E8,seval,hI]<;>rfl),rb⟩
  refine⟨?s19, ?h19, ?q19⟩
  case h19 =>
   simp only[ZG,seval,Bool.false_and,Prod.mk.injEq,sG,hI,bt g,Mq,g2];rfl
  case q19=>exact⟨_,by and_intros<;>(simp only[E8,seval,hI]<;>rfl),by exact⟨⟨rb.sl,rN.pj,rN.pf,rb.pj,rb.pf⟩,rb.rt⟩⟩
 case r16 =>
 clear hI rb
 clear b
 rintro st ⟨b,hI,rb⟩
 refine pL (fun st=>∃b:Block,(st.env 1=.v (.int .i64 n)∧st.env 2=.v (.int .i64 k)∧st.env 3=.ptr 3 0 0∧st.heap 3 0=some (.cells (aB s))∧st.env 6=.ptr 6 0 0∧st.heap 6 0=some (.cells (aU fC))∧st.env 7=.v (.int .i64 p)∧st.env 8=.ptr 8 0 0∧st.heap 8 0=some (.cells (fG (nd v.ns p)))∧st.env 9=.ptr 9 0 0∧st.heap 9 0=some (.cells (aU b))∧st.env 10=.v (.int .u64 e))∧BQ n v b) ?h18 ?r18
 case h18 =>
  by_cases g:(nd v.ns p).block.iQ=dL
  case neg =>
   refine⟨?s20, ?h20, ?q20⟩
   case h20 =>
    simp only[ZG,seval,Bool.false_and,Prod.mk.injEq,sG,hI,g,Qj,qU,Nat.reduceLT];rfl
   case q20=>exact⟨_,by and_intros<;>(simp only[E8,seval,hI]<;>rfl),by exact⟨⟨rb.sl,rb.j,rb.f,rb.pj,rb.pf⟩,rb.rt⟩⟩
  by_cases g2:((((k).fdiv (2 ^ min 16 IntKind.i64.bits))).tmod 3)=0
  case neg =>
   refine⟨?s21, ?h21, ?q21⟩
   case h21 =>
    simp only[ZG,seval,Bool.false_and,Prod.mk.injEq,sG,hI,g,bf g2];rfl
   case q21=>exact⟨b,by and_intros<;>(simp only[E8,seval,hI]<;>rfl),rb⟩
  refine⟨?s22, ?h22, ?q22⟩
  case h22 =>
   simp only[ZG,seval,Bool.false_and,Prod.mk.injEq,sG,hI,g,bt g2,Qj,qU,Nat.reduceLT];rfl
  case q22=>exact⟨_,by and_intros<;>(simp only[E8,seval,hI]<;>rfl),by exact⟨⟨rb.sl,rb.j,rb.f,rb.pj,rb.pf⟩,rb.rt⟩⟩
 case r18 =>
 clear hI rb
 clear b
 rintro st ⟨b,hI,rb⟩
 obtain⟨w0,hw0,W,rfl⟩:=aP4 ((k).fdiv (2 ^ min 3 IntKind.i64.bits))
 have k111:=kx hw0 (cV (.v _)) (.agg _ (iO W))
 refine pL (fun st=>∃b:Block,(st.env 1=.v (.int .i64 n)∧st.env 2=.v (.int .i64 k)∧st.env 3=.ptr 3 0 0∧st.heap 3 0=some (.cells (aB s))∧st.env 6=.ptr 6 0 0∧st.heap 6 0=some (.cells (aU fC))∧st.env 7=.v (.int .i64 p)∧st.env 8=.ptr 8 0 0∧st.heap 8 0=some (.cells (fG (nd v.ns p)))∧st.env 9=.ptr 9 0 0∧st.heap 9 0=some (.cells (aU b))∧st.env 10=.v (.int .u64 e))∧BQ n v b) ?h21 ?r21
 case h21 =>
  by_cases c0:((((k).fdiv (2 ^ min 18 IntKind.i64.bits))).tmod 24)=0
  ·skip
   refine⟨?s23, ?h23, ?q23⟩
   case h23 =>
    simp only[ZG,seval,Bool.false_and,Prod.mk.injEq,sG,hI,bt c0,Qj];rfl
   case q23=>exact⟨_,by and_intros<;>(simp only[E8,seval,hI]<;>rfl),by exact⟨⟨rb.sl,rb.j,rb.f,rb.pj,rb.pf⟩,rb.rt⟩⟩
  by_cases c1:((((k).fdiv (2 ^ min 18 IntKind.i64.bits))).tmod 24)=1
  ·skip
   refine⟨?s24, ?h24, ?q24⟩
   case h24 =>
    simp only[ZG,seval,Bool.false_and,Prod.mk.injEq,sG,hI,bf c0,bt c1,k111];rfl
   case q24=>exact⟨_,by and_intros<;>(simp only[E8,seval,hI]<;>rfl),by exact⟨⟨rb.sl,rb.j,rb.f,rb.pj,rb.pf⟩,rb.rt⟩⟩
  by_cases c2:((((k).fdiv (2 ^ min 18 IntKind.i64.bits))).tmod 24)=2
  ·skip
   refine⟨?s25, ?h25, ?q25⟩
   case h25 =>
    simp only[ZG,seval,Bool.false_and,Prod.mk.injEq,sG,hI,bf c0,bf c1,bt c2,k111];rfl
   case q25=>exact⟨_,by and_intros<;>(simp only[E8,seval,hI]<;>rfl),by exact⟨⟨rb.sl,rb.j,rb.f,rb.pj,rb.pf⟩,rb.rt⟩⟩
  by_cases c3:((((k).fdiv (2 ^ min 18 IntKind.i64.bits))).tmod 24)=3
  ·skip
   refine⟨?s26, ?h26, ?q26⟩
   case h26 =>
    simp only[ZG,seval,Bool.false_and,Prod.mk.injEq,sG,hI,bf c0,bf c1,bf c2,bt c3];rfl
   case q26=>exact⟨_,by and_intros<;>(simp only[E8,seval,hI]<;>rfl),by exact⟨⟨rb.sl,rb.j,rb.f,jW _,rb.pf⟩,rb.rt⟩⟩
  by_cases c4:((((k).fdiv (2 ^ min 18 IntKind.i64.bits))).tmod 24)=4
  ·skip
   refine⟨?s27, ?h27, ?q27⟩
   case h27 =>
    simp only[ZG,seval,Bool.false_and,Prod.mk.injEq,sG,hI,bf c0,bf c1,bf c2,bf c3,bt c4];rfl
   case q27=>exact⟨_,by and_intros<;>(simp only[E8,seval,hI]<;>rfl),by exact⟨⟨jW _,rb.j,rb.f,rb.pj,rb.pf⟩,rb.rt⟩⟩
  by_cases c5:((((k).fdiv (2 ^ min 18 IntKind.i64.bits))).tmod 24)=5
  ·skip
   refine⟨?s28, ?h28, ?q28⟩
   case h28 =>
    simp only[ZG,seval,Bool.false_and,Prod.mk.injEq,sG,hI,bf c0,bf c1,bf c2,bf c3,bf c4,bt c5,h.sd.tree,gW,m3,m4];rfl
   case q28=>exact⟨_,by and_intros<;>(simp only[E8,seval,hI]<;>rfl),by exact⟨⟨rb.sl,rb.j,rb.f,rb.pj,rb.pf⟩,.inr ⟨_,GC m3 m4,rfl⟩⟩⟩
  by_cases c6:((((k).fdiv (2 ^ min 18 IntKind.i64.bits))).tmod 24)=6
  ·skip
   refine⟨?s29, ?h29, ?q29⟩
   case h29 =>
    simp only[ZG,seval,Bool.false_and,Prod.mk.injEq,sG,hI,bf c0,bf c1,bf c2,bf c3,bf c4,bf c5,bt c6,Qj];rfl
   case q29=>exact⟨_,by and_intros<;>(simp only[E8,seval,hI]<;>rfl),by exact⟨⟨rb.sl,rb.j,rb.f,rb.pj,rb.pf⟩,rb.rt⟩⟩
  by_cases c7:((((k).fdiv (2 ^ min 18 IntKind.i64.bits))).tmod 24)=7
  ·skip
   refine⟨?s30, ?h30, ?q30⟩
   case h30 =>
    simp only[ZG,seval,Bool.false_and,Prod.mk.injEq,sG,hI,bf c0,bf c1,bf c2,bf c3,bf c4,bf c5,bf c6,bt c7];rfl
   case q30=>exact⟨_,by and_intros<;>(simp only[E8,seval,hI]<;>rfl),by exact⟨⟨rb.sl,rb.j,rb.f,rb.pj,rb.pf⟩,rb.rt⟩⟩
  refine⟨?s31, ?h31, ?q31⟩
  case h31 =>
   simp only[ZG,seval,Bool.false_and,Prod.mk.injEq,sG,hI,bf c0,bf c1,bf c2,bf c3,bf c4,bf c5,bf c6,bf c7];rfl
  case q31=>exact⟨b,by and_intros<;>(simp only[E8,seval,hI]<;>rfl),rb⟩
 case r21 =>
 clear hI rb
 clear b
 rintro st ⟨b,hI,rb⟩
 simp only[ZG,seval,Bool.false_and,Prod.mk.injEq,sG,hI];exact⟨_,fL rfl (by simp only[E8,seval,hI]<;>rfl) (by simp only[Z8,seval,hI]<;>rfl) (by simp only[dW,and_self,hI]),b,rfl,rb⟩
end Go.Ab.Tryz
end
namespace Go.Ab.Tryz
open Classical Go.Proofs Go.Ab
def Gb (st st':St):Prop:=(∀s g,g<st.aP s→st'.heap s g=st.heap s g)∧∀s,st.aP s≤st'.aP s
theorem aQp:aE 0 3 (some 2)=[]∧aE 1 17 (some 6)=[]∧aE 2 2 (some 21)=[]:=⟨rfl,rfl,rfl⟩
theorem aEQ {s:aO} {v:SV} (hs:SD s v) (X:AV) (a:rX) (V:Option (List Int)) (ha:a.eY=ov aJ V) (hV:((ol V).length:Int)<1000000) (hr:∀x∈ol V,0≤x∧x<(ol v.L).length) :
 ∃G:St→St,∀st,sH Tryz.prog 44 [.agg (aB (wL s X)),.agg (iB a)] st=some (.agg (aB (wL (Qr s v a (ol V)) X)),G st)∧Gb st (G st):=by
 have one:∀st,∃st',sH Tryz.prog 44 [.agg (aB (wL s X)),.agg (iB a)] st=some (.agg (aB (wL (Qr s v a (ol V)) X)),st')∧Gb st st':=by
  intro st;have hl:(wL s X).gG.dQ=ov cU v.L:=hs.dQ
  rw[Jb Tryz.prog Tryz.func44 rfl (by kernel_rfl)]
  simp only[ZG,seval,Bool.false_and,Prod.mk.injEq,aQp,hl,ha,aKq v.L hs.nL _ _ V hV hr,eB];refine⟨_,Cx (P:=Tryz.prog) (fn:=Tryz.f44) (r:=.cell 4 53) (x:=.agg (aB (wL (Qr s v a (ol V)) X))) (.inl rfl) rfl ?h1, ?h2⟩
  case h1 =>
   rw[tU];simp only[bV,Z8,seval];unfold wL Qr;simp only[ov,Qq]
  case h2 =>
   refine⟨fun x g hg=>?_,fun x=>?_⟩
   ·have n2:(x=2∧g=st.aP 2)=False:=eq_false (by rintro⟨rfl,rfl⟩;omega)
    have n3:(x=3∧g=st.aP 3)=False:=eq_false (by rintro⟨rfl,rfl⟩;omega)
    have n4:(x=4∧g=st.aP 4)=False:=eq_false (by rintro⟨rfl,rfl⟩;omega)
    simp only[E8,seval,bE,bB,n2,n3,n4,if_false]
   ·simp only[E8,seval,bE,bB];split<;>(try split)<;>(try split)<;>subst_vars<;>omega
 exact⟨fun st=>Classical.choose (one st),fun st=>Classical.choose_spec (one st)⟩
theorem EC {cs:List AV} (h:∀c∈cs,Flat c):cs.flatMap gJ=[]:=List.flatMap_eq_nil_iff.2 fun c hc=>by have:=h c hc;cases this<;>rfl
theorem aER {c:AV} (h:Flat c):gJ c=[]:=by cases h<;>rfl
theorem Q4 {s:aO} {v:SV} (h:SD s v) (a g:Nat):jE (.agg (aB (mW s (.own a g))))=[(a,g)]:=by
 obtain⟨h1,h2,h3,h4,h5,h6,h7⟩:=h.fl
 show (aB (mW s (.own a g))).flatMap gJ=[(a,g)]
 unfold mW aB jO;simp only[List.flatMap_append,List.flatMap_cons,List.flatMap_nil,List.append_nil];rw[EC (tV _ h1),EC (qL _ h2 h3),EC (lG _),EC (wH _ h6),EC (eD _),EC (dJ _)];have e4:gJ s.dV.early=[]:=aER h4
 have e7:gJ s.tables=[]:=aER h7
 simp only[e4,e7,List.nil_append,List.append_nil];rfl
theorem aB8 {s:aO} {v:SV} (h:SD s v) (a g:Nat):XO (.agg (aB (mW s (.own a g)))):=by
 obtain⟨h1,h2,h3,h4,h5,h6,h7⟩:=h.fl
 refine .inr (.inr ⟨_,rfl,fun c hc=>?_⟩)
 unfold mW aB jO at hc;simp only[List.mem_append,List.mem_singleton] at hc;rcases hc with hc|hc|hc|(hc|hc)|hc|hc|hc|hc
 ·exact .inl (tV _ h1 _ hc)
 ·exact .inl (qL _ h2 h3 _ hc)
 ·exact .inl (lG _ _ hc)
 ·exact .inl (hc ▸ h4)
 ·exact .inr ⟨a,g,hc⟩
 ·exact .inl (wH _ h6 _ hc)
 ·exact .inl (eD _ _ hc)
 ·exact .inl (dJ _ _ hc)
 ·exact .inl (hc ▸ h7)
theorem aLD {s:aO} {v:SV} {q:Int} (h:GI s v q) {b:Block} (hb:Kb s v b=0) (st:St) (d:Option Nat):fF (aC Tryz.prog) 217 [.agg (aB s),.agg (aU b)] st d=some { dst:=d,val:=.agg (aB (sS s v b))}:=Hh (bH h.sd.flat (uT b)) (aKr h hb) (h.ins hb).sd.flat
theorem aES {s:aO} {v:SV} {q:Int} (h0:SD s v) {O:List Block} (h:GI (mW s (ov aH (some O))) { v with O:=some O } q) {b:Block} (hb:Kb (mW s (ov aH (some O))) { v with O:=some O } b=0) (a g:Nat) (st:St) (d:Option Nat) (hh:st.heap a g=some (.row 74 238 O.length (aH O))) :
 fF (aC Tryz.prog) 217 [.agg (aB (mW s (.own a g))),.agg (aU b)] st d=some { dst:=d,val:=.agg (aB (sS (mW s (ov aH (some O))) { v with O:=some O } b)),dK:=some (a,g,none)}:=by
 rw[Ix (s:=a) (k:=g) (by rw[List.flatMap_cons,List.flatMap_cons,List.flatMap_nil,Q4 h0,vK (uT b)];rfl) (by intro x hx;simp only[List.mem_cons,List.not_mem_nil,or_false] at hx;rcases hx with rfl|rfl;exact aB8 h0 a g;exact .inl (uT b)),
  List.map_cons,List.map_cons,List.map_nil,zG h0 st hh,Lj,bP,bP,gL]
 exact EA (aKr h hb) (h.ins hb).sd.flat
theorem aQq {s:aO} {v:SV} {q:Int} (h0:SD s v) {O:List Block} (h:GI (mW s (ov aH (some O))) { v with O:=some O } q) (b:Block) (a g:Nat) (st:St) (d:Option Nat) (hh:st.heap a g=some (.row 74 238 O.length (aH O))) :
 aL (aC Tryz.prog) 52 [.agg (aB (mW s (.own a g))),.agg (aU b)] st d=some { dst:=d,val:=.v (.int .i64 (Kb (mW s (ov aH (some O))) { v with O:=some O } b))}:=by
 rw[lF,List.map_cons,List.map_cons,List.map_nil,zG h0 st hh,Lj,bP,bP,gL];exact Ss (c52 h.sd h.up h.sp b)
theorem aLE {s:aO} {v:SV} {q:Int} (h0:SD s v) {O:List Block} (h:GI (mW s (ov aH (some O))) { v with O:=some O } q) (a g:Nat) (st:St) (d:Option Nat) (hh:st.heap a g=some (.row 74 238 O.length (aH O))) :
 aL (aC Tryz.prog) 218 [.agg (aB (mW s (.own a g)))] st d=some { dst:=d,val:=.v (.int .i64 (BA { v with O:=some O }))}:=by
 rw[lF,List.map_cons,List.map_nil,zG h0 st hh,bP,gL];exact Ss (aKn h.sd)
theorem sU {s:aO} {v:SV} (h:SD s v):mW s (ov aH v.O)=s:=by unfold mW;rw[← h.bX]
def kX:Code→Code
 | .loop b=>.loop b
 | .seq a b=>match kX a with
   | .skip=>kX b
   | c=>c
 | .cond _ a b=>match kX a with
   | .skip=>kX b
   | c=>c
 | .block _ b=>kX b
 | _=>.skip
noncomputable def Bd:Code:=kX (Tryz.f203.body.getD .skip)
def aQr (s:aO) (v:SV) (q:Int) (m:Nat) (st:St):Prop:=∃(S0:aO) (w:SV) (X:AV) (R:List cK) (a g:Nat),((st).env 2=.ptr 2 0 0∧(st).heap 2 0=some (.cells (aB (mW S0 X)))∧(st).env 4=.ptr 4 0 0∧(st).heap 4 0=some (.cells (aB gQ))∧(st).env 9=.own a g∧(st).heap a g=some (.row 27 32 R.length (gM R))∧(st).env 10=.v (.int .i64 (BA w)))∧((a=66∧g=0)∨(a=105∧g<st.aP 105))∧(X=ov aH w.O∨∃g' L,w.O=some L∧X=.own 91 g'∧g'<st.aP 91∧st.heap 91 g'=some (.row 74 238 L.length (aH L)))∧GI S0 w q∧RG S0 w∧S0.cFg=s.cFg∧R.length+(ol w.O).length≤1+(ol v.O).length∧m=(ol w.O).length
def A8 (s:aO) (v:SV) (q:Int) (e:Ex) (st:St):Prop:=e=.exit 0∧∃(S0:aO) (w:SV) (X:AV) (R:List cK) (a g:Nat),(st.env 2=.ptr 2 0 0∧st.heap 2 0=some (.cells (aB (mW S0 X)))∧st.env 4=.ptr 4 0 0∧st.heap 4 0=some (.cells (aB gQ))∧st.env 9=.own a g∧st.heap a g=some (.row 27 32 R.length (gM R)))∧a≠4∧(X=ov aH w.O∨∃g' L,w.O=some L∧X=.own 91 g'∧st.heap 91 g'=some (.row 74 238 L.length (aH L)))∧GI S0 w q∧RG S0 w∧S0.cFg=s.cFg∧R.length≤1+(ol v.O).length
theorem GO {s:aO} {v:SV} {q:Int} (nb:((ol v.O).length:Int)≤64) {m:Nat} {st:St} (hs:aQr s v q m st):∃e st',yX Tryz.prog Bd st=some (e,st')∧A8 s v q e st':=by
 have key:∃r,cN (yX Tryz.prog Bd st) some=some r∧A8 s v q r.1 r.2:=by
  unfold Bd;simp only[Tryz.f203,Option.getD_some,kX];refine cM (fun m st=>∃(S0:aO) (w:SV) (X:AV) (R:List cK) (a g:Nat),((st).env 2=.ptr 2 0 0∧(st).heap 2 0=some (.cells (aB (mW S0 X)))∧(st).env 4=.ptr 4 0 0∧(st).heap 4 0=some (.cells (aB gQ))∧(st).env 9=.own a g∧(st).heap a g=some (.row 27 32 R.length (gM R))∧(st).env 10=.v (.int .i64 (BA w)))∧((a=66∧g=0)∨(a=105∧g<st.aP 105))∧(X=ov aH w.O∨∃g' L,w.O=some L∧X=.own 91 g'∧g'<st.aP 91∧st.heap 91 g'=some (.row 74 238 L.length (aH L)))∧GI S0 w q∧RG S0 w∧S0.cFg=s.cFg∧R.length+(ol w.O).length≤1+(ol v.O).length∧m=(ol w.O).length) (fun e st=>e=.exit 0∧∃(S0:aO) (w:SV) (X:AV) (R:List cK) (a g:Nat),(st.env 2=.ptr 2 0 0∧st.heap 2 0=some (.cells (aB (mW S0 X)))∧st.env 4=.ptr 4 0 0∧st.heap 4 0=some (.cells (aB gQ))∧st.env 9=.own a g∧st.heap a g=some (.row 27 32 R.length (gM R)))∧a≠4∧(X=ov aH w.O∨∃g' L,w.O=some L∧X=.own 91 g'∧st.heap 91 g'=some (.row 74 238 L.length (aH L)))∧GI S0 w q∧RG S0 w∧S0.cFg=s.cFg∧R.length≤1+(ol v.O).length) m ?step ?start ?rest
  case start=>exact hs
  case rest=>exact fun e st h=>⟨_,rfl,h⟩
  case step =>
   clear hs
   rintro m st ⟨S0,w,X,R,a,g,hI,GJ,hX,hG,oJ,hC,hR,hm⟩
   have hlO:=hG.nO
   have hlB:=hG.MD
   by_cases bA:0≤BA w
   case neg =>
    have hI':=hI
    have hX':X=ov aH w.O∨∃g' L,w.O=some L∧X=.own 91 g'∧st.heap 91 g'=some (.row 74 238 L.length (aH L)):=hX.imp id fun ⟨g',L,h1,h2,_,h4⟩=>⟨g',L,h1,h2,h4⟩
    apply oT (.exit 0)
    ·simp only[Z8,seval,hI,bA];rfl
    ·exact⟨rfl,S0,w,X,R,a,g,by simp only[E8,seval,hI],by omega,by simpa only[E8,seval] using hX',hG,oJ,hC,by omega⟩
   obtain⟨k,hk,hkp,hkw⟩:∃k:Nat,k<(ol w.O).length∧0≤aN w.ns (gx fC (ol w.O) k).parent∧BA w=k:=by
    rcases vH (fun k=>0≤aN w.ns (gx fC (ol w.O) k).parent) (ol w.O).length with ⟨e,_⟩|⟨k,h1,h2,_,h3⟩
    ·have:BA w=-1:=e;omega
    ·exact⟨k,h1,h2,h3⟩
   rw[hkw] at hI bA;have q0:(0:Int)≤k:=by omega
   have q1:(k:Int)<((ol w.O).length:Int):=by omega
   have q2:(k:Int)≤((ol w.O).length:Int):=by omega
   have q3:(0:Int)≤((k+1:Nat):Int):=by omega
   have q4:((k+1:Nat):Int)≤((ol w.O).length:Int):=by omega
   have hw:IntKind.i64.wrap ((k:Int)+1)=((k+1:Nat):Int):=by rw[pR _ (by omega) (by omega)];omega
   obtain⟨bb,wY⟩:∃bb,gx fC (ol w.O) (k:Int)=bb:=⟨_,rfl⟩
   have n1:((((ol w.O).take k).length:Nat):Int)<1000000:=by rw[List.length_take];omega
   have n2:((((ol w.O).drop (k+1)).length:Nat):Int)<1000000:=by rw[List.length_drop];omega
   obtain⟨LL,AT⟩:∃LL,(ol w.O).take k++(ol w.O).drop (k+1)=LL:=⟨_,rfl⟩
   have nl:LL.length+1=(ol w.O).length:=by rw[← AT,List.length_append,List.length_take,List.length_drop];omega
   have hmem:∀b∈LL,b∈ol w.O:=fun b hb=>by rw[← AT] at hb;exact (List.mem_append.1 hb).elim List.mem_of_mem_take List.mem_of_mem_drop
   have nR:(R.length:Int)<1000000:=by omega
   have hbm:bb∈ol w.O:=by rw[← wY];exact tY q0 q1
   have e1:ol (w.O.map (·.take k))=(ol w.O).take k:=by cases w.O<;>simp[ol]
   have e2:ol (w.O.map (·.drop (k+1)))=(ol w.O).drop (k+1):=by cases w.O<;>simp[ol]
   by_cases hz:LL=[]
   ·skip
    have hT:((ol w.O).take k).length=0:=by have:=congrArg List.length AT;rw[hz,List.length_append] at this;simp only[List.length_nil] at this;omega
    have hD:((ol w.O).drop (k+1)).length=0:=by have:=congrArg List.length AT;rw[hz,List.length_append] at this;simp only[List.length_nil] at this;omega
    have Qd:(ol w.O).length=1:=by rw[hz] at nl;simpa using nl.symm
    have Nx:=hG.TO none (by show ((0:Nat):Int)≤_;omega)
    have Cy:RG (mW S0 (ov aH none)) { w with O:=none }:=oJ.TO none (ov aH none) (fun b hb=>by cases hb) nofun
    have Xd:∀(st:St) (d:Option Nat),aL (aC Tryz.prog) 52 [.agg (aB (mW S0 (.v (.slice none 0 0)))),.agg (aU bb)] st d=_:=k52 Nx.sd Nx.up Nx.sp bb
    have Kd:∀(st:St) (d:Option Nat),aL (aC Tryz.prog) 218 [.agg (aB (mW S0 (.v (.slice none 0 0))))] st d=_:=MA Nx.sd
    have hO2:(ol (lI (mW S0 (ov aH none)) { w with O:=none } bb).O).length≤0:=TS _ _ _
    obtain⟨c,hc⟩:∃c,Kb (mW S0 (ov aH none)) { w with O:=none } bb=c:=⟨_,rfl⟩
    rw[hc] at Xd;by_cases qJ:c=0
    ·rw[qJ] at hc;have Qf:=Nx.ins hc
     have Cz:=Cy.ins (oJ.or bb hbm) hc
     have MQ:=(Bb (mW S0 (ov aH none)) { w with O:=none } bb).1
     have ED:∀(st:St) (d:Option Nat),fF (aC Tryz.prog) 217 [.agg (aB (mW S0 (.v (.slice none 0 0)))),.agg (aU bb)] st d=_:=aLD Nx hc
     have pM:=MA Qf.sd
     obtain⟨S2,hS2⟩:∃S2,sS (mW S0 (ov aH none)) { w with O:=none } bb=S2:=⟨_,rfl⟩
     rw[hS2] at ED Qf Cz pM MQ
     have Lk:=sU Qf.sd
     simp only[mW] at Xd Kd ED hI;rcases hX with rfl|⟨g',L,hL,rfl,hg1,MR⟩
     ·rcases GJ with ⟨rfl,rfl⟩|⟨rfl,hg⟩
      ·refine oV (st':=?_) ?_ ((ol (lI (mW S0 (ov aH none)) { w with O:=none } bb).O).length) (by omega) ?_
       rotate_left
       ·simp only[Z8,seval,hI,bA,q0,q1,q2,q3,q4,hw,wY,Int.toNat_natCast,iK,iL,oR,Option.isSome_some,Option.map_some,Option.some.injEq,hT,hD,Xd,Kd,e1,e2,bt qJ,ED,pM,oK _ _ _ _ nR];rfl
       ·refine⟨S2,lI (mW S0 (ov aH none)) { w with O:=none } bb,_,R++[bb.root],105,st.aP 105, ?_,.inr ⟨rfl,by simp only[E8,seval]<;>omega⟩,.inl rfl,Qf,Cz,MQ.trans hC, ?_,rfl⟩
        ·rw[Lk];simp only[E8,seval,hI]<;>rfl
        ·rw[List.length_append,List.length_cons,List.length_nil];omega
      ·have vL:(g=st.aP 105)=False:=eq_false (by omega)
       refine oV (st':=?_) ?_ ((ol (lI (mW S0 (ov aH none)) { w with O:=none } bb).O).length) (by omega) ?_
       rotate_left
       ·simp only[Z8,seval,hI,bA,q0,q1,q2,q3,q4,hw,wY,Int.toNat_natCast,iK,iL,oR,Option.isSome_some,Option.map_some,Option.some.injEq,hT,hD,Xd,Kd,e1,e2,vL,bt qJ,ED,pM,oK _ _ _ _ nR];rfl
       ·refine⟨S2,lI (mW S0 (ov aH none)) { w with O:=none } bb,_,R++[bb.root],105,st.aP 105, ?_,.inr ⟨rfl,by simp only[E8,seval]<;>omega⟩,.inl rfl,Qf,Cz,MQ.trans hC, ?_,rfl⟩
        ·rw[Lk];simp only[E8,seval,hI]<;>rfl
        ·rw[List.length_append,List.length_cons,List.length_nil];omega
     ·have eL:ol w.O=L:=by rw[hL];rfl
      have MS:(g'=st.aP 91)=False:=eq_false (by omega)
      obtain⟨X1,EE,Hi⟩:=Qs (L:=L) (k:=k) (by rw[← eL];omega) 91 g'
      obtain⟨X2,GP,Hj⟩:=Cu (L:=L) (k:=k+1) (by rw[← eL];omega) 91 g'
      have Xe:(k:Int)<(L.length:Int):=by rw[← eL];omega
      have Xf:=zL (T:=74) (n:=L.length) (k:=238) q0 Xe UG (by decide) (by decide)
      simp only[Int.toNat_natCast] at Xf;subst eL;rcases GJ with ⟨rfl,rfl⟩|⟨rfl,hg⟩
      ·refine oV (st':=?_) ?_ ((ol (lI (mW S0 (ov aH none)) { w with O:=none } bb).O).length) (by omega) ?_
       rotate_left
       ·simp only[Z8,seval,hI,bA,q0,q1,q2,q3,q4,hw,wY,Int.toNat_natCast,iK,iL,oR,Option.isSome_some,Option.map_some,Option.some.injEq,hT,hD,Xd,Kd,MR,MS,EE _ _,Hi,GP _ _,Hj,Xe,Xf,bt qJ,ED,pM,oK _ _ _ _ nR];rfl
       ·refine⟨S2,lI (mW S0 (ov aH none)) { w with O:=none } bb,_,R++[bb.root],105,st.aP 105, ?_,.inr ⟨rfl,by simp only[E8,seval]<;>omega⟩,.inl rfl,Qf,Cz,MQ.trans hC, ?_,rfl⟩
        ·rw[Lk];simp only[E8,seval,hI]<;>rfl
        ·rw[List.length_append,List.length_cons,List.length_nil];omega
      ·have vL:(g=st.aP 105)=False:=eq_false (by omega)
       refine oV (st':=?_) ?_ ((ol (lI (mW S0 (ov aH none)) { w with O:=none } bb).O).length) (by omega) ?_
       rotate_left
       ·simp only[Z8,seval,hI,bA,q0,q1,q2,q3,q4,hw,wY,Int.toNat_natCast,iK,iL,oR,Option.isSome_some,Option.map_some,Option.some.injEq,hT,hD,Xd,Kd,MR,MS,EE _ _,Hi,GP _ _,Hj,Xe,Xf,vL,bt qJ,ED,pM,oK _ _ _ _ nR];rfl
       ·refine⟨S2,lI (mW S0 (ov aH none)) { w with O:=none } bb,_,R++[bb.root],105,st.aP 105, ?_,.inr ⟨rfl,by simp only[E8,seval]<;>omega⟩,.inl rfl,Qf,Cz,MQ.trans hC, ?_,rfl⟩
        ·rw[Lk];simp only[E8,seval,hI]<;>rfl
        ·rw[List.length_append,List.length_cons,List.length_nil];omega
    ·simp only[mW] at Xd Kd hI;rcases hX with rfl|⟨g',L,hL,rfl,hg1,MR⟩
     ·rcases GJ with ⟨rfl,rfl⟩|⟨rfl,hg⟩
      ·refine oV (st':=?_) ?_ 0 (by omega) ?_
       rotate_left
       ·simp only[Z8,seval,hI,bA,q0,q1,q2,q3,q4,hw,wY,Int.toNat_natCast,iK,iL,oR,Option.isSome_some,Option.map_some,Option.some.injEq,hT,hD,Xd,Kd,e1,e2,bf qJ];rfl
       ·refine⟨(mW S0 (ov aH none)),{ w with O:=none },ov aH none,R,_,_, ?_,.inl ⟨rfl,rfl⟩,.inl rfl,Nx,Cy,hC,by show R.length+0≤_;omega,rfl⟩
        simp only[E8,seval,hI]<;>rfl
      ·have vL:(g=st.aP 105)=False:=eq_false (by omega)
       refine oV (st':=?_) ?_ 0 (by omega) ?_
       rotate_left
       ·simp only[Z8,seval,hI,bA,q0,q1,q2,q3,q4,hw,wY,Int.toNat_natCast,iK,iL,oR,Option.isSome_some,Option.map_some,Option.some.injEq,hT,hD,Xd,Kd,e1,e2,vL,bf qJ];rfl
       ·refine⟨(mW S0 (ov aH none)),{ w with O:=none },ov aH none,R,_,_, ?_,.inr ⟨rfl,by simp only[E8,seval]<;>omega⟩,.inl rfl,Nx,Cy,hC,by show R.length+0≤_;omega,rfl⟩
        simp only[E8,seval,hI]<;>rfl
     ·have eL:ol w.O=L:=by rw[hL];rfl
      have MS:(g'=st.aP 91)=False:=eq_false (by omega)
      obtain⟨X1,EE,Hi⟩:=Qs (L:=L) (k:=k) (by rw[← eL];omega) 91 g'
      obtain⟨X2,GP,Hj⟩:=Cu (L:=L) (k:=k+1) (by rw[← eL];omega) 91 g'
      have Xe:(k:Int)<(L.length:Int):=by rw[← eL];omega
      have Xf:=zL (T:=74) (n:=L.length) (k:=238) q0 Xe UG (by decide) (by decide)
      simp only[Int.toNat_natCast] at Xf;subst eL;rcases GJ with ⟨rfl,rfl⟩|⟨rfl,hg⟩
      ·refine oV (st':=?_) ?_ 0 (by omega) ?_
       rotate_left
       ·simp only[Z8,seval,hI,bA,q0,q1,q2,q3,q4,hw,wY,Int.toNat_natCast,iK,iL,oR,Option.isSome_some,Option.map_some,Option.some.injEq,hT,hD,Xd,Kd,MR,MS,EE _ _,Hi,GP _ _,Hj,Xe,Xf,bf qJ];rfl
       ·refine⟨(mW S0 (ov aH none)),{ w with O:=none },ov aH none,R,_,_, ?_,.inl ⟨rfl,rfl⟩,.inl rfl,Nx,Cy,hC,by show R.length+0≤_;omega,rfl⟩
        simp only[E8,seval,hI]<;>rfl
      ·have vL:(g=st.aP 105)=False:=eq_false (by omega)
       refine oV (st':=?_) ?_ 0 (by omega) ?_
       rotate_left
       ·simp only[Z8,seval,hI,bA,q0,q1,q2,q3,q4,hw,wY,Int.toNat_natCast,iK,iL,oR,Option.isSome_some,Option.map_some,Option.some.injEq,hT,hD,Xd,Kd,MR,MS,EE _ _,Hi,GP _ _,Hj,Xe,Xf,vL,bf qJ];rfl
       ·refine⟨(mW S0 (ov aH none)),{ w with O:=none },ov aH none,R,_,_, ?_,.inr ⟨rfl,by simp only[E8,seval]<;>omega⟩,.inl rfl,Nx,Cy,hC,by show R.length+0≤_;omega,rfl⟩
        simp only[E8,seval,hI]<;>rfl
   have BC:(LL.length=0)=False:=eq_false fun h=>hz (List.length_eq_zero_iff.1 h)
   have Nx:=hG.TO (some LL) (by show ((LL.length:Nat):Int)≤_;omega)
   have sI:=aQq hG.sd Nx bb 91
   have oL:=aLE hG.sd Nx 91
   have hO2:(ol (lI (mW S0 (ov aH (some LL))) { w with O:=some LL } bb).O).length≤LL.length:=TS _ _ _
   obtain⟨c,hc⟩:∃c,Kb (mW S0 (ov aH (some LL))) { w with O:=some LL } bb=c:=⟨_,rfl⟩
   rw[hc] at sI
   have Cy:=oJ.TO (some LL) (ov aH (some LL)) (fun b hb=>oJ.or b (hmem b hb)) (fun e=>hz (by injection e))
   have eO:∀x,mW (mW S0 (ov aH (some LL))) x=mW S0 x:=fun x=>rfl
   by_cases uQ:k=0
   ·have hT:((ol w.O).take k).length=0:=by rw[uQ];rfl
    have hD:(ol w.O).drop (k+1)=LL:=by rw[← AT,uQ];rfl
    have n3:((LL.length:Nat):Int)<1000000:=by omega
    by_cases qJ:c=0
    · -- taken in
     rw[qJ] at hc;have Qf:=Nx.ins hc
     have Cz:=Cy.ins (oJ.or bb hbm) hc
     have MQ:=(Bb (mW S0 (ov aH (some LL))) { w with O:=some LL } bb).1
     have vP:=aES hG.sd Nx hc 91
     have pM:=MA Qf.sd
     obtain⟨S2,hS2⟩:∃S2,sS (mW S0 (ov aH (some LL))) { w with O:=some LL } bb=S2:=⟨_,rfl⟩
     rw[hS2] at vP Qf Cz pM MQ
     have Lk:=sU Qf.sd
     have GQ:(ol (lI (mW S0 (ov aH (some LL))) { w with O:=some LL } bb).O).length<m:=by omega
     have GR:(R++[bb.root]).length+(ol (lI (mW S0 (ov aH (some LL))) { w with O:=some LL } bb).O).length≤1+(ol v.O).length:=by rw[List.length_append,List.length_cons,List.length_nil];omega
     simp only[mW] at sI oL vP hI
     rcases hX with rfl|⟨g',L,hL,rfl,hg1,MR⟩
     · -- a list
      rcases GJ with ⟨rfl,rfl⟩|⟨rfl,hg⟩
      · -- 66
       refine oV (st':=?_) ?_ ((ol (lI (mW S0 (ov aH (some LL))) { w with O:=some LL } bb).O).length) GQ ?_
       rotate_left
       ·simp only[Z8,seval,hI,bA,q0,q1,q2,q3,q4,hw,wY,Int.toNat_natCast,iS _ n3,iK,iL,oR,Option.isSome_some,Option.map_some,Option.some.injEq,hT,BC,hD,sI,oL,e1,e2,bt qJ,vP,pM,oK _ _ _ _ nR];rfl
       ·refine⟨S2,lI (mW S0 (ov aH (some LL))) { w with O:=some LL } bb,_,R++[bb.root],105,st.aP 105, ?_,.inr ⟨rfl,by simp only[E8,seval]<;>omega⟩,.inl rfl,Qf,Cz,MQ.trans hC, ?_,rfl⟩
        ·rw[Lk];simp only[E8,seval,hI]<;>rfl
        ·exact GR
      · -- 105
       have vL:(g=st.aP 105)=False:=eq_false (by omega)
       refine oV (st':=?_) ?_ ((ol (lI (mW S0 (ov aH (some LL))) { w with O:=some LL } bb).O).length) GQ ?_
       rotate_left
       ·simp only[Z8,seval,hI,bA,q0,q1,q2,q3,q4,hw,wY,Int.toNat_natCast,iS _ n3,iK,iL,oR,Option.isSome_some,Option.map_some,Option.some.injEq,hT,BC,hD,sI,oL,e1,e2,vL,bt qJ,vP,pM,oK _ _ _ _ nR];rfl
       ·refine⟨S2,lI (mW S0 (ov aH (some LL))) { w with O:=some LL } bb,_,R++[bb.root],105,st.aP 105, ?_,.inr ⟨rfl,by simp only[E8,seval]<;>omega⟩,.inl rfl,Qf,Cz,MQ.trans hC, ?_,rfl⟩
        ·rw[Lk];simp only[E8,seval,hI]<;>rfl
        ·exact GR
     · -- a row of its own
      have eL:ol w.O=L:=by rw[hL];rfl
      have MS:(g'=st.aP 91)=False:=eq_false (by omega)
      obtain⟨X1,EE,Hi⟩:=Qs (L:=L) (k:=k) (by rw[← eL];omega) 91 g'
      obtain⟨X2,GP,Hj⟩:=Cu (L:=L) (k:=k+1) (by rw[← eL];omega) 91 g'
      have Xe:(k:Int)<(L.length:Int):=by rw[← eL];omega
      have Xf:=zL (T:=74) (n:=L.length) (k:=238) q0 Xe UG (by decide) (by decide)
      simp only[Int.toNat_natCast] at Xf;subst eL;rcases GJ with ⟨rfl,rfl⟩|⟨rfl,hg⟩
      · -- 66
       refine oV (st':=?_) ?_ ((ol (lI (mW S0 (ov aH (some LL))) { w with O:=some LL } bb).O).length) GQ ?_
       rotate_left
       ·simp only[Z8,seval,hI,bA,q0,q1,q2,q3,q4,hw,wY,Int.toNat_natCast,iS _ n3,iK,iL,oR,Option.isSome_some,Option.map_some,Option.some.injEq,hT,BC,hD,sI,oL,MR,MS,EE _ _,Hi,GP _ _,Hj,Xe,Xf,bt qJ,vP,pM,oK _ _ _ _ nR];rfl
       ·refine⟨S2,lI (mW S0 (ov aH (some LL))) { w with O:=some LL } bb,_,R++[bb.root],105,st.aP 105, ?_,.inr ⟨rfl,by simp only[E8,seval]<;>omega⟩,.inl rfl,Qf,Cz,MQ.trans hC, ?_,rfl⟩
        ·rw[Lk];simp only[E8,seval,hI]<;>rfl
        ·exact GR
      · -- 105
       have vL:(g=st.aP 105)=False:=eq_false (by omega)
       refine oV (st':=?_) ?_ ((ol (lI (mW S0 (ov aH (some LL))) { w with O:=some LL } bb).O).length) GQ ?_
       rotate_left
       ·simp only[Z8,seval,hI,bA,q0,q1,q2,q3,q4,hw,wY,Int.toNat_natCast,iS _ n3,iK,iL,oR,Option.isSome_some,Option.map_some,Option.some.injEq,hT,BC,hD,sI,oL,MR,MS,EE _ _,Hi,GP _ _,Hj,Xe,Xf,vL,bt qJ,vP,pM,oK _ _ _ _ nR];rfl
       ·refine⟨S2,lI (mW S0 (ov aH (some LL))) { w with O:=some LL } bb,_,R++[bb.root],105,st.aP 105, ?_,.inr ⟨rfl,by simp only[E8,seval]<;>omega⟩,.inl rfl,Qf,Cz,MQ.trans hC, ?_,rfl⟩
        ·rw[Lk];simp only[E8,seval,hI]<;>rfl
        ·exact GR
    · -- left out
     have GQ:LL.length<m:=by omega
     have GR:R.length+LL.length≤1+(ol v.O).length:=by omega
     simp only[mW] at sI oL hI
     rcases hX with rfl|⟨g',L,hL,rfl,hg1,MR⟩
     · -- a list
      rcases GJ with ⟨rfl,rfl⟩|⟨rfl,hg⟩
      · -- 66
       refine oV (st':=?_) ?_ (LL.length) GQ ?_
       rotate_left
       ·simp only[Z8,seval,hI,bA,q0,q1,q2,q3,q4,hw,wY,Int.toNat_natCast,iS _ n3,iK,iL,oR,Option.isSome_some,Option.map_some,Option.some.injEq,hT,BC,hD,sI,oL,e1,e2,bf qJ];rfl
       ·refine⟨(mW S0 (ov aH (some LL))),{ w with O:=some LL },_,R,_,_, ?_,.inl ⟨rfl,rfl⟩,.inr ⟨st.aP 91,_,rfl,rfl,by simp only[E8,seval]<;>omega,by simp only[E8,seval]<;>rfl⟩,Nx,Cy,hC,GR,rfl⟩
        simp only[E8,seval,hI]<;>rfl
      · -- 105
       have vL:(g=st.aP 105)=False:=eq_false (by omega)
       refine oV (st':=?_) ?_ (LL.length) GQ ?_
       rotate_left
       ·simp only[Z8,seval,hI,bA,q0,q1,q2,q3,q4,hw,wY,Int.toNat_natCast,iS _ n3,iK,iL,oR,Option.isSome_some,Option.map_some,Option.some.injEq,hT,BC,hD,sI,oL,e1,e2,vL,bf qJ];rfl
       ·refine⟨(mW S0 (ov aH (some LL))),{ w with O:=some LL },_,R,_,_, ?_,.inr ⟨rfl,by simp only[E8,seval]<;>omega⟩,.inr ⟨st.aP 91,_,rfl,rfl,by simp only[E8,seval]<;>omega,by simp only[E8,seval]<;>rfl⟩,Nx,Cy,hC,GR,rfl⟩
        simp only[E8,seval,hI]<;>rfl
     · -- a row of its own
      have eL:ol w.O=L:=by rw[hL];rfl
      have MS:(g'=st.aP 91)=False:=eq_false (by omega)
      obtain⟨X1,EE,Hi⟩:=Qs (L:=L) (k:=k) (by rw[← eL];omega) 91 g'
      obtain⟨X2,GP,Hj⟩:=Cu (L:=L) (k:=k+1) (by rw[← eL];omega) 91 g'
      have Xe:(k:Int)<(L.length:Int):=by rw[← eL];omega
      have Xf:=zL (T:=74) (n:=L.length) (k:=238) q0 Xe UG (by decide) (by decide)
      simp only[Int.toNat_natCast] at Xf;subst eL;rcases GJ with ⟨rfl,rfl⟩|⟨rfl,hg⟩
      · -- 66
       refine oV (st':=?_) ?_ (LL.length) GQ ?_
       rotate_left
       ·simp only[Z8,seval,hI,bA,q0,q1,q2,q3,q4,hw,wY,Int.toNat_natCast,iS _ n3,iK,iL,oR,Option.isSome_some,Option.map_some,Option.some.injEq,hT,BC,hD,sI,oL,MR,MS,EE _ _,Hi,GP _ _,Hj,Xe,Xf,bf qJ];rfl
       ·refine⟨(mW S0 (ov aH (some LL))),{ w with O:=some LL },_,R,_,_, ?_,.inl ⟨rfl,rfl⟩,.inr ⟨st.aP 91,_,rfl,rfl,by simp only[E8,seval]<;>omega,by simp only[E8,seval]<;>rfl⟩,Nx,Cy,hC,GR,rfl⟩
        simp only[E8,seval,hI]<;>rfl
      · -- 105
       have vL:(g=st.aP 105)=False:=eq_false (by omega)
       refine oV (st':=?_) ?_ (LL.length) GQ ?_
       rotate_left
       ·simp only[Z8,seval,hI,bA,q0,q1,q2,q3,q4,hw,wY,Int.toNat_natCast,iS _ n3,iK,iL,oR,Option.isSome_some,Option.map_some,Option.some.injEq,hT,BC,hD,sI,oL,MR,MS,EE _ _,Hi,GP _ _,Hj,Xe,Xf,vL,bf qJ];rfl
       ·refine⟨(mW S0 (ov aH (some LL))),{ w with O:=some LL },_,R,_,_, ?_,.inr ⟨rfl,by simp only[E8,seval]<;>omega⟩,.inr ⟨st.aP 91,_,rfl,rfl,by simp only[E8,seval]<;>omega,by simp only[E8,seval]<;>rfl⟩,Nx,Cy,hC,GR,rfl⟩
        simp only[E8,seval,hI]<;>rfl
   have hT:(((ol w.O).take k).length=0)=False:=eq_false (by rw[List.length_take];omega)
   by_cases qJ:c=0
   · -- taken in
    rw[qJ] at hc;have Qf:=Nx.ins hc
    have Cz:=Cy.ins (oJ.or bb hbm) hc
    have MQ:=(Bb (mW S0 (ov aH (some LL))) { w with O:=some LL } bb).1
    have vP:=aES hG.sd Nx hc 91
    have pM:=MA Qf.sd
    obtain⟨S2,hS2⟩:∃S2,sS (mW S0 (ov aH (some LL))) { w with O:=some LL } bb=S2:=⟨_,rfl⟩
    rw[hS2] at vP Qf Cz pM MQ
    have Lk:=sU Qf.sd
    have GQ:(ol (lI (mW S0 (ov aH (some LL))) { w with O:=some LL } bb).O).length<m:=by omega
    have GR:(R++[bb.root]).length+(ol (lI (mW S0 (ov aH (some LL))) { w with O:=some LL } bb).O).length≤1+(ol v.O).length:=by rw[List.length_append,List.length_cons,List.length_nil];omega
    simp only[mW] at sI oL vP hI
    rcases hX with rfl|⟨g',L,hL,rfl,hg1,MR⟩
    · -- a list
     rcases GJ with ⟨rfl,rfl⟩|⟨rfl,hg⟩
     · -- 66
      refine oV (st':=?_) ?_ ((ol (lI (mW S0 (ov aH (some LL))) { w with O:=some LL } bb).O).length) GQ ?_
      rotate_left
      ·simp only[Z8,seval,hI,bA,q0,q1,q2,q3,q4,hw,wY,Int.toNat_natCast,iS _ n1,rM _ _ _ _ n1 n2,iK,iL,oR,Option.isSome_some,Option.map_some,Option.some.injEq,hT,BC,AT,sI,oL,e1,e2,bt qJ,vP,pM,oK _ _ _ _ nR];rfl
      ·refine⟨S2,lI (mW S0 (ov aH (some LL))) { w with O:=some LL } bb,_,R++[bb.root],105,st.aP 105, ?_,.inr ⟨rfl,by simp only[E8,seval]<;>omega⟩,.inl rfl,Qf,Cz,MQ.trans hC, ?_,rfl⟩
       ·rw[Lk];simp only[E8,seval,hI]<;>rfl
       ·exact GR
     · -- 105
      have vL:(g=st.aP 105)=False:=eq_false (by omega)
      refine oV (st':=?_) ?_ ((ol (lI (mW S0 (ov aH (some LL))) { w with O:=some LL } bb).O).length) GQ ?_
      rotate_left
      ·simp only[Z8,seval,hI,bA,q0,q1,q2,q3,q4,hw,wY,Int.toNat_natCast,iS _ n1,rM _ _ _ _ n1 n2,iK,iL,oR,Option.isSome_some,Option.map_some,Option.some.injEq,hT,BC,AT,sI,oL,e1,e2,vL,bt qJ,vP,pM,oK _ _ _ _ nR];rfl
      ·refine⟨S2,lI (mW S0 (ov aH (some LL))) { w with O:=some LL } bb,_,R++[bb.root],105,st.aP 105, ?_,.inr ⟨rfl,by simp only[E8,seval]<;>omega⟩,.inl rfl,Qf,Cz,MQ.trans hC, ?_,rfl⟩
       ·rw[Lk];simp only[E8,seval,hI]<;>rfl
       ·exact GR
    · -- a row of its own
     have eL:ol w.O=L:=by rw[hL];rfl
     have MS:(g'=st.aP 91)=False:=eq_false (by omega)
     obtain⟨X1,EE,Hi⟩:=Qs (L:=L) (k:=k) (by rw[← eL];omega) 91 g'
     obtain⟨X2,GP,Hj⟩:=Cu (L:=L) (k:=k+1) (by rw[← eL];omega) 91 g'
     have Xe:(k:Int)<(L.length:Int):=by rw[← eL];omega
     have Xf:=zL (T:=74) (n:=L.length) (k:=238) q0 Xe UG (by decide) (by decide)
     simp only[Int.toNat_natCast] at Xf;subst eL;rcases GJ with ⟨rfl,rfl⟩|⟨rfl,hg⟩
     · -- 66
      refine oV (st':=?_) ?_ ((ol (lI (mW S0 (ov aH (some LL))) { w with O:=some LL } bb).O).length) GQ ?_
      rotate_left
      ·simp only[Z8,seval,hI,bA,q0,q1,q2,q3,q4,hw,wY,Int.toNat_natCast,iS _ n1,rM _ _ _ _ n1 n2,iK,iL,oR,Option.isSome_some,Option.map_some,Option.some.injEq,hT,BC,AT,sI,oL,MR,MS,EE _ _,Hi,GP _ _,Hj,Xe,Xf,bt qJ,vP,pM,oK _ _ _ _ nR];rfl
      ·refine⟨S2,lI (mW S0 (ov aH (some LL))) { w with O:=some LL } bb,_,R++[bb.root],105,st.aP 105, ?_,.inr ⟨rfl,by simp only[E8,seval]<;>omega⟩,.inl rfl,Qf,Cz,MQ.trans hC, ?_,rfl⟩
       ·rw[Lk];simp only[E8,seval,hI]<;>rfl
       ·exact GR
     · -- 105
      have vL:(g=st.aP 105)=False:=eq_false (by omega)
      refine oV (st':=?_) ?_ ((ol (lI (mW S0 (ov aH (some LL))) { w with O:=some LL } bb).O).length) GQ ?_
      rotate_left
      ·simp only[Z8,seval,hI,bA,q0,q1,q2,q3,q4,hw,wY,Int.toNat_natCast,iS _ n1,rM _ _ _ _ n1 n2,iK,iL,oR,Option.isSome_some,Option.map_some,Option.some.injEq,hT,BC,AT,sI,oL,MR,MS,EE _ _,Hi,GP _ _,Hj,Xe,Xf,vL,bt qJ,vP,pM,oK _ _ _ _ nR];rfl
      ·refine⟨S2,lI (mW S0 (ov aH (some LL))) { w with O:=some LL } bb,_,R++[bb.root],105,st.aP 105, ?_,.inr ⟨rfl,by simp only[E8,seval]<;>omega⟩,.inl rfl,Qf,Cz,MQ.trans hC, ?_,rfl⟩
       ·rw[Lk];simp only[E8,seval,hI]<;>rfl
       ·exact GR
   · -- left out
    have GQ:LL.length<m:=by omega
    have GR:R.length+LL.length≤1+(ol v.O).length:=by omega
    simp only[mW] at sI oL hI
    rcases hX with rfl|⟨g',L,hL,rfl,hg1,MR⟩
    · -- a list
     rcases GJ with ⟨rfl,rfl⟩|⟨rfl,hg⟩
     · -- 66
      refine oV (st':=?_) ?_ (LL.length) GQ ?_
      rotate_left
      ·simp only[Z8,seval,hI,bA,q0,q1,q2,q3,q4,hw,wY,Int.toNat_natCast,iS _ n1,rM _ _ _ _ n1 n2,iK,iL,oR,Option.isSome_some,Option.map_some,Option.some.injEq,hT,BC,AT,sI,oL,e1,e2,bf qJ];rfl
      ·refine⟨(mW S0 (ov aH (some LL))),{ w with O:=some LL },_,R,_,_, ?_,.inl ⟨rfl,rfl⟩,.inr ⟨st.aP 91,_,rfl,rfl,by simp only[E8,seval]<;>omega,by simp only[E8,seval]<;>rfl⟩,Nx,Cy,hC,GR,rfl⟩
       simp only[E8,seval,hI]<;>rfl
     · -- 105
      have vL:(g=st.aP 105)=False:=eq_false (by omega)
      refine oV (st':=?_) ?_ (LL.length) GQ ?_
      rotate_left
      ·simp only[Z8,seval,hI,bA,q0,q1,q2,q3,q4,hw,wY,Int.toNat_natCast,iS _ n1,rM _ _ _ _ n1 n2,iK,iL,oR,Option.isSome_some,Option.map_some,Option.some.injEq,hT,BC,AT,sI,oL,e1,e2,vL,bf qJ];rfl
      ·refine⟨(mW S0 (ov aH (some LL))),{ w with O:=some LL },_,R,_,_, ?_,.inr ⟨rfl,by simp only[E8,seval]<;>omega⟩,.inr ⟨st.aP 91,_,rfl,rfl,by simp only[E8,seval]<;>omega,by simp only[E8,seval]<;>rfl⟩,Nx,Cy,hC,GR,rfl⟩
       simp only[E8,seval,hI]<;>rfl
    · -- a row of its own
     have eL:ol w.O=L:=by rw[hL];rfl
     have MS:(g'=st.aP 91)=False:=eq_false (by omega)
     obtain⟨X1,EE,Hi⟩:=Qs (L:=L) (k:=k) (by rw[← eL];omega) 91 g'
     obtain⟨X2,GP,Hj⟩:=Cu (L:=L) (k:=k+1) (by rw[← eL];omega) 91 g'
     have Xe:(k:Int)<(L.length:Int):=by rw[← eL];omega
     have Xf:=zL (T:=74) (n:=L.length) (k:=238) q0 Xe UG (by decide) (by decide)
     simp only[Int.toNat_natCast] at Xf;subst eL;rcases GJ with ⟨rfl,rfl⟩|⟨rfl,hg⟩
     · -- 66
      refine oV (st':=?_) ?_ (LL.length) GQ ?_
      rotate_left
      ·simp only[Z8,seval,hI,bA,q0,q1,q2,q3,q4,hw,wY,Int.toNat_natCast,iS _ n1,rM _ _ _ _ n1 n2,iK,iL,oR,Option.isSome_some,Option.map_some,Option.some.injEq,hT,BC,AT,sI,oL,MR,MS,EE _ _,Hi,GP _ _,Hj,Xe,Xf,bf qJ];rfl
      ·refine⟨(mW S0 (ov aH (some LL))),{ w with O:=some LL },_,R,_,_, ?_,.inl ⟨rfl,rfl⟩,.inr ⟨st.aP 91,_,rfl,rfl,by simp only[E8,seval]<;>omega,by simp only[E8,seval]<;>rfl⟩,Nx,Cy,hC,GR,rfl⟩
       simp only[E8,seval,hI]<;>rfl
     · -- 105
      have vL:(g=st.aP 105)=False:=eq_false (by omega)
      refine oV (st':=?_) ?_ (LL.length) GQ ?_
      rotate_left
      ·simp only[Z8,seval,hI,bA,q0,q1,q2,q3,q4,hw,wY,Int.toNat_natCast,iS _ n1,rM _ _ _ _ n1 n2,iK,iL,oR,Option.isSome_some,Option.map_some,Option.some.injEq,hT,BC,AT,sI,oL,MR,MS,EE _ _,Hi,GP _ _,Hj,Xe,Xf,vL,bf qJ];rfl
      ·refine⟨(mW S0 (ov aH (some LL))),{ w with O:=some LL },_,R,_,_, ?_,.inr ⟨rfl,by simp only[E8,seval]<;>omega⟩,.inr ⟨st.aP 91,_,rfl,rfl,by simp only[E8,seval]<;>omega,by simp only[E8,seval]<;>rfl⟩,Nx,Cy,hC,GR,rfl⟩
       simp only[E8,seval,hI]<;>rfl
 obtain⟨r,h,hq⟩:=key
 cases hx:yX Tryz.prog Bd st with
 | none=>rw[hx] at h;cases h
 | some y=>rw[hx] at h;simp only[cZ,Option.some.injEq] at h;subst h;exact⟨y.1,y.2,rfl,hq⟩
theorem MT {s:aO} (h:1≤s.cFg.qS) {x y:Int} (hx:0≤x) (hxy:x≤y) (hy:y<18446744073709551616):Dv s x≤Dv s y:=by
 have e:∀z:Int,0≤z→z<18446744073709551616→Dv s z=z / s.cFg.qS:=fun z h0 h1=>by
  unfold Dv;rw[Int.tdiv_eq_ediv_of_nonneg h0];have:=Int.ediv_le_self s.cFg.qS h0
  exact wrap_u64 _ (Int.ediv_nonneg h0 (by omega)) (by omega)
 rw[e x hx (by omega),e y (by omega) hy]
 exact Int.ediv_le_ediv (by omega) hxy
theorem aB9 {acc:Bool × fS × fS} {n:Node} (h1:Rg acc.2.1.aK) (h2:Rg acc.2.2.aK) (hn:RB n.block):Rg (LY acc n).2.1.aK∧Rg (LY acc n).2.2.aK:=by
 unfold LY;split
 ·exact⟨h1,h2⟩
 ·refine⟨?_, ?_⟩
  ·dsimp only;split
   ·exact hn.pj
   ·exact h1
  ·dsimp only;split
   ·exact hn.pf
   ·exact h2
theorem aCa {ns:List Node} (h:∀n∈ns,RB n.block):Rg (Jm ns).pj.aK∧Rg (Jm ns).pf.aK:=by
 have key:∀(l:List Node) (acc:Bool × fS × fS),(∀n∈l,RB n.block)→Rg acc.2.1.aK→Rg acc.2.2.aK→Rg (l.foldl LY acc).2.1.aK∧Rg (l.foldl LY acc).2.2.aK:=by
  intro l;induction l with
  | nil=>intro acc _ h1 h2;exact⟨h1,h2⟩
  | cons n l ih =>
    intro acc hl h1 h2;have hs:=aB9 h1 h2 (hl n (List.mem_cons_self ..))
    exact ih _ (fun x hx=>hl x (List.mem_cons_of_mem _ hx)) hs.1 hs.2
 exact key ns _ h ⟨by show (0:Int)≤0;omega,by show (0:Int)<_;omega⟩ ⟨by show (0:Int)≤0;omega,by show (0:Int)<_;omega⟩
theorem Jc (s:aO) (X:AV):(wL s X).now=s.now:=rfl
theorem yM (s:aO) (X:AV):(wL s X).dV.early=X:=rfl
theorem Xg {s:aO} {v:SV} (h:SD s v) {L:List rX} (hL:∀x∈L,Flat x.eY) (st:St) {g:Nat} (hh:st.heap 61 g=some (.row 87 67 L.length (dG L))):fK st (.agg (aB (wL s (.own 61 g))))=some (.agg (aB (wL s (ov dG (some L))))):=by
 have iX:=h.fl
 have hx:=Q5 L.length L hL
 unfold wL;simp only[bR,gK,bG,hh,hx,cO,dW,iX,cZ];rfl
theorem aLF {call:Nat→List AV→Option AV} {inl:Nat→List AV→St→Option (AV × St)} {ops:Array Oper} {st:St} {T:Nat} {pos:String} {eP:Array Edge} (x:Array Operand) (y:Array Nat) :
 gU Tryz.prog true call inl ops ⟨some 80,.call ⟨.value (.func 44),x,y⟩,T,pos,eP,none⟩ st=cN (inl 44 (x.toList.map st.ev) st) fun r=>some ((st.back r.2).put (some 80) r.1):=UH 44 x y (Xh rfl)
noncomputable def Jd:Code:=kX (Tryz.f202.body.getD .skip)
def aQt (c0:Config) (E:Option (List rX)) (q:Int) (m:Nat) (st:St):Prop:=∃(k:Nat) (S:aO) (w:SV) (X:AV),(st.env 1=.ptr 1 0 0∧st.heap 1 0=some (.cells (aB (wL S X)))∧st.env 2=.ptr 2 0 0∧st.heap 2 0=some (.cells (aB gQ))∧st.env 5=ov dG E∧st.env 6=.v (.int .i64 k)∧0<st.aP 1∧0<st.aP 2)∧((X=.v (.slice none 0 0)∧w.E=none)∨∃g L,w.E=some L∧X=.own 61 g∧g<st.aP 61∧st.heap 61 g=some (.row 87 67 L.length (dG L)))∧GI (wL S (ov dG w.E)) w q∧RG (wL S (ov dG w.E)) w∧S.cFg=c0∧(ol w.E).length≤k∧k≤(ol E).length∧m=(ol E).length-k
def aCb (c0:Config) (q:Int) (e:Ex) (st:St):Prop:=e=.exit 0∧∃(S:aO) (w:SV) (X:AV),(st.env 1=.ptr 1 0 0∧st.heap 1 0=some (.cells (aB (wL S X)))∧st.env 2=.ptr 2 0 0∧st.heap 2 0=some (.cells (aB gQ)))∧((X=.v (.slice none 0 0)∧w.E=none)∨∃g L,w.E=some L∧X=.own 61 g∧st.heap 61 g=some (.row 87 67 L.length (dG L)))∧GI (wL S (ov dG w.E)) w q∧RG (wL S (ov dG w.E)) w∧S.cFg=c0
theorem Q6 {c0:Config} {E:Option (List rX)} {q:Int} (hE:∀a∈ol E,Cq a) (hEa:∀a∈ol E,∃V,a.eY=ov aJ (some V)∧V≠[]) (nE:((ol E).length:Int)≤c0.mH.pX) (nE':((ol E).length:Int)<900000) {m:Nat} {st:St} (hs:aQt c0 E q m st):∃e st',wM Tryz.prog true Jd st=some (e,st')∧aCb c0 q e st':=by
 have key:∃r,cN (wM Tryz.prog true Jd st) some=some r∧aCb c0 q r.1 r.2:=by
  unfold Jd;simp only[Tryz.f202,Option.getD_some,kX];refine lJ (fun m st=>∃(k:Nat) (S:aO) (w:SV) (X:AV),(st.env 1=.ptr 1 0 0∧st.heap 1 0=some (.cells (aB (wL S X)))∧st.env 2=.ptr 2 0 0∧st.heap 2 0=some (.cells (aB gQ))∧st.env 5=ov dG E∧st.env 6=.v (.int .i64 k)∧0<st.aP 1∧0<st.aP 2)∧((X=.v (.slice none 0 0)∧w.E=none)∨∃g L,w.E=some L∧X=.own 61 g∧g<st.aP 61∧st.heap 61 g=some (.row 87 67 L.length (dG L)))∧GI (wL S (ov dG w.E)) w q∧RG (wL S (ov dG w.E)) w∧S.cFg=c0∧(ol w.E).length≤k∧k≤(ol E).length∧m=(ol E).length-k) (fun e st=>e=.exit 0∧∃(S:aO) (w:SV) (X:AV),(st.env 1=.ptr 1 0 0∧st.heap 1 0=some (.cells (aB (wL S X)))∧st.env 2=.ptr 2 0 0∧st.heap 2 0=some (.cells (aB gQ)))∧((X=.v (.slice none 0 0)∧w.E=none)∨∃g L,w.E=some L∧X=.own 61 g∧st.heap 61 g=some (.row 87 67 L.length (dG L)))∧GI (wL S (ov dG w.E)) w q∧RG (wL S (ov dG w.E)) w∧S.cFg=c0) m ?step ?start ?rest
  case start=>exact hs
  case rest=>exact fun e st h=>⟨_,rfl,h⟩
  case step =>
   clear hs
   rintro m st ⟨k,S,w,X,hI,hX,hG,oJ,hC,hF,hk,hm⟩
   by_cases bA:(k:Int)<(ol E).length
   case neg =>
    have hX':(X=.v (.slice none 0 0)∧w.E=none)∨∃g L,w.E=some L∧X=.own 61 g∧st.heap 61 g=some (.row 87 67 L.length (dG L)):=hX.imp id fun ⟨g,L,h1,h2,_,h4⟩=>⟨g,L,h1,h2,h4⟩
    apply FY (.exit 0)
    ·simp only[ZG,seval,Bool.false_and,Prod.mk.injEq,Be,hI,bA];rfl
    ·exact⟨rfl,S,w,X,by simp only[E8,seval,hI],by simpa only[E8,seval] using hX',hG,oJ,hC⟩
   have q0:(0:Int)≤k:=by omega
   have hw:IntKind.i64.wrap ((k:Int)+1)=((k+1:Nat):Int):=by rw[pR _ (by omega) (by omega)];omega
   obtain⟨a,ea⟩:∃a,gx Jo (ol E) (k:Int)=a:=⟨_,rfl⟩
   have ha:Cq a:=by rw[← ea];exact hE _ (tY q0 bA)
   have hEa':∃V,a.eY=ov aJ (some V)∧V≠[]:=by rw[← ea];exact hEa _ (tY q0 bA)
   obtain⟨V,hV,nV⟩:=id ha
   have fa:Flat (.agg (iB a)):=(zC a).2 ha.fl
   have fl9:=hG.sd.flat
   by_cases g1:S.now≤a.slot
   · -- kept
    rcases hX with ⟨rfl,Xi⟩|⟨g,L,Xi,rfl,hg,hh⟩
    ·have Nx:=hG.early (some [a]) (by intro b hb;rw[show b=a by simpa [ol] using hb];exact ha) (by show ((1:Nat):Int)≤S.cFg.mH.pX;rw[hC];omega)
     have Cy:RG (wL S (ov dG (some [a]))) { w with E:=some [a]}:=⟨oJ.now,oJ.j,oJ.f,oJ.nd,oJ.or,oJ.rt,oJ.fe,oJ.ds,oJ.tb,⟨oJ.ne.q,by simp,oJ.ne.o,oJ.ne.t,fun b hb=>by rw[show b=a by simpa [ol] using hb];exact hEa' ,oJ.ne.tb⟩⟩
     have an1:=GS a
     apply Ct ((ol E).length-(k+1))
     ·simp only[ZG,seval,Bool.false_and,Prod.mk.injEq,Be,hI,bA,q0,ea,Jc,yM,g1,fa,an1,hw];rfl
     ·exact⟨k+1,S,{ w with E:=some [a]},_,by and_intros<;>(simp only[E8,seval,hI]<;>rfl),.inr ⟨_,[a],rfl,rfl,by simp only[E8,seval]<;>omega,by simp only[E8,seval]<;>rfl⟩,Nx,Cy,hC,by show 1≤k+1;omega,by omega,rfl⟩
    ·have hlL:L.length≤k:=by rw[Xi] at hF;exact hF
     have nL:(L.length:Int)<1000000:=by omega
     have vL:(g=st.aP 61)=False:=eq_false (by omega)
     have Nx:=hG.early (some (L++[a])) (by
      intro b hb;rcases List.mem_append.1 (show b∈L++[a] from hb) with hb|hb
      ·exact hG.sd.eV b (by rw[Xi];exact hb)
      ·rw[List.mem_singleton] at hb;rw[hb];exact ha) (by show (((L++[a]).length:Nat):Int)≤S.cFg.mH.pX;rw[hC,List.length_append,List.length_cons,List.length_nil];omega)
     have Cy:RG (wL S (ov dG (some (L++[a])))) { w with E:=some (L++[a])}:=⟨oJ.now,oJ.j,oJ.f,oJ.nd,oJ.or,oJ.rt,oJ.fe,oJ.ds,oJ.tb,⟨oJ.ne.q,by simp,oJ.ne.o,oJ.ne.t,fun b hb=>by rcases List.mem_append.1 (show b∈L++[a] from hb) with hb|hb;exact oJ.ne.ea b (by rw[Xi];exact hb);rw[List.mem_singleton] at hb;rw[hb];exact hEa',oJ.ne.tb⟩⟩
     apply Ct ((ol E).length-(k+1))
     ·simp only[ZG,seval,Bool.false_and,Prod.mk.injEq,Be,hI,hh,vL,bA,q0,ea,Jc,yM,g1,fa,Vb _ _ _ _ nL,hw];rfl
     ·exact⟨k+1,S,{ w with E:=some (L++[a])},_,by and_intros<;>(simp only[E8,seval,hI]<;>rfl),.inr ⟨_,L++[a],rfl,rfl,by simp only[E8,seval]<;>omega,by simp only[E8,seval]<;>rfl⟩,Nx,Cy,hC,by show (L++[a]).length≤k+1;rw[List.length_append,List.length_cons,List.length_nil];omega,by omega,rfl⟩
   ·have c39':=c39 hG.sd hG.up hG.sp a V hV (by omega)
    have k39:∀(st:St) (d:Option Nat),fK st (.agg (aB (wL S X)))=some (.agg (aB (wL S (ov dG w.E))))→aL (aC Tryz.prog) 39 [.agg (aB (wL S X)),.agg (iB a)] st d=some { dst:=d,val:=.eN [.v (.bool (Gm (wL S (ov dG w.E)) w a (ol V)).1),.v (.int .i64 (Gm (wL S (ov dG w.E)) w a (ol V)).2)]}:=by
     intro st d hx;rw[lF,List.map_cons,List.map_cons,List.map_nil,hx,dP fa,bP,bP,gL];exact p9 c39' (by intro x hx;simp only[List.mem_cons,List.not_mem_nil,or_false] at hx;rcases hx with rfl|rfl<;>exact .v _) (.eN _ (bH (.v _) (.v _)))
    have Qf:GI (wL (Qr S w a (ol V)) (ov dG w.E)) { w with L:=some (uB (ol w.L) a.target.aK a.root (ol V)).1 } q:=hG.cast a (ol V)
    have Cz:RG (wL (Qr S w a (ol V)) (ov dG w.E)) { w with L:=some (uB (ol w.L) a.target.aK a.root (ol V)).1 }:=⟨oJ.now,oJ.j,oJ.f,oJ.nd,oJ.or,oJ.rt,oJ.fe,oJ.ds,oJ.tb,⟨oJ.ne.q,oJ.ne.e,oJ.ne.o,oJ.ne.t,oJ.ne.ea,oJ.ne.tb⟩⟩
    rcases hX with ⟨rfl,Xi⟩|⟨g,L,Xi,rfl,hg,hh⟩
    ·have e0:ov dG w.E=.v (.slice none 0 0):=by rw[Xi];rfl
     have k39n:=fun st d=>k39 st d (by rw[e0];rw[e0] at fl9;exact dP fl9)
     by_cases g2:(Gm (wL S (ov dG w.E)) w a (ol V)).2=0
     case neg =>
      apply Ct ((ol E).length-(k+1))
      ·simp only[ZG,seval,Bool.false_and,Prod.mk.injEq,Be,hI,bA,q0,ea,Jc,yM,g1,k39n,eB,bf g2,hw];rfl
      ·exact⟨k+1,S,w,_,by and_intros<;>(simp only[E8,seval,hI]<;>rfl),.inl ⟨rfl,Xi⟩,hG,oJ,hC,by omega,by omega,rfl⟩
     have hr:∀x∈ol V,0≤x∧x<(ol w.L).length:=by rw[hG.MC];exact TV (GG g2)
     obtain⟨G,Qw⟩:=aEQ hG.sd (.v (.slice none 0 0)) a V hV (by omega) hr
     have kG:∀st,sH Tryz.prog 44 [.agg (aB (wL S (.v (.slice none 0 0)))),.agg (iB a)] st=some (.agg (aB (wL (Qr S w a (ol V)) (.v (.slice none 0 0)))),G st):=fun st=>(Qw st).1
     have f1:∀st:St,0<st.aP 1→(G st).heap 1 0=st.heap 1 0:=fun st h=>(Qw st).2.1 1 0 h
     have f2:∀st:St,0<st.aP 2→(G st).heap 2 0=st.heap 2 0:=fun st h=>(Qw st).2.1 2 0 h
     have c1:∀st:St,0<st.aP 1→(0<(G st).aP 1)=True:=fun st h=>eq_true (Nat.lt_of_lt_of_le h ((Qw st).2.2 1))
     have c2:∀st:St,0<st.aP 2→(0<(G st).aP 2)=True:=fun st h=>eq_true (Nat.lt_of_lt_of_le h ((Qw st).2.2 2))
     apply Ct ((ol E).length-(k+1))
     ·simp only[ZG,seval,Bool.false_and,Prod.mk.injEq,Be,hI,bA,q0,ea,Jc,yM,g1,k39n,eB,bt g2,aLF,kG,f1,cE,bE,bB,hw];rfl
     ·exact⟨k+1,Qr S w a (ol V),{ w with L:=some (uB (ol w.L) a.target.aK a.root (ol V)).1 },_,⟨by simp only[E8,seval,hI,cE],by simp only[E8,seval,hI,bE,bB]<;>rfl,by simp only[E8,seval,hI,cE],by simp only[E8,seval,hI,bE,bB,f2],by simp only[E8,seval,hI,cE],by simp only[E8,seval,hI,cE],by simp only[E8,seval,hI,bB,c1],by simp only[E8,seval,hI,bB,c2]⟩,.inl ⟨rfl,Xi⟩,Qf,Cz,hC,by show (ol w.E).length≤k+1;omega,by omega,rfl⟩
    ·have hLf:∀x∈L,Flat x.eY:=fun x hx=>(hG.sd.eV x (by rw[Xi];exact hx)).fl
     have k39o:∀(st:St) (d:Option Nat),st.heap 61 g=some (.row 87 67 L.length (dG L))→_:=fun st d h61=>k39 st d (by rw[Xi];exact Xg hG.sd hLf st h61)
     by_cases g2:(Gm (wL S (ov dG w.E)) w a (ol V)).2=0
     case neg =>
      apply Ct ((ol E).length-(k+1))
      ·simp only[ZG,seval,Bool.false_and,Prod.mk.injEq,Be,hI,hh,bA,q0,ea,Jc,yM,g1,k39o,eB,bf g2,hw];rfl
      ·exact⟨k+1,S,w,_,by and_intros<;>(simp only[E8,seval,hI]<;>rfl),.inr ⟨g,L,Xi,rfl,by simp only[E8,seval]<;>omega,by simp only[E8,seval,hh]⟩,hG,oJ,hC,by omega,by omega,rfl⟩
     have hr:∀x∈ol V,0≤x∧x<(ol w.L).length:=by rw[hG.MC];exact TV (GG g2)
     obtain⟨G,Qw⟩:=aEQ hG.sd (.own 61 g) a V hV (by omega) hr
     have kG:∀st,sH Tryz.prog 44 [.agg (aB (wL S (.own 61 g))),.agg (iB a)] st=some (.agg (aB (wL (Qr S w a (ol V)) (.own 61 g))),G st):=fun st=>(Qw st).1
     have f1:∀st:St,0<st.aP 1→(G st).heap 1 0=st.heap 1 0:=fun st h=>(Qw st).2.1 1 0 h
     have f2:∀st:St,0<st.aP 2→(G st).heap 2 0=st.heap 2 0:=fun st h=>(Qw st).2.1 2 0 h
     have f3:∀st:St,g<st.aP 61→(G st).heap 61 g=st.heap 61 g:=fun st h=>(Qw st).2.1 61 g h
     have c1:∀st:St,0<st.aP 1→(0<(G st).aP 1)=True:=fun st h=>eq_true (Nat.lt_of_lt_of_le h ((Qw st).2.2 1))
     have c2:∀st:St,0<st.aP 2→(0<(G st).aP 2)=True:=fun st h=>eq_true (Nat.lt_of_lt_of_le h ((Qw st).2.2 2))
     have c3:∀st:St,g<st.aP 61→(g<(G st).aP 61)=True:=fun st h=>eq_true (Nat.lt_of_lt_of_le h ((Qw st).2.2 61))
     apply Ct ((ol E).length-(k+1))
     ·simp only[ZG,seval,Bool.false_and,Prod.mk.injEq,Be,hI,hh,bA,q0,ea,Jc,yM,g1,k39o,eB,bt g2,aLF,kG,f1,cE,bE,bB,hw];rfl
     ·exact⟨k+1,Qr S w a (ol V),{ w with L:=some (uB (ol w.L) a.target.aK a.root (ol V)).1 },_,⟨by simp only[E8,seval,hI,cE],by simp only[E8,seval,hI,bE,bB]<;>rfl,by simp only[E8,seval,hI,cE],by simp only[E8,seval,hI,bE,bB,f2],by simp only[E8,seval,hI,cE],by simp only[E8,seval,hI,cE],by simp only[E8,seval,hI,bB,c1],by simp only[E8,seval,hI,bB,c2]⟩,.inr ⟨g,L,Xi,rfl,by simp only[E8,seval,bB,hg,c3],by simp only[E8,seval,bE,bB,hg,hh,f3]⟩,Qf,Cz,hC,by show (ol w.E).length≤k+1;omega,by omega,rfl⟩
 obtain⟨r,h,hq⟩:=key
 cases hx:wM Tryz.prog true Jd st with
 | none=>rw[hx] at h;cases h
 | some y=>rw[hx] at h;simp only[cZ,Option.some.injEq] at h;subst h;exact⟨y.1,y.2,rfl,hq⟩
theorem aQu {s:aO} {v:SV} {q:Int} (h:GI s v q) (r:RG s v):∃x,aC Tryz.prog 202 [.agg (aB s)]=some x∧StR s q x:=by
 have hz:=Iv
 have hf:=h.sd.flat
 have Mq:=h.sp
 rw[cG Tryz.func202 rfl aLH (by kernel_rfl) rfl]
 by_cases g1:1099511627776≤s.now
 ·simp only[ZG,seval,Bool.false_and,Prod.mk.injEq,Be,g1];exact⟨_,by apply dO;rfl;all_goals simp only[aI,bV,Z8,seval,hz]<;>rfl,gQ,3,rfl,hz,by decide,fun h=>by cases h⟩
 have hw:IntKind.u64.wrap (s.now+1)=s.now+1:=wrap_u64 _ (by have:=r.now.1;omega) (by have:=r.now.2;omega)
 obtain⟨s1,hs1⟩:∃s1:aO,s1={ s with now:=s.now+1,iI:=dL }:=⟨_,rfl⟩
 have h1:GI s1 v q:=by
  rw[hs1];exact⟨⟨h.sd.jN,h.sd.dQ,h.sd.gZ,h.sd.early,h.sd.bX,h.sd.tree,h.sd.tables,h.sd.eV,h.sd.tB,h.sd.nB,h.sd.nL,h.sd.nQ,h.sd.nE,h.sd.nO,h.sd.nT,h.sd.nn⟩,h.up,h.LD,h.pos,h.nl,h.TM,h.qS,h.MC,h.nB,h.nO,h.MD,h.nE,h.RX,h.nT,h.TN,h.nQ,h.N6,h.hU⟩
 have r1:RG s1 v:=by
  rw[hs1];exact⟨⟨by show 0≤s.now+1;have:=r.now.1;omega,by show s.now+1≤_;omega⟩,r.j,r.f,fun n hn=>⟨(r.nd n hn).1,by show n.block.slot≤s.now+1;have:=(r.nd n hn).2;omega⟩,r.or,r.rt,⟨r.fe.1,Int.le_trans r.fe.2 (show Dv s s.now≤Dv s (s.now+1) from MT h.qS.1 r.now.1 (by omega) (by have:=r.now.2;omega))⟩,r.ds,r.tb,r.ne⟩
 have c1:s1.cFg=s.cFg:=by rw[hs1]
 have nE:=h.nE
 have RX:=h.RX
 subst hs1;have uE:∀(S:aO) (w:SV) (a b:fS),(Hc S w a b).E=w.E:=fun S w a b=>by unfold Hc;split;rfl;split<;>rfl
 by_cases g2:(s.now+1).tmod s.cFg.qS=0
 case neg =>
  simp only[ZG,seval,Bool.false_and,Prod.mk.injEq,Be,g1,hw,Mq,bf g2,h.sd.early];refine Je (a:=Jd) (aCb s.cFg q) (Q6 (E:=v.E) h.sd.eV r.ne.ea (by omega) (by omega) (m:=(ol v.E).length) ⟨0,{ s with now:=s.now+1,iI:=dL },{ v with E:=none },.v (.slice none 0 0),⟨by simp only[E8,seval],by simp only[E8,seval]<;>rfl,by simp only[E8,seval],by simp only[E8,seval],by simp only[E8,seval],by simp only[E8,seval]<;>rfl,by simp only[E8,seval]<;>omega,by simp only[E8,seval]<;>omega⟩,.inl ⟨rfl,rfl⟩,h1.early none (by simp[ol]) (by show ((0:Nat):Int)≤_;rw[c1];omega),⟨r1.now,r1.j,r1.f,r1.nd,r1.or,r1.rt,r1.fe,r1.ds,r1.tb,⟨r1.ne.q,nofun,r1.ne.o,r1.ne.t,(fun a ha=>by cases ha),r1.ne.tb⟩⟩,c1,by simp[ol],by omega,by omega⟩) ?rest
  rintro e st ⟨rfl,S,w,X,hI,hX,hG,oJ,hC⟩
  have BD:=hG.sd.flat
  rcases hX with ⟨rfl,Xi⟩|⟨g,L,Xi,rfl,hh⟩
  ·rw[Xi] at BD hG oJ;have hf1:Flat (.agg (aB (wL S (.v (.slice none 0 0))))):=BD
   simp only[ZG,seval,Bool.false_and,Prod.mk.injEq,Be,hI];exact⟨_,by apply dO;rfl;all_goals simp only[aI,bV,Z8,seval,hI,hf1]<;>rfl,_,0,rfl,hf1,by decide,fun _=>⟨w,hG,oJ,hC⟩⟩
  ·have hLf:∀x∈L,Flat x.eY:=fun x hx=>(hG.sd.eV x (by rw[Xi];exact hx)).fl
   have hex:∀st:St,st.heap 61 g=some (.row 87 67 L.length (dG L))→fK st (.agg (aB (wL S (.own 61 g))))=some (.agg (aB (wL S (ov dG (some L))))):=fun st hh=>Xg hG.sd hLf st hh
   rw[Xi] at BD hG oJ;simp only[ZG,seval,Bool.false_and,Prod.mk.injEq,Be,hI];exact⟨_,by apply dO;rfl;all_goals simp only[aI,bV,Z8,seval,hI,hh,hex]<;>rfl,_,0,rfl,BD,by decide,fun _=>⟨w,hG,oJ,hC⟩⟩
 have k67':=k67 h1.sd
 have pv:=aCa fun n hn=>(r1.nd n hn).1
 have k61':=k61 h1.sd h1.up h1.sp (Jm v.ns).pj (Jm v.ns).pf
 have h2:=h1.dK (Jm v.ns).pj (Jm v.ns).pf
 have r2:=RG.dK r1 pv.1 pv.2
 have c2:=wK { s with now:=s.now+1,iI:=dL } v (Jm v.ns).pj (Jm v.ns).pf
 have e2:=h2.sd.early
 rw[uE] at e2;obtain⟨S2,hS2⟩:∃S2,xD { s with now:=s.now+1,iI:=dL } v (Jm v.ns).pj (Jm v.ns).pf=S2:=⟨_,rfl⟩
 rw[hS2] at k61' h2 r2 c2 e2
 have c3:S2.cFg=s.cFg:=c2
 simp only[ZG,seval,Bool.false_and,Prod.mk.injEq,Be,g1,hw,Mq,bt g2,k67',k61',e2];refine Je (a:=Jd) (aCb s.cFg q) (Q6 (E:=v.E) h.sd.eV r.ne.ea (by omega) (by omega) (m:=(ol v.E).length) ⟨0,S2,{ Hc { s with now:=s.now+1,iI:=dL } v (Jm v.ns).pj (Jm v.ns).pf with E:=none },.v (.slice none 0 0),⟨by simp only[E8,seval],by simp only[E8,seval]<;>rfl,by simp only[E8,seval],by simp only[E8,seval],by simp only[E8,seval],by simp only[E8,seval]<;>rfl,by simp only[E8,seval]<;>omega,by simp only[E8,seval]<;>omega⟩,.inl ⟨rfl,rfl⟩,h2.early none (by simp[ol]) (by show ((0:Nat):Int)≤_;rw[c3];omega),⟨r2.now,r2.j,r2.f,r2.nd,r2.or,r2.rt,r2.fe,r2.ds,r2.tb,⟨r2.ne.q,nofun,r2.ne.o,r2.ne.t,(fun a ha=>by cases ha),r2.ne.tb⟩⟩,c3,by simp[ol],by omega,by omega⟩) ?ME
 rintro e st ⟨rfl,S,w,X,hI,hX,hG,oJ,hC⟩
 have BD:=hG.sd.flat
 rcases hX with ⟨rfl,Xi⟩|⟨g,L,Xi,rfl,hh⟩
 ·rw[Xi] at BD hG oJ;have hf1:Flat (.agg (aB (wL S (.v (.slice none 0 0))))):=BD
  simp only[ZG,seval,Bool.false_and,Prod.mk.injEq,Be,hI];exact⟨_,by apply dO;rfl;all_goals simp only[aI,bV,Z8,seval,hI,hf1]<;>rfl,_,0,rfl,hf1,by decide,fun _=>⟨w,hG,oJ,hC⟩⟩
 ·have hLf:∀x∈L,Flat x.eY:=fun x hx=>(hG.sd.eV x (by rw[Xi];exact hx)).fl
  have hex:∀st:St,st.heap 61 g=some (.row 87 67 L.length (dG L))→fK st (.agg (aB (wL S (.own 61 g))))=some (.agg (aB (wL S (ov dG (some L))))):=fun st hh=>Xg hG.sd hLf st hh
  rw[Xi] at BD hG oJ;simp only[ZG,seval,Bool.false_and,Prod.mk.injEq,Be,hI];exact⟨_,by apply dO;rfl;all_goals simp only[aI,bV,Z8,seval,hI,hh,hex]<;>rfl,_,0,rfl,BD,by decide,fun _=>⟨w,hG,oJ,hC⟩⟩
def Da (t:State) (X Y:AV) (tag:Int):State:={ t with dN:=X,kH:=Y,cT:=tag }
theorem aLI:aE 0 3 (some 3)=[]∧aE 1 8 (some 8)=[]∧aE 2 8 (some 14)=[]∧aE 3 5 (some 21)=[]∧aE 4 2 (some 25)=[]:=⟨rfl,rfl,rfl,rfl,rfl⟩
theorem aET (t:State) (Y:AV) (o:Option (List Request)) (tag:Int) (hn:((ol o).length:Int)<1000000) (r:cK) (n:Int) :
 ∃G:St→St,∀st,sH Tryz.prog 86 [.agg (aF (Da t (ov aA o) Y tag)),.agg (aX r),.v (.int .i64 n)] st=some (.agg (aF (Da t (.own 19 (st.aP 19)) Y (IntKind.u64.wrap (tag+1)))),G st)∧Gb st (G st)∧(G st).heap 19 (st.aP 19)=some (.row 63 35 (ol o++[(⟨⟨tag⟩,r,n,0⟩:Request)]).length (aA (ol o++[(⟨⟨tag⟩,r,n,0⟩:Request)])))∧st.aP 19<(G st).aP 19:=by
 have one:∀st,∃st',sH Tryz.prog 86 [.agg (aF (Da t (ov aA o) Y tag)),.agg (aX r),.v (.int .i64 n)] st=some (.agg (aF (Da t (.own 19 (st.aP 19)) Y (IntKind.u64.wrap (tag+1)))),st')∧Gb st (st')∧(st').heap 19 (st.aP 19)=some (.row 63 35 (ol o++[(⟨⟨tag⟩,r,n,0⟩:Request)]).length (aA (ol o++[(⟨⟨tag⟩,r,n,0⟩:Request)])))∧st.aP 19<(st').aP 19:=by
  intro st;by_cases hy:True
  case neg=>exact⟨st,absurd trivial hy⟩
  suffices h:∃st',sH Tryz.prog 86 [.agg (aF (Da t (ov aA o) Y tag)),.agg (aX r),.v (.int .i64 n)] st=some (.agg (aF (Da t (.own 19 (st.aP 19)) Y (IntKind.u64.wrap (tag+1)))),st')∧Gb st (st')∧(st').heap 19 (st.aP 19)=some (.row 63 35 (ol o++[(⟨⟨tag⟩,r,n,0⟩:Request)]).length (aA (ol o++[(⟨⟨tag⟩,r,n,0⟩:Request)])))∧st.aP 19<(st').aP 19 by
   obtain⟨st',h⟩:=h
   exact⟨st',h⟩
  have e1:(Da t (ov aA o) Y tag).dN=ov aA o:=rfl
  have e2:(Da t (ov aA o) Y tag).cT=tag:=rfl
  have zR:bN.due=0:=rfl
  rw[Jb Tryz.prog Tryz.func86 rfl (by kernel_rfl)]
  simp only[ZG,seval,Bool.false_and,Prod.mk.injEq,aLI,e1,e2,zR,qV _ hn,tF _ _ _ _ hn];refine⟨_,Cx (P:=Tryz.prog) (fn:=Tryz.f86) (r:=.cell 6 58) (x:=.agg (aF (Da t (.own 19 (st.aP 19)) Y (IntKind.u64.wrap (tag+1))))) (.inl rfl) rfl ?h1,⟨fun x g hg=>?h2,fun x=>?h3⟩, ?h4, ?h5⟩
  case h1 =>
   rw[tU];simp only[bV,Z8,seval];rfl
  case h2 =>
   have n3:(x=3∧g=st.aP 3)=False:=eq_false (by rintro⟨rfl,rfl⟩;omega)
   have n4:(x=4∧g=st.aP 4)=False:=eq_false (by rintro⟨rfl,rfl⟩;omega)
   have n6:(x=6∧g=st.aP 6)=False:=eq_false (by rintro⟨rfl,rfl⟩;omega)
   have n7:(x=7∧g=st.aP 7)=False:=eq_false (by rintro⟨rfl,rfl⟩;omega)
   have n16:(x=16∧g=st.aP 16)=False:=eq_false (by rintro⟨rfl,rfl⟩;omega)
   have n18:(x=18∧g=st.aP 18)=False:=eq_false (by rintro⟨rfl,rfl⟩;omega)
   have n19:(x=19∧g=st.aP 19)=False:=eq_false (by rintro⟨rfl,rfl⟩;omega)
   simp only[E8,seval,bE,bB,n3,n4,n6,n7,n16,n18,n19,if_false]
  case h3 =>
   simp only[E8,seval,bE,bB];split<;>(try split)<;>(try split)<;>(try split)<;>(try split)<;>(try split)<;>(try split)<;>subst_vars<;>omega
  case h4=>simp only[E8,seval,bE,bB]
  case h5=>simp only[E8,seval,bE,bB]<;>omega
 exact⟨fun st=>Classical.choose (one st),fun st=>Classical.choose_spec (one st)⟩
theorem Q7 (t:State) (Y:AV) (g0:Nat) (L:List Request) (tag:Int) (hn:((L).length:Int)<1000000) (r:cK) (n:Int) :
 ∃G:St→St,∀st,(st.heap 19 g0=some (.row 63 35 L.length (aA L))∧g0<st.aP 19)→sH Tryz.prog 86 [.agg (aF (Da t (.own 19 g0) Y tag)),.agg (aX r),.v (.int .i64 n)] st=some (.agg (aF (Da t (.own 19 (st.aP 19)) Y (IntKind.u64.wrap (tag+1)))),G st)∧Gb st (G st)∧(G st).heap 19 (st.aP 19)=some (.row 63 35 (L++[(⟨⟨tag⟩,r,n,0⟩:Request)]).length (aA (L++[(⟨⟨tag⟩,r,n,0⟩:Request)])))∧st.aP 19<(G st).aP 19:=by
 have one:∀st,∃st',(st.heap 19 g0=some (.row 63 35 L.length (aA L))∧g0<st.aP 19)→sH Tryz.prog 86 [.agg (aF (Da t (.own 19 g0) Y tag)),.agg (aX r),.v (.int .i64 n)] st=some (.agg (aF (Da t (.own 19 (st.aP 19)) Y (IntKind.u64.wrap (tag+1)))),st')∧Gb st (st')∧(st').heap 19 (st.aP 19)=some (.row 63 35 (L++[(⟨⟨tag⟩,r,n,0⟩:Request)]).length (aA (L++[(⟨⟨tag⟩,r,n,0⟩:Request)])))∧st.aP 19<(st').aP 19:=by
  intro st;by_cases hy:(st.heap 19 g0=some (.row 63 35 L.length (aA L))∧g0<st.aP 19)
  case neg=>exact⟨st,fun h=>absurd h hy⟩
  suffices h:∃st',sH Tryz.prog 86 [.agg (aF (Da t (.own 19 g0) Y tag)),.agg (aX r),.v (.int .i64 n)] st=some (.agg (aF (Da t (.own 19 (st.aP 19)) Y (IntKind.u64.wrap (tag+1)))),st')∧Gb st (st')∧(st').heap 19 (st.aP 19)=some (.row 63 35 (L++[(⟨⟨tag⟩,r,n,0⟩:Request)]).length (aA (L++[(⟨⟨tag⟩,r,n,0⟩:Request)])))∧st.aP 19<(st').aP 19 by
   obtain⟨st',h⟩:=h
   exact⟨st',fun _=>h⟩
  have e1:(Da t (.own 19 g0) Y tag).dN=.own 19 g0:=rfl
  have e2:(Da t (.own 19 g0) Y tag).cT=tag:=rfl
  have zR:bN.due=0:=rfl
  have vL:(g0=st.aP 19)=False:=eq_false (by have:=hy.2;omega)
  rw[Jb Tryz.prog Tryz.func86 rfl (by kernel_rfl)]
  simp only[ZG,seval,Bool.false_and,Prod.mk.injEq,aLI,e1,e2,zR,hy.1,vL,qV _ hn,tF _ _ _ _ hn];refine⟨_,Cx (P:=Tryz.prog) (fn:=Tryz.f86) (r:=.cell 6 58) (x:=.agg (aF (Da t (.own 19 (st.aP 19)) Y (IntKind.u64.wrap (tag+1))))) (.inl rfl) rfl ?h1,⟨fun x g hg=>?h2,fun x=>?h3⟩, ?h4, ?h5⟩
  case h1 =>
   rw[tU];simp only[bV,Z8,seval];rfl
  case h2 =>
   have n3:(x=3∧g=st.aP 3)=False:=eq_false (by rintro⟨rfl,rfl⟩;omega)
   have n4:(x=4∧g=st.aP 4)=False:=eq_false (by rintro⟨rfl,rfl⟩;omega)
   have n6:(x=6∧g=st.aP 6)=False:=eq_false (by rintro⟨rfl,rfl⟩;omega)
   have n7:(x=7∧g=st.aP 7)=False:=eq_false (by rintro⟨rfl,rfl⟩;omega)
   have n16:(x=16∧g=st.aP 16)=False:=eq_false (by rintro⟨rfl,rfl⟩;omega)
   have n18:(x=18∧g=st.aP 18)=False:=eq_false (by rintro⟨rfl,rfl⟩;omega)
   have n19:(x=19∧g=st.aP 19)=False:=eq_false (by rintro⟨rfl,rfl⟩;omega)
   simp only[E8,seval,bE,bB,n3,n4,n6,n7,n16,n18,n19,if_false]
  case h3 =>
   simp only[E8,seval,bE,bB];split<;>(try split)<;>(try split)<;>(try split)<;>(try split)<;>(try split)<;>(try split)<;>subst_vars<;>omega
  case h4=>simp only[E8,seval,bE,bB]
  case h5=>simp only[E8,seval,bE,bB]<;>omega
 exact⟨fun st=>Classical.choose (one st),fun st=>Classical.choose_spec (one st)⟩
end Go.Ab.Tryz
