/-
  Part 14 of the proof: an evaluator of programs, its soundness, and what functions of this program compute.
-/
import Derived.Test.YtmcjkemalibacaaGreatK13
import Derived.Test.YtmcjkemalibacaaGreatK12
set_option linter.all false
set_option maxRecDepth 20000
set_option maxHeartbeats 40000000
namespace Go.Ab.Tryz
open Classical Go.Proofs Go.Ab
theorem x37 {s:aN} {v:SV} {q:Int} (h:GI s v q) (r:RG s v) (hB:0<(ol v.B).length∧(ol v.B).length≤64) (k:Int) (hk:0≤k):∃x,aD Tryz.prog 37 [.agg (aB s),.v (.int .i64 k)]=some x∧∃(a:rQ) (V:List Int),x=.agg (iF a)∧a.eK=ov aJ (some V)∧(V.length:Int)≤1000∧Rg a.slot∧Rg a.target.aK:=by
 have hn:=h.sd.nn
 have hp:(0:Int)<(v.ns.length:Int):=by have:=h.pos;omega
 have gN:¬((v.ns.length:Int)=0):=by omega
 obtain⟨m1,m2⟩:=eC (n:=(v.ns.length:Int)) hk hp
 obtain⟨i,hi⟩:∃i,k.tmod (v.ns.length:Int)=i:=⟨_,rfl⟩
 rw[hi] at m1 m2;obtain⟨m3,m4⟩:=eC (n:=(v.ns.length:Int)) (zW hk (min 4 IntKind.i64.bits)) hp
 have Lz:=h.sp
 obtain⟨l,kl,hl⟩:=k45 (ol v.B).length ((k).fdiv (2 ^ min 3 IntKind.i64.bits)) (by omega) (by omega)
 have nl:(l.length:Int)<1000000:=by omega
 have rn:Rg s.now:=⟨r.now.1,by have:=r.now.2;omega⟩
 rw[cL Tryz.func37 rfl aPa rfl];by_cases g1:0<((((k).fdiv (2 ^ min 9 IntKind.i64.bits))).tmod 4)
 case neg =>
  obtain⟨y,hy,c,rfl,rc⟩:=x92 h r i (IntKind.u64.wrap ((s.now).tdiv s.cFg.qG)) (jM _)
  have Qd:=kx hy (mC h.sd.flat (.v _) (.v _)) (.agg _ (dA _))
  by_cases d0:((((k).fdiv (2 ^ min 12 IntKind.i64.bits))).tmod 20)=0
  ·simp only[Z8,seval,h.sd.tree,h.sd.jH,gN,hi,m1,m2,kl,g1,Lz,Qd,bt d0];exact⟨_,by apply dY;rfl;all_goals simp only[aI,Z8,seval,bO,lG,bC,cE,jL,dU]<;>rfl,_,l,rfl,rfl,by omega,rn,jM _⟩
  by_cases d1:((((k).fdiv (2 ^ min 12 IntKind.i64.bits))).tmod 20)=1
  ·simp only[Z8,seval,h.sd.tree,h.sd.jH,gN,hi,m1,m2,kl,g1,Lz,Qd,bf d0,bt d1,Pp];exact⟨_,by apply dY;rfl;all_goals simp only[aI,Z8,seval,bO,lG,bC,cE,jL,dU]<;>rfl,_,l,rfl,rfl,by omega,rn,rc⟩
  by_cases d2:((((k).fdiv (2 ^ min 12 IntKind.i64.bits))).tmod 20)=2
  ·simp only[Z8,seval,h.sd.tree,h.sd.jH,gN,hi,m1,m2,kl,g1,Lz,Qd,bf d0,bf d1,bt d2,m3,m4];exact⟨_,by apply dY;rfl;all_goals simp only[aI,Z8,seval,bO,lG,bC,cE,jL,dU]<;>rfl,_,l,rfl,rfl,by omega,rn,rc⟩
  by_cases d3:((((k).fdiv (2 ^ min 12 IntKind.i64.bits))).tmod 20)=3
  ·simp only[Z8,seval,h.sd.tree,h.sd.jH,gN,hi,m1,m2,kl,g1,Lz,Qd,bf d0,bf d1,bf d2,bt d3];exact⟨_,by apply dY;rfl;all_goals simp only[aI,Z8,seval,bO,lG,bC,cE,jL,dU]<;>rfl,_,l,rfl,rfl,by omega,jM _,rc⟩
  by_cases d4:((((k).fdiv (2 ^ min 12 IntKind.i64.bits))).tmod 20)=4
  ·simp only[Z8,seval,h.sd.tree,h.sd.jH,gN,hi,m1,m2,kl,g1,Lz,Qd,bf d0,bf d1,bf d2,bf d3,bt d4,Dy _ _ _ _ nl];exact⟨_,by apply dY;rfl;all_goals simp only[aI,Z8,seval,bO,lG,bC,cE,jL,dU]<;>rfl,_,l++[((((k).fdiv (2 ^ min 17 IntKind.i64.bits))).tmod 9)],rfl,rfl,by rw[List.length_append,List.length_cons,List.length_nil];omega,rn,rc⟩
  simp only[Z8,seval,h.sd.tree,h.sd.jH,gN,hi,m1,m2,kl,g1,Lz,Qd,bf d0,bf d1,bf d2,bf d3,bf d4];exact⟨_,by apply dY;rfl;all_goals simp only[aI,Z8,seval,bO,lG,bC,cE,jL,dU]<;>rfl,_,l,rfl,rfl,by omega,rn,rc⟩
 by_cases g2:0<s.now
 case neg =>
  obtain⟨y,hy,c,rfl,rc⟩:=x92 h r i (IntKind.u64.wrap ((s.now).tdiv s.cFg.qG)) (jM _)
  have Qd:=kx hy (mC h.sd.flat (.v _) (.v _)) (.agg _ (dA _))
  by_cases d0:((((k).fdiv (2 ^ min 12 IntKind.i64.bits))).tmod 20)=0
  ·simp only[Z8,seval,h.sd.tree,h.sd.jH,gN,hi,m1,m2,kl,g1,g2,Lz,Qd,bt d0];exact⟨_,by apply dY;rfl;all_goals simp only[aI,Z8,seval,bO,lG,bC,cE,jL,dU]<;>rfl,_,l,rfl,rfl,by omega,rn,jM _⟩
  by_cases d1:((((k).fdiv (2 ^ min 12 IntKind.i64.bits))).tmod 20)=1
  ·simp only[Z8,seval,h.sd.tree,h.sd.jH,gN,hi,m1,m2,kl,g1,g2,Lz,Qd,bf d0,bt d1,Pp];exact⟨_,by apply dY;rfl;all_goals simp only[aI,Z8,seval,bO,lG,bC,cE,jL,dU]<;>rfl,_,l,rfl,rfl,by omega,rn,rc⟩
  by_cases d2:((((k).fdiv (2 ^ min 12 IntKind.i64.bits))).tmod 20)=2
  ·simp only[Z8,seval,h.sd.tree,h.sd.jH,gN,hi,m1,m2,kl,g1,g2,Lz,Qd,bf d0,bf d1,bt d2,m3,m4];exact⟨_,by apply dY;rfl;all_goals simp only[aI,Z8,seval,bO,lG,bC,cE,jL,dU]<;>rfl,_,l,rfl,rfl,by omega,rn,rc⟩
  by_cases d3:((((k).fdiv (2 ^ min 12 IntKind.i64.bits))).tmod 20)=3
  ·simp only[Z8,seval,h.sd.tree,h.sd.jH,gN,hi,m1,m2,kl,g1,g2,Lz,Qd,bf d0,bf d1,bf d2,bt d3];exact⟨_,by apply dY;rfl;all_goals simp only[aI,Z8,seval,bO,lG,bC,cE,jL,dU]<;>rfl,_,l,rfl,rfl,by omega,jM _,rc⟩
  by_cases d4:((((k).fdiv (2 ^ min 12 IntKind.i64.bits))).tmod 20)=4
  ·simp only[Z8,seval,h.sd.tree,h.sd.jH,gN,hi,m1,m2,kl,g1,g2,Lz,Qd,bf d0,bf d1,bf d2,bf d3,bt d4,Dy _ _ _ _ nl];exact⟨_,by apply dY;rfl;all_goals simp only[aI,Z8,seval,bO,lG,bC,cE,jL,dU]<;>rfl,_,l++[((((k).fdiv (2 ^ min 17 IntKind.i64.bits))).tmod 9)],rfl,rfl,by rw[List.length_append,List.length_cons,List.length_nil];omega,rn,rc⟩
  simp only[Z8,seval,h.sd.tree,h.sd.jH,gN,hi,m1,m2,kl,g1,g2,Lz,Qd,bf d0,bf d1,bf d2,bf d3,bf d4];exact⟨_,by apply dY;rfl;all_goals simp only[aI,Z8,seval,bO,lG,bC,cE,jL,dU]<;>rfl,_,l,rfl,rfl,by omega,rn,rc⟩
 obtain⟨y,hy,c,rfl,rc⟩:=x92 h r i (IntKind.u64.wrap ((IntKind.u64.wrap (s.now-1)).tdiv s.cFg.qG)) (jM _)
 have Qd:=kx hy (mC h.sd.flat (.v _) (.v _)) (.agg _ (dA _))
 by_cases d0:((((k).fdiv (2 ^ min 12 IntKind.i64.bits))).tmod 20)=0
 ·simp only[Z8,seval,h.sd.tree,h.sd.jH,gN,hi,m1,m2,kl,g1,g2,Lz,Qd,bt d0];exact⟨_,by apply dY;rfl;all_goals simp only[aI,Z8,seval,bO,lG,bC,cE,jL,dU]<;>rfl,_,l,rfl,rfl,by omega,jM _,jM _⟩
 by_cases d1:((((k).fdiv (2 ^ min 12 IntKind.i64.bits))).tmod 20)=1
 ·simp only[Z8,seval,h.sd.tree,h.sd.jH,gN,hi,m1,m2,kl,g1,g2,Lz,Qd,bf d0,bt d1,Pp];exact⟨_,by apply dY;rfl;all_goals simp only[aI,Z8,seval,bO,lG,bC,cE,jL,dU]<;>rfl,_,l,rfl,rfl,by omega,jM _,rc⟩
 by_cases d2:((((k).fdiv (2 ^ min 12 IntKind.i64.bits))).tmod 20)=2
 ·simp only[Z8,seval,h.sd.tree,h.sd.jH,gN,hi,m1,m2,kl,g1,g2,Lz,Qd,bf d0,bf d1,bt d2,m3,m4];exact⟨_,by apply dY;rfl;all_goals simp only[aI,Z8,seval,bO,lG,bC,cE,jL,dU]<;>rfl,_,l,rfl,rfl,by omega,jM _,rc⟩
 by_cases d3:((((k).fdiv (2 ^ min 12 IntKind.i64.bits))).tmod 20)=3
 ·simp only[Z8,seval,h.sd.tree,h.sd.jH,gN,hi,m1,m2,kl,g1,g2,Lz,Qd,bf d0,bf d1,bf d2,bt d3];exact⟨_,by apply dY;rfl;all_goals simp only[aI,Z8,seval,bO,lG,bC,cE,jL,dU]<;>rfl,_,l,rfl,rfl,by omega,jM _,rc⟩
 by_cases d4:((((k).fdiv (2 ^ min 12 IntKind.i64.bits))).tmod 20)=4
 ·simp only[Z8,seval,h.sd.tree,h.sd.jH,gN,hi,m1,m2,kl,g1,g2,Lz,Qd,bf d0,bf d1,bf d2,bf d3,bt d4,Dy _ _ _ _ nl];exact⟨_,by apply dY;rfl;all_goals simp only[aI,Z8,seval,bO,lG,bC,cE,jL,dU]<;>rfl,_,l++[((((k).fdiv (2 ^ min 17 IntKind.i64.bits))).tmod 9)],rfl,rfl,by rw[List.length_append,List.length_cons,List.length_nil];omega,jM _,rc⟩
 simp only[Z8,seval,h.sd.tree,h.sd.jH,gN,hi,m1,m2,kl,g1,g2,Lz,Qd,bf d0,bf d1,bf d2,bf d3,bf d4];exact⟨_,by apply dY;rfl;all_goals simp only[aI,Z8,seval,bO,lG,bC,cE,jL,dU]<;>rfl,_,l,rfl,rfl,by omega,jM _,rc⟩
theorem iK {call:Nat→List AV→Option AV} {ops:Array Oper} {st:St} {T:Nat} {pos:String} {eG:Array Edge} (d:Nat):cB Tryz.prog call ops ⟨some d,.buildSlice 22 6 #[(0,.const (.int .i64 1)),(1,.const (.int .i64 1)),(2,.const (.int .i64 2)),(3,.const (.int .i64 2)),(4,.const (.int .i64 3)),(5,.const (.int .i64 4))],T,pos,eG,none⟩ st =
 some ((st.new d (.row 3 1 6 (aJ [1,1,2,2,3,4]))).put (some d) (.own d (st.aO d))):=by
 rw[kE];simp[Kg,ze3,cH,St.ev,AV.jG,Value.oneCell',gJ,AV.cells,List.range,List.range.loop,aJ,pK]
theorem x25 {t:State} {v:SV} {Q R:Option (List Request)} {q:Int} (hT:TD t v Q R) (h:GI t.store v q) (hq:∀r∈ol Q,Rg r.tagged.tag) (k:Int) (hk:0≤k):∃x,aD Tryz.prog 25 [.agg (aF t),.v (.int .i64 k)]=some x∧∃w:eR,x=.agg (bU w)∧Rg w.tagged.tag:=by
 have hn:=h.sd.nn
 have hp:(0:Int)<(v.ns.length:Int):=by have:=h.pos;omega
 have gN:¬((v.ns.length:Int)=0):=by omega
 obtain⟨m1,m2⟩:=eC (n:=(v.ns.length:Int)) hk hp
 obtain⟨j0,j1⟩:=eC (n:=6) (zW hk (min 4 IntKind.i64.bits)) (by omega)
 obtain⟨j,hj⟩:∃j,((((k).fdiv (2 ^ min 4 IntKind.i64.bits))).tmod 6)=j:=⟨_,rfl⟩
 rw[hj] at j0 j1;have g6:=oR (l:=[1,1,2,2,3,4]) j0 (by show j<((6:Nat):Int);omega)
 have fv:∀w:eR,Flat (.agg (bU w))=True:=fun w=>eq_true (.agg _ (fV w))
 have F3:=jM (k.tmod 9)
 rw[cG Tryz.func25 rfl aPb (by kernel_rfl) rfl]
 by_cases g1:(0:Int)<((ol Q).length:Int)
 case neg =>
  by_cases p0:0≤aM v.ns ((nd v.ns (k.tmod (v.ns.length:Int))).block.root)
  case neg =>
   have kp:=fun st d=>YT v.ns (aM v.ns ((nd v.ns (k.tmod (v.ns.length:Int))).block.root)) (fun hh=>p0 hh.1) st d
   by_cases e2:((((k).fdiv (2 ^ min 14 IntKind.i64.bits))).tmod 16)=0
   ·simp only[ZG,seval,Bool.false_and,Prod.mk.injEq,Fo,iK,hj,j0,j1,g6,hT.Ak,h.sd.tree,gN,m1,m2,mA _ _ hn,g1,kp,bt e2,Pp];exact⟨_,eU rfl (by simp only[E8,seval,fv]<;>rfl) (by simp only[Z8,seval,fv]<;>rfl) (by simp only[dU,and_self,fv]),_,rfl,F3⟩
   simp only[ZG,seval,Bool.false_and,Prod.mk.injEq,Fo,iK,hj,j0,j1,g6,hT.Ak,h.sd.tree,gN,m1,m2,mA _ _ hn,g1,kp,bf e2];exact⟨_,eU rfl (by simp only[E8,seval,fv]<;>rfl) (by simp only[Z8,seval,fv]<;>rfl) (by simp only[dU,and_self,fv]),_,rfl,F3⟩
  have pr:=fB v.ns ((nd v.ns (k.tmod (v.ns.length:Int))).block.root)
  have kp:=fun st d=>k76 v.ns h.up hn (aM v.ns ((nd v.ns (k.tmod (v.ns.length:Int))).block.root)) p0 pr.2 st d
  have pm:=xM h.up p0 pr.2
  have prg:∀x∈path v.ns (aM v.ns ((nd v.ns (k.tmod (v.ns.length:Int))).block.root)),0≤x∧x<v.ns.length:=fun x hx=>uM h.up hx
  have pl:=zX h.up (aM v.ns ((nd v.ns (k.tmod (v.ns.length:Int))).block.root))
  obtain⟨p,ep⟩:∃p,path v.ns (aM v.ns ((nd v.ns (k.tmod (v.ns.length:Int))).block.root))=p:=⟨_,rfl⟩
  rw[ep] at kp pm prg pl;have l0:(0:Int)<(p.length:Int):=by have:=List.length_pos_of_mem pm;omega
  have lne:¬((p.length:Int)=0):=by omega
  by_cases e1:0<((((k).fdiv (2 ^ min 14 IntKind.i64.bits))).tmod 4)
  case neg =>
   by_cases e2:((((k).fdiv (2 ^ min 14 IntKind.i64.bits))).tmod 16)=0
   ·simp only[ZG,seval,Bool.false_and,Prod.mk.injEq,Fo,iK,hj,j0,j1,g6,hT.Ak,h.sd.tree,gN,m1,m2,mA _ _ hn,g1,kp,l0,e1,bt e2,Pp];exact⟨_,eU rfl (by simp only[E8,seval,fv]<;>rfl) (by simp only[Z8,seval,fv]<;>rfl) (by simp only[dU,and_self,fv]),_,rfl,F3⟩
   simp only[ZG,seval,Bool.false_and,Prod.mk.injEq,Fo,iK,hj,j0,j1,g6,hT.Ak,h.sd.tree,gN,m1,m2,mA _ _ hn,g1,kp,l0,e1,bf e2];exact⟨_,eU rfl (by simp only[E8,seval,fv]<;>rfl) (by simp only[Z8,seval,fv]<;>rfl) (by simp only[dU,and_self,fv]),_,rfl,F3⟩
  obtain⟨x1,x2⟩:=eC (n:=(p.length:Int)) (zW hk (min 16 IntKind.i64.bits)) l0
  obtain⟨y,hy⟩:∃y,((((k).fdiv (2 ^ min 16 IntKind.i64.bits))).tmod (p.length:Int))=y:=⟨_,rfl⟩
  rw[hy] at x1 x2;have gp:=oR x1 x2
  obtain⟨z1,z2⟩:=prg (it p y) (by obtain⟨h1,h2⟩:=wI x1 x2;rw[h2];exact List.getElem_mem h1)
  by_cases e2:((((k).fdiv (2 ^ min 14 IntKind.i64.bits))).tmod 16)=0
  ·simp only[ZG,seval,Bool.false_and,Prod.mk.injEq,Fo,iK,hj,j0,j1,g6,hT.Ak,h.sd.tree,gN,m1,m2,mA _ _ hn,g1,kp,l0,lne,e1,hy,x1,x2,gp,z1,z2,bt e2,Pp];exact⟨_,eU rfl (by simp only[E8,seval,fv]<;>rfl) (by simp only[Z8,seval,fv]<;>rfl) (by simp only[dU,and_self,fv]),_,rfl,F3⟩
  simp only[ZG,seval,Bool.false_and,Prod.mk.injEq,Fo,iK,hj,j0,j1,g6,hT.Ak,h.sd.tree,gN,m1,m2,mA _ _ hn,g1,kp,l0,lne,e1,hy,x1,x2,gp,z1,z2,bf e2];exact⟨_,eU rfl (by simp only[E8,seval,fv]<;>rfl) (by simp only[Z8,seval,fv]<;>rfl) (by simp only[dU,and_self,fv]),_,rfl,F3⟩
 by_cases g2:0<((((k).fdiv (2 ^ min 8 IntKind.i64.bits))).tmod 8)
 case neg =>
  by_cases p0:0≤aM v.ns ((nd v.ns (k.tmod (v.ns.length:Int))).block.root)
  case neg =>
   have kp:=fun st d=>YT v.ns (aM v.ns ((nd v.ns (k.tmod (v.ns.length:Int))).block.root)) (fun hh=>p0 hh.1) st d
   by_cases e2:((((k).fdiv (2 ^ min 14 IntKind.i64.bits))).tmod 16)=0
   ·simp only[ZG,seval,Bool.false_and,Prod.mk.injEq,Fo,iK,hj,j0,j1,g6,hT.Ak,h.sd.tree,gN,m1,m2,mA _ _ hn,g1,g2,kp,bt e2,Pp];exact⟨_,eU rfl (by simp only[E8,seval,fv]<;>rfl) (by simp only[Z8,seval,fv]<;>rfl) (by simp only[dU,and_self,fv]),_,rfl,F3⟩
   simp only[ZG,seval,Bool.false_and,Prod.mk.injEq,Fo,iK,hj,j0,j1,g6,hT.Ak,h.sd.tree,gN,m1,m2,mA _ _ hn,g1,g2,kp,bf e2];exact⟨_,eU rfl (by simp only[E8,seval,fv]<;>rfl) (by simp only[Z8,seval,fv]<;>rfl) (by simp only[dU,and_self,fv]),_,rfl,F3⟩
  have pr:=fB v.ns ((nd v.ns (k.tmod (v.ns.length:Int))).block.root)
  have kp:=fun st d=>k76 v.ns h.up hn (aM v.ns ((nd v.ns (k.tmod (v.ns.length:Int))).block.root)) p0 pr.2 st d
  have pm:=xM h.up p0 pr.2
  have prg:∀x∈path v.ns (aM v.ns ((nd v.ns (k.tmod (v.ns.length:Int))).block.root)),0≤x∧x<v.ns.length:=fun x hx=>uM h.up hx
  have pl:=zX h.up (aM v.ns ((nd v.ns (k.tmod (v.ns.length:Int))).block.root))
  obtain⟨p,ep⟩:∃p,path v.ns (aM v.ns ((nd v.ns (k.tmod (v.ns.length:Int))).block.root))=p:=⟨_,rfl⟩
  rw[ep] at kp pm prg pl;have l0:(0:Int)<(p.length:Int):=by have:=List.length_pos_of_mem pm;omega
  have lne:¬((p.length:Int)=0):=by omega
  by_cases e1:0<((((k).fdiv (2 ^ min 14 IntKind.i64.bits))).tmod 4)
  case neg =>
   by_cases e2:((((k).fdiv (2 ^ min 14 IntKind.i64.bits))).tmod 16)=0
   ·simp only[ZG,seval,Bool.false_and,Prod.mk.injEq,Fo,iK,hj,j0,j1,g6,hT.Ak,h.sd.tree,gN,m1,m2,mA _ _ hn,g1,g2,kp,l0,e1,bt e2,Pp];exact⟨_,eU rfl (by simp only[E8,seval,fv]<;>rfl) (by simp only[Z8,seval,fv]<;>rfl) (by simp only[dU,and_self,fv]),_,rfl,F3⟩
   simp only[ZG,seval,Bool.false_and,Prod.mk.injEq,Fo,iK,hj,j0,j1,g6,hT.Ak,h.sd.tree,gN,m1,m2,mA _ _ hn,g1,g2,kp,l0,e1,bf e2];exact⟨_,eU rfl (by simp only[E8,seval,fv]<;>rfl) (by simp only[Z8,seval,fv]<;>rfl) (by simp only[dU,and_self,fv]),_,rfl,F3⟩
  obtain⟨x1,x2⟩:=eC (n:=(p.length:Int)) (zW hk (min 16 IntKind.i64.bits)) l0
  obtain⟨y,hy⟩:∃y,((((k).fdiv (2 ^ min 16 IntKind.i64.bits))).tmod (p.length:Int))=y:=⟨_,rfl⟩
  rw[hy] at x1 x2;have gp:=oR x1 x2
  obtain⟨z1,z2⟩:=prg (it p y) (by obtain⟨h1,h2⟩:=wI x1 x2;rw[h2];exact List.getElem_mem h1)
  by_cases e2:((((k).fdiv (2 ^ min 14 IntKind.i64.bits))).tmod 16)=0
  ·simp only[ZG,seval,Bool.false_and,Prod.mk.injEq,Fo,iK,hj,j0,j1,g6,hT.Ak,h.sd.tree,gN,m1,m2,mA _ _ hn,g1,g2,kp,l0,lne,e1,hy,x1,x2,gp,z1,z2,bt e2,Pp];exact⟨_,eU rfl (by simp only[E8,seval,fv]<;>rfl) (by simp only[Z8,seval,fv]<;>rfl) (by simp only[dU,and_self,fv]),_,rfl,F3⟩
  simp only[ZG,seval,Bool.false_and,Prod.mk.injEq,Fo,iK,hj,j0,j1,g6,hT.Ak,h.sd.tree,gN,m1,m2,mA _ _ hn,g1,g2,kp,l0,lne,e1,hy,x1,x2,gp,z1,z2,bf e2];exact⟨_,eU rfl (by simp only[E8,seval,fv]<;>rfl) (by simp only[Z8,seval,fv]<;>rfl) (by simp only[dU,and_self,fv]),_,rfl,F3⟩
 have qne:¬(((ol Q).length:Int)=0):=by omega
 obtain⟨c1,c2⟩:=eC (n:=((ol Q).length:Int)) (zW hk (min 11 IntKind.i64.bits)) g1
 obtain⟨c,hc⟩:∃c,((((k).fdiv (2 ^ min 11 IntKind.i64.bits))).tmod ((ol Q).length:Int))=c:=⟨_,rfl⟩
 rw[hc] at c1 c2;have rTB:Rg (gx bJ (ol Q) c).tagged.tag:=hq _ (yI c1 c2)
 by_cases p0:0≤aM v.ns ((gx bJ (ol Q) c).block)
 case neg =>
  have kp:=fun st d=>YT v.ns (aM v.ns ((gx bJ (ol Q) c).block)) (fun hh=>p0 hh.1) st d
  by_cases e2:((((k).fdiv (2 ^ min 14 IntKind.i64.bits))).tmod 16)=0
  ·simp only[ZG,seval,Bool.false_and,Prod.mk.injEq,Fo,iK,hj,j0,j1,g6,hT.Ak,h.sd.tree,gN,m1,m2,mA _ _ hn,g1,g2,qne,hc,c1,c2,kp,bt e2,Pp];exact⟨_,eU rfl (by simp only[E8,seval,fv]<;>rfl) (by simp only[Z8,seval,fv]<;>rfl) (by simp only[dU,and_self,fv]),_,rfl,rTB⟩
  simp only[ZG,seval,Bool.false_and,Prod.mk.injEq,Fo,iK,hj,j0,j1,g6,hT.Ak,h.sd.tree,gN,m1,m2,mA _ _ hn,g1,g2,qne,hc,c1,c2,kp,bf e2];exact⟨_,eU rfl (by simp only[E8,seval,fv]<;>rfl) (by simp only[Z8,seval,fv]<;>rfl) (by simp only[dU,and_self,fv]),_,rfl,rTB⟩
 have pr:=fB v.ns ((gx bJ (ol Q) c).block)
 have kp:=fun st d=>k76 v.ns h.up hn (aM v.ns ((gx bJ (ol Q) c).block)) p0 pr.2 st d
 have pm:=xM h.up p0 pr.2
 have prg:∀x∈path v.ns (aM v.ns ((gx bJ (ol Q) c).block)),0≤x∧x<v.ns.length:=fun x hx=>uM h.up hx
 have pl:=zX h.up (aM v.ns ((gx bJ (ol Q) c).block))
 obtain⟨p,ep⟩:∃p,path v.ns (aM v.ns ((gx bJ (ol Q) c).block))=p:=⟨_,rfl⟩
 rw[ep] at kp pm prg pl;have l0:(0:Int)<(p.length:Int):=by have:=List.length_pos_of_mem pm;omega
 have lne:¬((p.length:Int)=0):=by omega
 by_cases e1:0<((((k).fdiv (2 ^ min 14 IntKind.i64.bits))).tmod 4)
 case neg =>
  by_cases e2:((((k).fdiv (2 ^ min 14 IntKind.i64.bits))).tmod 16)=0
  ·simp only[ZG,seval,Bool.false_and,Prod.mk.injEq,Fo,iK,hj,j0,j1,g6,hT.Ak,h.sd.tree,gN,m1,m2,mA _ _ hn,g1,g2,qne,hc,c1,c2,kp,l0,e1,bt e2,Pp];exact⟨_,eU rfl (by simp only[E8,seval,fv]<;>rfl) (by simp only[Z8,seval,fv]<;>rfl) (by simp only[dU,and_self,fv]),_,rfl,rTB⟩
  simp only[ZG,seval,Bool.false_and,Prod.mk.injEq,Fo,iK,hj,j0,j1,g6,hT.Ak,h.sd.tree,gN,m1,m2,mA _ _ hn,g1,g2,qne,hc,c1,c2,kp,l0,e1,bf e2];exact⟨_,eU rfl (by simp only[E8,seval,fv]<;>rfl) (by simp only[Z8,seval,fv]<;>rfl) (by simp only[dU,and_self,fv]),_,rfl,rTB⟩
 obtain⟨x1,x2⟩:=eC (n:=(p.length:Int)) (zW hk (min 16 IntKind.i64.bits)) l0
 obtain⟨y,hy⟩:∃y,((((k).fdiv (2 ^ min 16 IntKind.i64.bits))).tmod (p.length:Int))=y:=⟨_,rfl⟩
 rw[hy] at x1 x2;have gp:=oR x1 x2
 obtain⟨z1,z2⟩:=prg (it p y) (by obtain⟨h1,h2⟩:=wI x1 x2;rw[h2];exact List.getElem_mem h1)
 by_cases e2:((((k).fdiv (2 ^ min 14 IntKind.i64.bits))).tmod 16)=0
 ·simp only[ZG,seval,Bool.false_and,Prod.mk.injEq,Fo,iK,hj,j0,j1,g6,hT.Ak,h.sd.tree,gN,m1,m2,mA _ _ hn,g1,g2,qne,hc,c1,c2,kp,l0,lne,e1,hy,x1,x2,gp,z1,z2,bt e2,Pp];exact⟨_,eU rfl (by simp only[E8,seval,fv]<;>rfl) (by simp only[Z8,seval,fv]<;>rfl) (by simp only[dU,and_self,fv]),_,rfl,rTB⟩
 simp only[ZG,seval,Bool.false_and,Prod.mk.injEq,Fo,iK,hj,j0,j1,g6,hT.Ak,h.sd.tree,gN,m1,m2,mA _ _ hn,g1,g2,qne,hc,c1,c2,kp,l0,lne,e1,hy,x1,x2,gp,z1,z2,bf e2];exact⟨_,eU rfl (by simp only[E8,seval,fv]<;>rfl) (by simp only[Z8,seval,fv]<;>rfl) (by simp only[dU,and_self,fv]),_,rfl,rTB⟩
end Go.Ab.Tryz
section
namespace Go.Ab
open Classical
theorem oZ [Ext] {P:Program} {bi:Bool} {a b:Code} {st:St} {β:Type} {K:Ex × St→Option β} {R:β→Prop} (Q:St→Prop) (h:∃st',vT P bi a st=some (.normal,st')∧Q st')
 (rest:∀st',Q st'→∃r,cH (vT P bi b st') K=some r∧R r):∃r,cH (vT P bi (.seq a b) st) K=some r∧R r:=by
 obtain⟨s1,h1,h2⟩:=h
 rw[FM,h1];exact rest s1 h2
end Go.Ab
namespace Go.Ab.Tryz
open Classical Go.Proofs Go.Ab
structure BQ (n:Int) (v:SV) (b:Block):Prop extends RB b where
 rt:b.root=mkRoot n∨∃m∈v.ns,b.root=m.block.root
theorem x50 {s:aN} {v:SV} {q:Int} (h:GI s v q) (r:RG s v) (n k:Int) (hk:0≤k):∃x,aD Tryz.prog 50 [.agg (aB s),.v (.int .i64 n),.v (.int .i64 k)]=some x∧∃b:Block,x=.agg (aT b)∧BQ n v b:=by
 have hn:=h.sd.nn
 have hp:(0:Int)<(v.ns.length:Int):=by have:=h.pos;omega
 have gN:¬((v.ns.length:Int)=0):=by omega
 have Lz:=h.sp
 have rn:Rg s.now:=⟨r.now.1,by have:=r.now.2;omega⟩
 have rnd:∀p:Int,0≤p→p<v.ns.length→RB (nd v.ns p).block:=fun p h0 h1=>(r.nd _ (FD h0 h1)).1
 obtain⟨m1,m2⟩:=eC (n:=(v.ns.length:Int)) hk hp
 obtain⟨m3,m4⟩:=eC (n:=(v.ns.length:Int)) (zW hk (min 3 IntKind.i64.bits)) hp
 rw[cG Tryz.func50 rfl aPc (by kernel_rfl) rfl]
 refine oZ (fun st=>st.aO 8=0∧st.aO 9=0∧st.aO 11=0∧st.env 1=.v (.int .i64 n)∧st.env 2=.v (.int .i64 k)∧st.env 3=.ptr 3 0 0∧st.heap 3 0=some (.cells (aB s))∧st.env 6=.ptr 6 0 0∧st.heap 6 0=some (.cells (aT eQ))) ?h0 ?r0
 case h0 =>
  refine⟨?s1, ?h1, ?q1⟩
  case h1 =>
   simp only[ZG,seval,Bool.false_and,Prod.mk.injEq,rW];rfl
  case q1=>exact⟨by simp only[E8,seval]<;>rfl,by simp only[E8,seval]<;>rfl,by simp only[E8,seval]<;>rfl,by simp only[E8,seval]<;>rfl,by simp only[E8,seval]<;>rfl,by simp only[E8,seval]<;>rfl,by simp only[E8,seval]<;>rfl,by simp only[E8,seval]<;>rfl,by simp only[E8,seval]<;>rfl⟩
 case r0 =>
 intro st hI;refine oZ (fun st=>∃p:Int,(st.aO 8=0∧st.aO 9=0∧st.aO 11=0∧st.env 1=.v (.int .i64 n)∧st.env 2=.v (.int .i64 k)∧st.env 3=.ptr 3 0 0∧st.heap 3 0=some (.cells (aB s))∧st.env 6=.ptr 6 0 0∧st.heap 6 0=some (.cells (aT eQ))∧st.env 7=.v (.int .i64 p))∧0≤p∧p<v.ns.length) ?h1 ?r1
 case h1 =>
  refine⟨?s2, ?h2, ?q2⟩
  case h2 =>
   simp only[ZG,seval,Bool.false_and,Prod.mk.injEq,rW,hI,h.sd.tree,gN];rfl
  case q2=>exact⟨_,by and_intros<;>(simp only[E8,seval,hI]<;>rfl),m1,m2⟩
 case r1 =>
 rintro st ⟨p,hI,p0,p1⟩
 refine oZ (fun st=>∃p:Int,(st.aO 8=0∧st.aO 9=0∧st.aO 11=0∧st.env 1=.v (.int .i64 n)∧st.env 2=.v (.int .i64 k)∧st.env 3=.ptr 3 0 0∧st.heap 3 0=some (.cells (aB s))∧st.env 6=.ptr 6 0 0∧st.heap 6 0=some (.cells (aT eQ))∧st.env 7=.v (.int .i64 p))∧0≤p∧p<v.ns.length) ?h2 ?r2
 case h2 =>
  by_cases g:0<((((k).fdiv (2 ^ min 6 IntKind.i64.bits))).tmod 3)
  ·obtain⟨M,hM⟩:∃M,(if (v.ns.length:Int)<3 then (v.ns.length:Int) else 3)=M:=⟨_,rfl⟩
   have hM1:1≤M∧M≤v.ns.length:=by rw[← hM];split<;>omega
   have hM0:¬M=0:=by omega
   obtain⟨x0,x1⟩:=eC (n:=M) p0 (by omega)
   have w1:IntKind.i64.wrap ((v.ns.length:Int)-1)=(v.ns.length:Int)-1:=pV _ (by omega) (by omega)
   have w2:IntKind.i64.wrap ((v.ns.length:Int)-1-p.tmod M)=(v.ns.length:Int)-1-p.tmod M:=pV _ (by omega) (by omega)
   refine⟨?s3, ?h3, ?q3⟩
   case h3 =>
    simp only[ZG,seval,Bool.false_and,Prod.mk.injEq,rW,hI,h.sd.tree,g,hM,hM0,w1,w2];rfl
   case q3=>exact⟨(v.ns.length:Int)-1-p.tmod M,by and_intros<;>(simp only[E8,seval,hI]<;>rfl),by omega,by omega⟩
  ·skip
   refine⟨?s4, ?h4, ?q4⟩
   case h4 =>
    simp only[ZG,seval,Bool.false_and,Prod.mk.injEq,rW,hI,g];rfl
   case q4=>exact⟨p,by and_intros<;>(simp only[E8,seval,hI]<;>rfl),p0,p1⟩
 case r2 =>
 clear hI p0 p1
 clear p
 rintro st ⟨p,hI,p0,p1⟩
 have rN:=rnd p p0 p1
 refine oZ (fun st=>st.aO 9=0∧st.aO 11=0∧st.env 1=.v (.int .i64 n)∧st.env 2=.v (.int .i64 k)∧st.env 3=.ptr 3 0 0∧st.heap 3 0=some (.cells (aB s))∧st.env 6=.ptr 6 0 0∧st.heap 6 0=some (.cells (aT eQ))∧st.env 7=.v (.int .i64 p)∧st.env 8=.ptr 8 0 0∧st.heap 8 0=some (.cells (fW (nd v.ns p)))) ?h4 ?r4
 case h4 =>
  refine⟨?s5, ?h5, ?q5⟩
  case h5 =>
   simp only[ZG,seval,Bool.false_and,Prod.mk.injEq,rW,hI,h.sd.tree,p0,p1];rfl
  case q5=>exact⟨by simp only[E8,seval,hI]<;>rfl,by simp only[E8,seval,hI]<;>rfl,by simp only[E8,seval,hI]<;>rfl,by simp only[E8,seval,hI]<;>rfl,by simp only[E8,seval,hI]<;>rfl,by simp only[E8,seval,hI]<;>rfl,by simp only[E8,seval,hI]<;>rfl,by simp only[E8,seval,hI]<;>rfl,by simp only[E8,seval,hI]<;>rfl,by simp only[E8,seval,hI]<;>rfl,by simp only[E8,seval,hI]<;>rfl⟩
 case r4 =>
 clear hI
 intro st hI;refine oZ (fun st=>∃b:Block,(st.aO 11=0∧st.env 1=.v (.int .i64 n)∧st.env 2=.v (.int .i64 k)∧st.env 3=.ptr 3 0 0∧st.heap 3 0=some (.cells (aB s))∧st.env 6=.ptr 6 0 0∧st.heap 6 0=some (.cells (aT eQ))∧st.env 7=.v (.int .i64 p)∧st.env 8=.ptr 8 0 0∧st.heap 8 0=some (.cells (fW (nd v.ns p)))∧st.env 9=.ptr 9 0 0∧st.heap 9 0=some (.cells (aT b)))∧BQ n v b) ?h5 ?r5
 case h5 =>
  refine⟨?s6, ?h6, ?q6⟩
  case h6 =>
   simp only[ZG,seval,Bool.false_and,Prod.mk.injEq,rW,hI,Pp];rfl
  case q6=>exact⟨_,by and_intros<;>(simp only[E8,seval,hI]<;>rfl),by exact⟨⟨rn,rN.j,rN.f,rN.pj,rN.pf⟩,.inl rfl⟩⟩
 case r5 =>
 clear hI
 rintro st ⟨b,hI,rb⟩
 refine oZ (fun st=>∃b:Block,(st.aO 11=0∧st.env 1=.v (.int .i64 n)∧st.env 2=.v (.int .i64 k)∧st.env 3=.ptr 3 0 0∧st.heap 3 0=some (.cells (aB s))∧st.env 6=.ptr 6 0 0∧st.heap 6 0=some (.cells (aT eQ))∧st.env 7=.v (.int .i64 p)∧st.env 8=.ptr 8 0 0∧st.heap 8 0=some (.cells (fW (nd v.ns p)))∧st.env 9=.ptr 9 0 0∧st.heap 9 0=some (.cells (aT b)))∧BQ n v b) ?h6 ?r6
 case h6 =>
  by_cases g:((((k).fdiv (2 ^ min 10 IntKind.i64.bits))).tmod 5)=0
  case neg =>
   refine⟨?s7, ?h7, ?q7⟩
   case h7 =>
    simp only[ZG,seval,Bool.false_and,Prod.mk.injEq,rW,hI,bf g];rfl
   case q7=>exact⟨b,by and_intros<;>(simp only[E8,seval,hI]<;>rfl),rb⟩
  by_cases g2:0<s.now
  case neg =>
   refine⟨?s8, ?h8, ?q8⟩
   case h8 =>
    simp only[ZG,seval,Bool.false_and,Prod.mk.injEq,rW,hI,bt g,g2];rfl
   case q8=>exact⟨b,by and_intros<;>(simp only[E8,seval,hI]<;>rfl),rb⟩
  refine⟨?s9, ?h9, ?q9⟩
  case h9 =>
   simp only[ZG,seval,Bool.false_and,Prod.mk.injEq,rW,hI,bt g,g2];rfl
  case q9=>exact⟨_,by and_intros<;>(simp only[E8,seval,hI]<;>rfl),by exact⟨⟨jM _,rb.j,rb.f,rb.pj,rb.pf⟩,rb.rt⟩⟩
 case r6 =>
 clear hI rb
 clear b
 rintro st ⟨b,hI,rb⟩
 refine oZ (fun st=>∃b:Block,(st.aO 11=0∧st.env 1=.v (.int .i64 n)∧st.env 2=.v (.int .i64 k)∧st.env 3=.ptr 3 0 0∧st.heap 3 0=some (.cells (aB s))∧st.env 6=.ptr 6 0 0∧st.heap 6 0=some (.cells (aT eQ))∧st.env 7=.v (.int .i64 p)∧st.env 8=.ptr 8 0 0∧st.heap 8 0=some (.cells (fW (nd v.ns p)))∧st.env 9=.ptr 9 0 0∧st.heap 9 0=some (.cells (aT b)))∧BQ n v b) ?h8 ?r8
 case h8 =>
  by_cases g:((((k).fdiv (2 ^ min 12 IntKind.i64.bits))).tmod 16)=0
  case neg =>
   refine⟨?s10, ?h10, ?q10⟩
   case h10 =>
    simp only[ZG,seval,Bool.false_and,Prod.mk.injEq,rW,hI,bf g];rfl
   case q10=>exact⟨b,by and_intros<;>(simp only[E8,seval,hI]<;>rfl),rb⟩
  refine⟨?s11, ?h11, ?q11⟩
  case h11 =>
   simp only[ZG,seval,Bool.false_and,Prod.mk.injEq,rW,hI,bt g,Pp];rfl
  case q11=>exact⟨_,by and_intros<;>(simp only[E8,seval,hI]<;>rfl),by exact⟨⟨rb.sl,rb.j,rb.f,rb.pj,rb.pf⟩,rb.rt⟩⟩
 case r8 =>
 clear hI rb
 clear b
 rintro st ⟨b,hI,rb⟩
 refine oZ (fun st=>∃e:Int,(st.aO 11=0∧st.env 1=.v (.int .i64 n)∧st.env 2=.v (.int .i64 k)∧st.env 3=.ptr 3 0 0∧st.heap 3 0=some (.cells (aB s))∧st.env 6=.ptr 6 0 0∧st.heap 6 0=some (.cells (aT eQ))∧st.env 7=.v (.int .i64 p)∧st.env 8=.ptr 8 0 0∧st.heap 8 0=some (.cells (fW (nd v.ns p)))∧st.env 9=.ptr 9 0 0∧st.heap 9 0=some (.cells (aT b))∧st.env 10=.v (.int .u64 e))∧Rg e) ?h10 ?r10
 case h10 =>
  refine⟨?s12, ?h12, ?q12⟩
  case h12 =>
   simp only[ZG,seval,Bool.false_and,Prod.mk.injEq,rW,hI,Lz];rfl
  case q12=>exact⟨_,by and_intros<;>(simp only[E8,seval,hI]<;>rfl),jM _⟩
 case r10 =>
 clear hI
 rintro st ⟨e,hI,re⟩
 obtain⟨y,hy,c,rfl,rc⟩:=x92 h r p e re
 have Qd:=kx hy (mC h.sd.flat (.v _) (.v _)) (.agg _ (dA _))
 refine oZ (fun st=>∃b:Block,(st.env 1=.v (.int .i64 n)∧st.env 2=.v (.int .i64 k)∧st.env 3=.ptr 3 0 0∧st.heap 3 0=some (.cells (aB s))∧st.env 6=.ptr 6 0 0∧st.heap 6 0=some (.cells (aT eQ))∧st.env 7=.v (.int .i64 p)∧st.env 8=.ptr 8 0 0∧st.heap 8 0=some (.cells (fW (nd v.ns p)))∧st.env 9=.ptr 9 0 0∧st.heap 9 0=some (.cells (aT b))∧st.env 10=.v (.int .u64 e))∧BQ n v b) ?h11 ?r11
 case h11 =>
  by_cases g:b.dN.pj.aK<c.aK
  case neg =>
   refine⟨?s13, ?h13, ?q13⟩
   case h13 =>
    simp only[ZG,seval,Bool.false_and,Prod.mk.injEq,rW,hI,Qd,g];rfl
   case q13=>exact⟨b,by and_intros<;>(simp only[E8,seval,hI]<;>rfl),rb⟩
  by_cases g2:((((k).fdiv (2 ^ min 13 IntKind.i64.bits))).tmod 2)=0
  case neg =>
   refine⟨?s14, ?h14, ?q14⟩
   case h14 =>
    simp only[ZG,seval,Bool.false_and,Prod.mk.injEq,rW,hI,Qd,g,bf g2];rfl
   case q14=>exact⟨b,by and_intros<;>(simp only[E8,seval,hI]<;>rfl),rb⟩
  by_cases g3:((((k).fdiv (2 ^ min 14 IntKind.i64.bits))).tmod 2)=0
  case neg =>
   refine⟨?s15, ?h15, ?q15⟩
   case h15 =>
    simp only[ZG,seval,Bool.false_and,Prod.mk.injEq,rW,hI,Qd,g,bt g2,bf g3];rfl
   case q15=>exact⟨_,by and_intros<;>(simp only[E8,seval,hI]<;>rfl),by exact⟨⟨rb.sl,rb.j,rb.f,rc,rb.pf⟩,rb.rt⟩⟩
  refine⟨?s16, ?h16, ?q16⟩
  case h16 =>
   simp only[ZG,seval,Bool.false_and,Prod.mk.injEq,rW,hI,Qd,g,bt g2,bt g3];rfl
  case q16=>exact⟨_,by and_intros<;>(simp only[E8,seval,hI]<;>rfl),by exact⟨⟨rb.sl,rb.j,rb.f,rc,rb.pj⟩,rb.rt⟩⟩
 case r11 =>
 clear hI rb
 clear b
 rintro st ⟨b,hI,rb⟩
 refine oZ (fun st=>∃b:Block,(st.env 1=.v (.int .i64 n)∧st.env 2=.v (.int .i64 k)∧st.env 3=.ptr 3 0 0∧st.heap 3 0=some (.cells (aB s))∧st.env 6=.ptr 6 0 0∧st.heap 6 0=some (.cells (aT eQ))∧st.env 7=.v (.int .i64 p)∧st.env 8=.ptr 8 0 0∧st.heap 8 0=some (.cells (fW (nd v.ns p)))∧st.env 9=.ptr 9 0 0∧st.heap 9 0=some (.cells (aT b))∧st.env 10=.v (.int .u64 e))∧BQ n v b) ?h16 ?r16
 case h16 =>
  by_cases g:((((k).fdiv (2 ^ min 15 IntKind.i64.bits))).tmod 3)=0
  case neg =>
   refine⟨?s17, ?h17, ?q17⟩
   case h17 =>
    simp only[ZG,seval,Bool.false_and,Prod.mk.injEq,rW,hI,bf g];rfl
   case q17=>exact⟨b,by and_intros<;>(simp only[E8,seval,hI]<;>rfl),rb⟩
  by_cases g2:IntKind.u64.wrap ((nd v.ns p).block.slot.tdiv s.cFg.qG)<e
  case neg =>
   refine⟨?s18, ?h18, ?q18⟩
   case h18 =>
    simp only[ZG,seval,Bool.false_and,Prod.mk.injEq,rW,hI,bt g,Lz,g2];rfl
   case q18=>exact⟨b,by and_intros<;>(simp only[E8,seval,hI]<;>rfl),rb⟩
  refine⟨?s19, ?h19, ?q19⟩
  case h19 =>
   simp only[ZG,seval,Bool.false_and,Prod.mk.injEq,rW,hI,bt g,Lz,g2];rfl
  case q19=>exact⟨_,by and_intros<;>(simp only[E8,seval,hI]<;>rfl),by exact⟨⟨rb.sl,rN.pj,rN.pf,rb.pj,rb.pf⟩,rb.rt⟩⟩
 case r16 =>
 clear hI rb
 clear b
 rintro st ⟨b,hI,rb⟩
 refine oZ (fun st=>∃b:Block,(st.env 1=.v (.int .i64 n)∧st.env 2=.v (.int .i64 k)∧st.env 3=.ptr 3 0 0∧st.heap 3 0=some (.cells (aB s))∧st.env 6=.ptr 6 0 0∧st.heap 6 0=some (.cells (aT eQ))∧st.env 7=.v (.int .i64 p)∧st.env 8=.ptr 8 0 0∧st.heap 8 0=some (.cells (fW (nd v.ns p)))∧st.env 9=.ptr 9 0 0∧st.heap 9 0=some (.cells (aT b))∧st.env 10=.v (.int .u64 e))∧BQ n v b) ?h18 ?r18
 case h18 =>
  by_cases g:(nd v.ns p).block.iI=dI
  case neg =>
   refine⟨?s20, ?h20, ?q20⟩
   case h20 =>
    simp only[ZG,seval,Bool.false_and,Prod.mk.injEq,rW,hI,g,Pp,qK,Nat.reduceLT];rfl
   case q20=>exact⟨_,by and_intros<;>(simp only[E8,seval,hI]<;>rfl),by exact⟨⟨rb.sl,rb.j,rb.f,rb.pj,rb.pf⟩,rb.rt⟩⟩
  by_cases g2:((((k).fdiv (2 ^ min 16 IntKind.i64.bits))).tmod 3)=0
  case neg =>
   refine⟨?s21, ?h21, ?q21⟩
   case h21 =>
    simp only[ZG,seval,Bool.false_and,Prod.mk.injEq,rW,hI,g,bf g2];rfl
   case q21=>exact⟨b,by and_intros<;>(simp only[E8,seval,hI]<;>rfl),rb⟩
  refine⟨?s22, ?h22, ?q22⟩
  case h22 =>
   simp only[ZG,seval,Bool.false_and,Prod.mk.injEq,rW,hI,g,bt g2,Pp,qK,Nat.reduceLT];rfl
  case q22=>exact⟨_,by and_intros<;>(simp only[E8,seval,hI]<;>rfl),by exact⟨⟨rb.sl,rb.j,rb.f,rb.pj,rb.pf⟩,rb.rt⟩⟩
 case r18 =>
 clear hI rb
 clear b
 rintro st ⟨b,hI,rb⟩
 obtain⟨w0,hw0,W,rfl⟩:=aOW ((k).fdiv (2 ^ min 3 IntKind.i64.bits))
 have k111:=kx hw0 (cO (.v _)) (.agg _ (iG W))
 refine oZ (fun st=>∃b:Block,(st.env 1=.v (.int .i64 n)∧st.env 2=.v (.int .i64 k)∧st.env 3=.ptr 3 0 0∧st.heap 3 0=some (.cells (aB s))∧st.env 6=.ptr 6 0 0∧st.heap 6 0=some (.cells (aT eQ))∧st.env 7=.v (.int .i64 p)∧st.env 8=.ptr 8 0 0∧st.heap 8 0=some (.cells (fW (nd v.ns p)))∧st.env 9=.ptr 9 0 0∧st.heap 9 0=some (.cells (aT b))∧st.env 10=.v (.int .u64 e))∧BQ n v b) ?h21 ?r21
 case h21 =>
  by_cases c0:((((k).fdiv (2 ^ min 18 IntKind.i64.bits))).tmod 24)=0
  ·skip
   refine⟨?s23, ?h23, ?q23⟩
   case h23 =>
    simp only[ZG,seval,Bool.false_and,Prod.mk.injEq,rW,hI,bt c0,Pp];rfl
   case q23=>exact⟨_,by and_intros<;>(simp only[E8,seval,hI]<;>rfl),by exact⟨⟨rb.sl,rb.j,rb.f,rb.pj,rb.pf⟩,rb.rt⟩⟩
  by_cases c1:((((k).fdiv (2 ^ min 18 IntKind.i64.bits))).tmod 24)=1
  ·skip
   refine⟨?s24, ?h24, ?q24⟩
   case h24 =>
    simp only[ZG,seval,Bool.false_and,Prod.mk.injEq,rW,hI,bf c0,bt c1,k111];rfl
   case q24=>exact⟨_,by and_intros<;>(simp only[E8,seval,hI]<;>rfl),by exact⟨⟨rb.sl,rb.j,rb.f,rb.pj,rb.pf⟩,rb.rt⟩⟩
  by_cases c2:((((k).fdiv (2 ^ min 18 IntKind.i64.bits))).tmod 24)=2
  ·skip
   refine⟨?s25, ?h25, ?q25⟩
   case h25 =>
    simp only[ZG,seval,Bool.false_and,Prod.mk.injEq,rW,hI,bf c0,bf c1,bt c2,k111];rfl
   case q25=>exact⟨_,by and_intros<;>(simp only[E8,seval,hI]<;>rfl),by exact⟨⟨rb.sl,rb.j,rb.f,rb.pj,rb.pf⟩,rb.rt⟩⟩
  by_cases c3:((((k).fdiv (2 ^ min 18 IntKind.i64.bits))).tmod 24)=3
  ·skip
   refine⟨?s26, ?h26, ?q26⟩
   case h26 =>
    simp only[ZG,seval,Bool.false_and,Prod.mk.injEq,rW,hI,bf c0,bf c1,bf c2,bt c3];rfl
   case q26=>exact⟨_,by and_intros<;>(simp only[E8,seval,hI]<;>rfl),by exact⟨⟨rb.sl,rb.j,rb.f,jM _,rb.pf⟩,rb.rt⟩⟩
  by_cases c4:((((k).fdiv (2 ^ min 18 IntKind.i64.bits))).tmod 24)=4
  ·skip
   refine⟨?s27, ?h27, ?q27⟩
   case h27 =>
    simp only[ZG,seval,Bool.false_and,Prod.mk.injEq,rW,hI,bf c0,bf c1,bf c2,bf c3,bt c4];rfl
   case q27=>exact⟨_,by and_intros<;>(simp only[E8,seval,hI]<;>rfl),by exact⟨⟨jM _,rb.j,rb.f,rb.pj,rb.pf⟩,rb.rt⟩⟩
  by_cases c5:((((k).fdiv (2 ^ min 18 IntKind.i64.bits))).tmod 24)=5
  ·skip
   refine⟨?s28, ?h28, ?q28⟩
   case h28 =>
    simp only[ZG,seval,Bool.false_and,Prod.mk.injEq,rW,hI,bf c0,bf c1,bf c2,bf c3,bf c4,bt c5,h.sd.tree,gN,m3,m4];rfl
   case q28=>exact⟨_,by and_intros<;>(simp only[E8,seval,hI]<;>rfl),by exact⟨⟨rb.sl,rb.j,rb.f,rb.pj,rb.pf⟩,.inr ⟨_,FD m3 m4,rfl⟩⟩⟩
  by_cases c6:((((k).fdiv (2 ^ min 18 IntKind.i64.bits))).tmod 24)=6
  ·skip
   refine⟨?s29, ?h29, ?q29⟩
   case h29 =>
    simp only[ZG,seval,Bool.false_and,Prod.mk.injEq,rW,hI,bf c0,bf c1,bf c2,bf c3,bf c4,bf c5,bt c6,Pp];rfl
   case q29=>exact⟨_,by and_intros<;>(simp only[E8,seval,hI]<;>rfl),by exact⟨⟨rb.sl,rb.j,rb.f,rb.pj,rb.pf⟩,rb.rt⟩⟩
  by_cases c7:((((k).fdiv (2 ^ min 18 IntKind.i64.bits))).tmod 24)=7
  ·skip
   refine⟨?s30, ?h30, ?q30⟩
   case h30 =>
    simp only[ZG,seval,Bool.false_and,Prod.mk.injEq,rW,hI,bf c0,bf c1,bf c2,bf c3,bf c4,bf c5,bf c6,bt c7];rfl
   case q30=>exact⟨_,by and_intros<;>(simp only[E8,seval,hI]<;>rfl),by exact⟨⟨rb.sl,rb.j,rb.f,rb.pj,rb.pf⟩,rb.rt⟩⟩
  refine⟨?s31, ?h31, ?q31⟩
  case h31 =>
   simp only[ZG,seval,Bool.false_and,Prod.mk.injEq,rW,hI,bf c0,bf c1,bf c2,bf c3,bf c4,bf c5,bf c6,bf c7];rfl
  case q31=>exact⟨b,by and_intros<;>(simp only[E8,seval,hI]<;>rfl),rb⟩
 case r21 =>
 clear hI rb
 clear b
 rintro st ⟨b,hI,rb⟩
 simp only[ZG,seval,Bool.false_and,Prod.mk.injEq,rW,hI];exact⟨_,eU rfl (by simp only[E8,seval,hI]<;>rfl) (by simp only[Z8,seval,hI]<;>rfl) (by simp only[dU,and_self,hI]),b,rfl,rb⟩
end Go.Ab.Tryz
end
namespace Go.Ab.Tryz
open Classical Go.Proofs Go.Ab
def Fz (st st':St):Prop:=(∀s g,g<st.aO s→st'.heap s g=st.heap s g)∧∀s,st.aO s≤st'.aO s
theorem aPg:aE 0 3 (some 2)=[]∧aE 1 17 (some 6)=[]∧aE 2 2 (some 21)=[]:=⟨rfl,rfl,rfl⟩
theorem aDX {s:aN} {v:SV} (hs:SD s v) (X:AV) (a:rQ) (V:Option (List Int)) (ha:a.eK=ov aJ V) (hV:((ol V).length:Int)<1000000) (hr:∀x∈ol V,0≤x∧x<(ol v.L).length) :
 ∃G:St→St,∀st,Cg Tryz.prog 44 [.agg (aB (vS s X)),.agg (iF a)] st=some (.agg (aB (vS (Pz s v a (ol V)) X)),G st)∧Fz st (G st):=by
 have one:∀st,∃st',Cg Tryz.prog 44 [.agg (aB (vS s X)),.agg (iF a)] st=some (.agg (aB (vS (Pz s v a (ol V)) X)),st')∧Fz st st':=by
  intro st;have hl:(vS s X).fY.dR=ov cV v.L:=hs.dR
  rw[FN Tryz.prog Tryz.func44 rfl (by kernel_rfl)]
  simp only[ZG,seval,Bool.false_and,Prod.mk.injEq,aPg,hl,ha,aJj v.L hs.nL _ _ V hV hr,dT];refine⟨_,Wl (P:=Tryz.prog) (fn:=Tryz.f44) (r:=.cell 4 53) (x:=.agg (aB (vS (Pz s v a (ol V)) X))) (.inl rfl) rfl ?h1, ?h2⟩
  case h1 =>
   rw[zZ];simp only[bS,Z8,seval];unfold vS Pz;simp only[ov,Py]
  case h2 =>
   refine⟨fun x g hg=>?_,fun x=>?_⟩
   ·have n2:(x=2∧g=st.aO 2)=False:=eq_false (by rintro⟨rfl,rfl⟩;omega)
    have n3:(x=3∧g=st.aO 3)=False:=eq_false (by rintro⟨rfl,rfl⟩;omega)
    have n4:(x=4∧g=st.aO 4)=False:=eq_false (by rintro⟨rfl,rfl⟩;omega)
    simp only[E8,seval,dG,cA,n2,n3,n4,if_false]
   ·simp only[E8,seval,dG,cA];split<;>(try split)<;>(try split)<;>subst_vars<;>omega
 exact⟨fun st=>Classical.choose (one st),fun st=>Classical.choose_spec (one st)⟩
theorem DH {cs:List AV} (h:∀c∈cs,Flat c):cs.flatMap gA=[]:=List.flatMap_eq_nil_iff.2 fun c hc=>by have:=h c hc;cases this<;>rfl
theorem aDY {c:AV} (h:Flat c):gA c=[]:=by cases h<;>rfl
theorem L3 {s:aN} {v:SV} (h:SD s v) (a g:Nat):iV (.agg (aB (mE s (.own a g))))=[(a,g)]:=by
 obtain⟨h1,h2,h3,h4,h5,h6,h7⟩:=h.fl
 show (aB (mE s (.own a g))).flatMap gA=[(a,g)]
 unfold mE aB jK;simp only[List.flatMap_append,List.flatMap_cons,List.flatMap_nil,List.append_nil];rw[DH (tH _ h1),DH (qA _ h2 h3),DH (kM _),DH (vO _ h6),DH (dW _),DH (dD _)];have e4:gA s.dQ.early=[]:=aDY h4
 have e7:gA s.tables=[]:=aDY h7
 simp only[e4,e7,List.nil_append,List.append_nil];rfl
theorem aBj {s:aN} {v:SV} (h:SD s v) (a g:Nat):WD (.agg (aB (mE s (.own a g)))):=by
 obtain⟨h1,h2,h3,h4,h5,h6,h7⟩:=h.fl
 refine .inr (.inr ⟨_,rfl,fun c hc=>?_⟩)
 unfold mE aB jK at hc;simp only[List.mem_append,List.mem_singleton] at hc;rcases hc with hc|hc|hc|(hc|hc)|hc|hc|hc|hc
 ·exact .inl (tH _ h1 _ hc)
 ·exact .inl (qA _ h2 h3 _ hc)
 ·exact .inl (kM _ _ hc)
 ·exact .inl (hc ▸ h4)
 ·exact .inr ⟨a,g,hc⟩
 ·exact .inl (vO _ h6 _ hc)
 ·exact .inl (dW _ _ hc)
 ·exact .inl (dD _ _ hc)
 ·exact .inl (hc ▸ h7)
theorem aKB {s:aN} {v:SV} {q:Int} (h:GI s v q) {b:Block} (hb:Jl s v b=0) (st:St) (d:Option Nat):eE (aD Tryz.prog) 217 [.agg (aB s),.agg (aT b)] st d=some { dst:=d,val:=.agg (aB (sH s v b))}:=Gs (bI h.sd.flat (tZ b)) (aJk h hb) (h.ins hb).sd.flat
theorem aDZ {s:aN} {v:SV} {q:Int} (h0:SD s v) {O:List Block} (h:GI (mE s (ov aH (some O))) { v with O:=some O } q) {b:Block} (hb:Jl (mE s (ov aH (some O))) { v with O:=some O } b=0) (a g:Nat) (st:St) (d:Option Nat) (hh:st.heap a g=some (.row 74 238 O.length (aH O))) :
 eE (aD Tryz.prog) 217 [.agg (aB (mE s (.own a g))),.agg (aT b)] st d=some { dst:=d,val:=.agg (aB (sH (mE s (ov aH (some O))) { v with O:=some O } b)),dJ:=some (a,g,none)}:=by
 rw[Dz (s:=a) (k:=g) (by rw[List.flatMap_cons,List.flatMap_cons,List.flatMap_nil,L3 h0,sS (tZ b)];rfl) (by intro x hx;simp only[List.mem_cons,List.not_mem_nil,or_false] at hx;rcases hx with rfl|rfl;exact aBj h0 a g;exact .inl (tZ b)),
  List.map_cons,List.map_cons,List.map_nil,yK h0 st hh,Kr,bK,bK,gC]
 exact Wf (aJk h hb) (h.ins hb).sd.flat
theorem aPh {s:aN} {v:SV} {q:Int} (h0:SD s v) {O:List Block} (h:GI (mE s (ov aH (some O))) { v with O:=some O } q) (b:Block) (a g:Nat) (st:St) (d:Option Nat) (hh:st.heap a g=some (.row 74 238 O.length (aH O))) :
 aP (aD Tryz.prog) 52 [.agg (aB (mE s (.own a g))),.agg (aT b)] st d=some { dst:=d,val:=.v (.int .i64 (Jl (mE s (ov aH (some O))) { v with O:=some O } b))}:=by
 rw[lC,List.map_cons,List.map_cons,List.map_nil,yK h0 st hh,Kr,bK,bK,gC];exact Vl (c52 h.sd h.up h.sp b)
theorem aKC {s:aN} {v:SV} {q:Int} (h0:SD s v) {O:List Block} (h:GI (mE s (ov aH (some O))) { v with O:=some O } q) (a g:Nat) (st:St) (d:Option Nat) (hh:st.heap a g=some (.row 74 238 O.length (aH O))) :
 aP (aD Tryz.prog) 218 [.agg (aB (mE s (.own a g)))] st d=some { dst:=d,val:=.v (.int .i64 (AE { v with O:=some O }))}:=by
 rw[lC,List.map_cons,List.map_nil,yK h0 st hh,bK,gC];exact Vl (aJg h.sd)
theorem sJ {s:aN} {v:SV} (h:SD s v):mE s (ov aH v.O)=s:=by unfold mE;rw[← h.bY]
def jX:Code→Code
 | .loop b=>.loop b
 | .seq a b=>match jX a with
   | .skip=>jX b
   | c=>c
 | .cond _ a b=>match jX a with
   | .skip=>jX b
   | c=>c
 | .block _ b=>jX b
 | _=>.skip
noncomputable def Al:Code:=jX (Tryz.f203.body.getD .skip)
def aPi (s:aN) (v:SV) (q:Int) (m:Nat) (st:St):Prop:=∃(S0:aN) (w:SV) (X:AV) (R:List cC) (a g:Nat),((st).env 2=.ptr 2 0 0∧(st).heap 2 0=some (.cells (aB (mE S0 X)))∧(st).env 4=.ptr 4 0 0∧(st).heap 4 0=some (.cells (aB gE))∧(st).env 9=.own a g∧(st).heap a g=some (.row 27 32 R.length (eH R))∧(st).env 10=.v (.int .i64 (AE w)))∧((a=66∧g=0)∨(a=105∧g<st.aO 105))∧(X=ov aH w.O∨∃g' L,w.O=some L∧X=.own 91 g'∧g'<st.aO 91∧st.heap 91 g'=some (.row 74 238 L.length (aH L)))∧GI S0 w q∧RG S0 w∧S0.cFg=s.cFg∧R.length+(ol w.O).length≤1+(ol v.O).length∧m=(ol w.O).length
def o0 (s:aN) (v:SV) (q:Int) (e:Ex) (st:St):Prop:=e=.exit 0∧∃(S0:aN) (w:SV) (X:AV) (R:List cC) (a g:Nat),(st.env 2=.ptr 2 0 0∧st.heap 2 0=some (.cells (aB (mE S0 X)))∧st.env 4=.ptr 4 0 0∧st.heap 4 0=some (.cells (aB gE))∧st.env 9=.own a g∧st.heap a g=some (.row 27 32 R.length (eH R)))∧a≠4∧(X=ov aH w.O∨∃g' L,w.O=some L∧X=.own 91 g'∧st.heap 91 g'=some (.row 74 238 L.length (aH L)))∧GI S0 w q∧RG S0 w∧S0.cFg=s.cFg∧R.length≤1+(ol v.O).length
theorem FO {s:aN} {v:SV} {q:Int} (nb:((ol v.O).length:Int)≤64) {m:Nat} {st:St} (hs:aPi s v q m st):∃e st',yB Tryz.prog Al st=some (e,st')∧o0 s v q e st':=by
 have key:∃r,cH (yB Tryz.prog Al st) some=some r∧o0 s v q r.1 r.2:=by
  unfold Al;simp only[Tryz.f203,Option.getD_some,jX];refine cM (fun m st=>∃(S0:aN) (w:SV) (X:AV) (R:List cC) (a g:Nat),((st).env 2=.ptr 2 0 0∧(st).heap 2 0=some (.cells (aB (mE S0 X)))∧(st).env 4=.ptr 4 0 0∧(st).heap 4 0=some (.cells (aB gE))∧(st).env 9=.own a g∧(st).heap a g=some (.row 27 32 R.length (eH R))∧(st).env 10=.v (.int .i64 (AE w)))∧((a=66∧g=0)∨(a=105∧g<st.aO 105))∧(X=ov aH w.O∨∃g' L,w.O=some L∧X=.own 91 g'∧g'<st.aO 91∧st.heap 91 g'=some (.row 74 238 L.length (aH L)))∧GI S0 w q∧RG S0 w∧S0.cFg=s.cFg∧R.length+(ol w.O).length≤1+(ol v.O).length∧m=(ol w.O).length) (fun e st=>e=.exit 0∧∃(S0:aN) (w:SV) (X:AV) (R:List cC) (a g:Nat),(st.env 2=.ptr 2 0 0∧st.heap 2 0=some (.cells (aB (mE S0 X)))∧st.env 4=.ptr 4 0 0∧st.heap 4 0=some (.cells (aB gE))∧st.env 9=.own a g∧st.heap a g=some (.row 27 32 R.length (eH R)))∧a≠4∧(X=ov aH w.O∨∃g' L,w.O=some L∧X=.own 91 g'∧st.heap 91 g'=some (.row 74 238 L.length (aH L)))∧GI S0 w q∧RG S0 w∧S0.cFg=s.cFg∧R.length≤1+(ol v.O).length) m ?step ?start ?rest
  case start=>exact hs
  case rest=>exact fun e st h=>⟨_,rfl,h⟩
  case step =>
   clear hs
   rintro m st ⟨S0,w,X,R,a,g,hI,FI,hX,hG,nM,hC,hR,hm⟩
   have hlO:=hG.nO
   have hlB:=hG.KZ
   by_cases bA:0≤AE w
   case neg =>
    have hI':=hI
    have hX':X=ov aH w.O∨∃g' L,w.O=some L∧X=.own 91 g'∧st.heap 91 g'=some (.row 74 238 L.length (aH L)):=hX.imp id fun ⟨g',L,h1,h2,_,h4⟩=>⟨g',L,h1,h2,h4⟩
    apply oT (.exit 0)
    ·simp only[Z8,seval,hI,bA];rfl
    ·exact⟨rfl,S0,w,X,R,a,g,by simp only[E8,seval,hI],by omega,by simpa only[E8,seval] using hX',hG,nM,hC,by omega⟩
   obtain⟨k,hk,hkp,hkw⟩:∃k:Nat,k<(ol w.O).length∧0≤aM w.ns (gx eQ (ol w.O) k).parent∧AE w=k:=by
    rcases yH (fun k=>0≤aM w.ns (gx eQ (ol w.O) k).parent) (ol w.O).length with ⟨e,_⟩|⟨k,h1,h2,_,h3⟩
    ·have:AE w=-1:=e;omega
    ·exact⟨k,h1,h2,h3⟩
   rw[hkw] at hI bA;have q0:(0:Int)≤k:=by omega
   have q1:(k:Int)<((ol w.O).length:Int):=by omega
   have q2:(k:Int)≤((ol w.O).length:Int):=by omega
   have q3:(0:Int)≤((k+1:Nat):Int):=by omega
   have q4:((k+1:Nat):Int)≤((ol w.O).length:Int):=by omega
   have hw:IntKind.i64.wrap ((k:Int)+1)=((k+1:Nat):Int):=by rw[pV _ (by omega) (by omega)];omega
   obtain⟨bb,wE⟩:∃bb,gx eQ (ol w.O) (k:Int)=bb:=⟨_,rfl⟩
   have n1:((((ol w.O).take k).length:Nat):Int)<1000000:=by rw[List.length_take];omega
   have n2:((((ol w.O).drop (k+1)).length:Nat):Int)<1000000:=by rw[List.length_drop];omega
   obtain⟨LL,Zx⟩:∃LL,(ol w.O).take k++(ol w.O).drop (k+1)=LL:=⟨_,rfl⟩
   have nl:LL.length+1=(ol w.O).length:=by rw[← Zx,List.length_append,List.length_take,List.length_drop];omega
   have hmem:∀b∈LL,b∈ol w.O:=fun b hb=>by rw[← Zx] at hb;exact (List.mem_append.1 hb).elim List.mem_of_mem_take List.mem_of_mem_drop
   have nR:(R.length:Int)<1000000:=by omega
   have hbm:bb∈ol w.O:=by rw[← wE];exact yI q0 q1
   have e1:ol (w.O.map (·.take k))=(ol w.O).take k:=by cases w.O<;>simp[ol]
   have e2:ol (w.O.map (·.drop (k+1)))=(ol w.O).drop (k+1):=by cases w.O<;>simp[ol]
   by_cases hz:LL=[]
   ·skip
    have hT:((ol w.O).take k).length=0:=by have:=congrArg List.length Zx;rw[hz,List.length_append] at this;simp only[List.length_nil] at this;omega
    have hD:((ol w.O).drop (k+1)).length=0:=by have:=congrArg List.length Zx;rw[hz,List.length_append] at this;simp only[List.length_nil] at this;omega
    have Pl:(ol w.O).length=1:=by rw[hz] at nl;simpa using nl.symm
    have Nf:=hG.SA none (by show ((0:Nat):Int)≤_;omega)
    have Ch:RG (mE S0 (ov aH none)) { w with O:=none }:=nM.SA none (ov aH none) (fun b hb=>by cases hb) nofun
    have Wm:∀(st:St) (d:Option Nat),aP (aD Tryz.prog) 52 [.agg (aB (mE S0 (.v (.slice none 0 0)))),.agg (aT bb)] st d=_:=k52 Nf.sd Nf.up Nf.sp bb
    have Jn:∀(st:St) (d:Option Nat),aP (aD Tryz.prog) 218 [.agg (aB (mE S0 (.v (.slice none 0 0))))] st d=_:=KV Nf.sd
    have hO2:(ol (kP (mE S0 (ov aH none)) { w with O:=none } bb).O).length≤0:=SE _ _ _
    obtain⟨c,hc⟩:∃c,Jl (mE S0 (ov aH none)) { w with O:=none } bb=c:=⟨_,rfl⟩
    rw[hc] at Wm;by_cases pY:c=0
    ·rw[pY] at hc;have Sc:=Nf.ins hc
     have Ci:=Ch.ins (nM.or bb hbm) hc
     have LO:=(Ai (mE S0 (ov aH none)) { w with O:=none } bb).1
     have DI:∀(st:St) (d:Option Nat),eE (aD Tryz.prog) 217 [.agg (aB (mE S0 (.v (.slice none 0 0)))),.agg (aT bb)] st d=_:=aKB Nf hc
     have pA:=KV Sc.sd
     obtain⟨S2,hS2⟩:∃S2,sH (mE S0 (ov aH none)) { w with O:=none } bb=S2:=⟨_,rfl⟩
     rw[hS2] at DI Sc Ci pA LO
     have Kt:=sJ Sc.sd
     simp only[mE] at Wm Jn DI hI;rcases hX with rfl|⟨g',L,hL,rfl,hg1,AH⟩
     ·rcases FI with ⟨rfl,rfl⟩|⟨rfl,hg⟩
      ·refine oF (st':=?_) ?_ ((ol (kP (mE S0 (ov aH none)) { w with O:=none } bb).O).length) (by omega) ?_
       rotate_left
       ·simp only[Z8,seval,hI,bA,q0,q1,q2,q3,q4,hw,wE,Int.toNat_natCast,iB,iC,oB,Option.isSome_some,Option.map_some,Option.some.injEq,hT,hD,Wm,Jn,e1,e2,bt pY,DI,pA,nN _ _ _ _ nR];rfl
       ·refine⟨S2,kP (mE S0 (ov aH none)) { w with O:=none } bb,_,R++[bb.root],105,st.aO 105, ?_,.inr ⟨rfl,by simp only[E8,seval]<;>omega⟩,.inl rfl,Sc,Ci,LO.trans hC, ?_,rfl⟩
        ·rw[Kt];simp only[E8,seval,hI]<;>rfl
        ·rw[List.length_append,List.length_cons,List.length_nil];omega
      ·have uD:(g=st.aO 105)=False:=eq_false (by omega)
       refine oF (st':=?_) ?_ ((ol (kP (mE S0 (ov aH none)) { w with O:=none } bb).O).length) (by omega) ?_
       rotate_left
       ·simp only[Z8,seval,hI,bA,q0,q1,q2,q3,q4,hw,wE,Int.toNat_natCast,iB,iC,oB,Option.isSome_some,Option.map_some,Option.some.injEq,hT,hD,Wm,Jn,e1,e2,uD,bt pY,DI,pA,nN _ _ _ _ nR];rfl
       ·refine⟨S2,kP (mE S0 (ov aH none)) { w with O:=none } bb,_,R++[bb.root],105,st.aO 105, ?_,.inr ⟨rfl,by simp only[E8,seval]<;>omega⟩,.inl rfl,Sc,Ci,LO.trans hC, ?_,rfl⟩
        ·rw[Kt];simp only[E8,seval,hI]<;>rfl
        ·rw[List.length_append,List.length_cons,List.length_nil];omega
     ·have eL:ol w.O=L:=by rw[hL];rfl
      have LP:(g'=st.aO 91)=False:=eq_false (by omega)
      obtain⟨X1,LQ,Gt⟩:=Qa (L:=L) (k:=k) (by rw[← eL];omega) 91 g'
      obtain⟨X2,LR,Gu⟩:=Cd (L:=L) (k:=k+1) (by rw[← eL];omega) 91 g'
      have Wn:(k:Int)<(L.length:Int):=by rw[← eL];omega
      have Wo:=yP (T:=74) (n:=L.length) (k:=238) q0 Wn SU (by decide) (by decide)
      simp only[Int.toNat_natCast] at Wo;subst eL;rcases FI with ⟨rfl,rfl⟩|⟨rfl,hg⟩
      ·refine oF (st':=?_) ?_ ((ol (kP (mE S0 (ov aH none)) { w with O:=none } bb).O).length) (by omega) ?_
       rotate_left
       ·simp only[Z8,seval,hI,bA,q0,q1,q2,q3,q4,hw,wE,Int.toNat_natCast,iB,iC,oB,Option.isSome_some,Option.map_some,Option.some.injEq,hT,hD,Wm,Jn,AH,LP,LQ _ _,Gt,LR _ _,Gu,Wn,Wo,bt pY,DI,pA,nN _ _ _ _ nR];rfl
       ·refine⟨S2,kP (mE S0 (ov aH none)) { w with O:=none } bb,_,R++[bb.root],105,st.aO 105, ?_,.inr ⟨rfl,by simp only[E8,seval]<;>omega⟩,.inl rfl,Sc,Ci,LO.trans hC, ?_,rfl⟩
        ·rw[Kt];simp only[E8,seval,hI]<;>rfl
        ·rw[List.length_append,List.length_cons,List.length_nil];omega
      ·have uD:(g=st.aO 105)=False:=eq_false (by omega)
       refine oF (st':=?_) ?_ ((ol (kP (mE S0 (ov aH none)) { w with O:=none } bb).O).length) (by omega) ?_
       rotate_left
       ·simp only[Z8,seval,hI,bA,q0,q1,q2,q3,q4,hw,wE,Int.toNat_natCast,iB,iC,oB,Option.isSome_some,Option.map_some,Option.some.injEq,hT,hD,Wm,Jn,AH,LP,LQ _ _,Gt,LR _ _,Gu,Wn,Wo,uD,bt pY,DI,pA,nN _ _ _ _ nR];rfl
       ·refine⟨S2,kP (mE S0 (ov aH none)) { w with O:=none } bb,_,R++[bb.root],105,st.aO 105, ?_,.inr ⟨rfl,by simp only[E8,seval]<;>omega⟩,.inl rfl,Sc,Ci,LO.trans hC, ?_,rfl⟩
        ·rw[Kt];simp only[E8,seval,hI]<;>rfl
        ·rw[List.length_append,List.length_cons,List.length_nil];omega
    ·simp only[mE] at Wm Jn hI;rcases hX with rfl|⟨g',L,hL,rfl,hg1,AH⟩
     ·rcases FI with ⟨rfl,rfl⟩|⟨rfl,hg⟩
      ·refine oF (st':=?_) ?_ 0 (by omega) ?_
       rotate_left
       ·simp only[Z8,seval,hI,bA,q0,q1,q2,q3,q4,hw,wE,Int.toNat_natCast,iB,iC,oB,Option.isSome_some,Option.map_some,Option.some.injEq,hT,hD,Wm,Jn,e1,e2,bf pY];rfl
       ·refine⟨(mE S0 (ov aH none)),{ w with O:=none },ov aH none,R,_,_, ?_,.inl ⟨rfl,rfl⟩,.inl rfl,Nf,Ch,hC,by show R.length+0≤_;omega,rfl⟩
        simp only[E8,seval,hI]<;>rfl
      ·have uD:(g=st.aO 105)=False:=eq_false (by omega)
       refine oF (st':=?_) ?_ 0 (by omega) ?_
       rotate_left
       ·simp only[Z8,seval,hI,bA,q0,q1,q2,q3,q4,hw,wE,Int.toNat_natCast,iB,iC,oB,Option.isSome_some,Option.map_some,Option.some.injEq,hT,hD,Wm,Jn,e1,e2,uD,bf pY];rfl
       ·refine⟨(mE S0 (ov aH none)),{ w with O:=none },ov aH none,R,_,_, ?_,.inr ⟨rfl,by simp only[E8,seval]<;>omega⟩,.inl rfl,Nf,Ch,hC,by show R.length+0≤_;omega,rfl⟩
        simp only[E8,seval,hI]<;>rfl
     ·have eL:ol w.O=L:=by rw[hL];rfl
      have LP:(g'=st.aO 91)=False:=eq_false (by omega)
      obtain⟨X1,LQ,Gt⟩:=Qa (L:=L) (k:=k) (by rw[← eL];omega) 91 g'
      obtain⟨X2,LR,Gu⟩:=Cd (L:=L) (k:=k+1) (by rw[← eL];omega) 91 g'
      have Wn:(k:Int)<(L.length:Int):=by rw[← eL];omega
      have Wo:=yP (T:=74) (n:=L.length) (k:=238) q0 Wn SU (by decide) (by decide)
      simp only[Int.toNat_natCast] at Wo;subst eL;rcases FI with ⟨rfl,rfl⟩|⟨rfl,hg⟩
      ·refine oF (st':=?_) ?_ 0 (by omega) ?_
       rotate_left
       ·simp only[Z8,seval,hI,bA,q0,q1,q2,q3,q4,hw,wE,Int.toNat_natCast,iB,iC,oB,Option.isSome_some,Option.map_some,Option.some.injEq,hT,hD,Wm,Jn,AH,LP,LQ _ _,Gt,LR _ _,Gu,Wn,Wo,bf pY];rfl
       ·refine⟨(mE S0 (ov aH none)),{ w with O:=none },ov aH none,R,_,_, ?_,.inl ⟨rfl,rfl⟩,.inl rfl,Nf,Ch,hC,by show R.length+0≤_;omega,rfl⟩
        simp only[E8,seval,hI]<;>rfl
      ·have uD:(g=st.aO 105)=False:=eq_false (by omega)
       refine oF (st':=?_) ?_ 0 (by omega) ?_
       rotate_left
       ·simp only[Z8,seval,hI,bA,q0,q1,q2,q3,q4,hw,wE,Int.toNat_natCast,iB,iC,oB,Option.isSome_some,Option.map_some,Option.some.injEq,hT,hD,Wm,Jn,AH,LP,LQ _ _,Gt,LR _ _,Gu,Wn,Wo,uD,bf pY];rfl
       ·refine⟨(mE S0 (ov aH none)),{ w with O:=none },ov aH none,R,_,_, ?_,.inr ⟨rfl,by simp only[E8,seval]<;>omega⟩,.inl rfl,Nf,Ch,hC,by show R.length+0≤_;omega,rfl⟩
        simp only[E8,seval,hI]<;>rfl
   have AG:(LL.length=0)=False:=eq_false fun h=>hz (List.length_eq_zero_iff.1 h)
   have Nf:=hG.SA (some LL) (by show ((LL.length:Nat):Int)≤_;omega)
   have rX:=aPh hG.sd Nf bb 91
   have nP:=aKC hG.sd Nf 91
   have hO2:(ol (kP (mE S0 (ov aH (some LL))) { w with O:=some LL } bb).O).length≤LL.length:=SE _ _ _
   obtain⟨c,hc⟩:∃c,Jl (mE S0 (ov aH (some LL))) { w with O:=some LL } bb=c:=⟨_,rfl⟩
   rw[hc] at rX
   have Ch:=nM.SA (some LL) (ov aH (some LL)) (fun b hb=>nM.or b (hmem b hb)) (fun e=>hz (by injection e))
   have eO:∀x,mE (mE S0 (ov aH (some LL))) x=mE S0 x:=fun x=>rfl
   by_cases vM:k=0
   ·have hT:((ol w.O).take k).length=0:=by rw[vM];rfl
    have hD:(ol w.O).drop (k+1)=LL:=by rw[← Zx,vM];rfl
    have n3:((LL.length:Nat):Int)<1000000:=by omega
    by_cases pY:c=0
    · -- taken in
     rw[pY] at hc;have Sc:=Nf.ins hc
     have Ci:=Ch.ins (nM.or bb hbm) hc
     have LO:=(Ai (mE S0 (ov aH (some LL))) { w with O:=some LL } bb).1
     have uX:=aDZ hG.sd Nf hc 91
     have pA:=KV Sc.sd
     obtain⟨S2,hS2⟩:∃S2,sH (mE S0 (ov aH (some LL))) { w with O:=some LL } bb=S2:=⟨_,rfl⟩
     rw[hS2] at uX Sc Ci pA LO
     have Kt:=sJ Sc.sd
     have FP:(ol (kP (mE S0 (ov aH (some LL))) { w with O:=some LL } bb).O).length<m:=by omega
     have FQ:(R++[bb.root]).length+(ol (kP (mE S0 (ov aH (some LL))) { w with O:=some LL } bb).O).length≤1+(ol v.O).length:=by rw[List.length_append,List.length_cons,List.length_nil];omega
     simp only[mE] at rX nP uX hI
     rcases hX with rfl|⟨g',L,hL,rfl,hg1,AH⟩
     · -- a list
      rcases FI with ⟨rfl,rfl⟩|⟨rfl,hg⟩
      · -- 66
       refine oF (st':=?_) ?_ ((ol (kP (mE S0 (ov aH (some LL))) { w with O:=some LL } bb).O).length) FP ?_
       rotate_left
       ·simp only[Z8,seval,hI,bA,q0,q1,q2,q3,q4,hw,wE,Int.toNat_natCast,iL _ n3,iB,iC,oB,Option.isSome_some,Option.map_some,Option.some.injEq,hT,AG,hD,rX,nP,e1,e2,bt pY,uX,pA,nN _ _ _ _ nR];rfl
       ·refine⟨S2,kP (mE S0 (ov aH (some LL))) { w with O:=some LL } bb,_,R++[bb.root],105,st.aO 105, ?_,.inr ⟨rfl,by simp only[E8,seval]<;>omega⟩,.inl rfl,Sc,Ci,LO.trans hC, ?_,rfl⟩
        ·rw[Kt];simp only[E8,seval,hI]<;>rfl
        ·exact FQ
      · -- 105
       have uD:(g=st.aO 105)=False:=eq_false (by omega)
       refine oF (st':=?_) ?_ ((ol (kP (mE S0 (ov aH (some LL))) { w with O:=some LL } bb).O).length) FP ?_
       rotate_left
       ·simp only[Z8,seval,hI,bA,q0,q1,q2,q3,q4,hw,wE,Int.toNat_natCast,iL _ n3,iB,iC,oB,Option.isSome_some,Option.map_some,Option.some.injEq,hT,AG,hD,rX,nP,e1,e2,uD,bt pY,uX,pA,nN _ _ _ _ nR];rfl
       ·refine⟨S2,kP (mE S0 (ov aH (some LL))) { w with O:=some LL } bb,_,R++[bb.root],105,st.aO 105, ?_,.inr ⟨rfl,by simp only[E8,seval]<;>omega⟩,.inl rfl,Sc,Ci,LO.trans hC, ?_,rfl⟩
        ·rw[Kt];simp only[E8,seval,hI]<;>rfl
        ·exact FQ
     · -- a row of its own
      have eL:ol w.O=L:=by rw[hL];rfl
      have LP:(g'=st.aO 91)=False:=eq_false (by omega)
      obtain⟨X1,LQ,Gt⟩:=Qa (L:=L) (k:=k) (by rw[← eL];omega) 91 g'
      obtain⟨X2,LR,Gu⟩:=Cd (L:=L) (k:=k+1) (by rw[← eL];omega) 91 g'
      have Wn:(k:Int)<(L.length:Int):=by rw[← eL];omega
      have Wo:=yP (T:=74) (n:=L.length) (k:=238) q0 Wn SU (by decide) (by decide)
      simp only[Int.toNat_natCast] at Wo;subst eL;rcases FI with ⟨rfl,rfl⟩|⟨rfl,hg⟩
      · -- 66
       refine oF (st':=?_) ?_ ((ol (kP (mE S0 (ov aH (some LL))) { w with O:=some LL } bb).O).length) FP ?_
       rotate_left
       ·simp only[Z8,seval,hI,bA,q0,q1,q2,q3,q4,hw,wE,Int.toNat_natCast,iL _ n3,iB,iC,oB,Option.isSome_some,Option.map_some,Option.some.injEq,hT,AG,hD,rX,nP,AH,LP,LQ _ _,Gt,LR _ _,Gu,Wn,Wo,bt pY,uX,pA,nN _ _ _ _ nR];rfl
       ·refine⟨S2,kP (mE S0 (ov aH (some LL))) { w with O:=some LL } bb,_,R++[bb.root],105,st.aO 105, ?_,.inr ⟨rfl,by simp only[E8,seval]<;>omega⟩,.inl rfl,Sc,Ci,LO.trans hC, ?_,rfl⟩
        ·rw[Kt];simp only[E8,seval,hI]<;>rfl
        ·exact FQ
      · -- 105
       have uD:(g=st.aO 105)=False:=eq_false (by omega)
       refine oF (st':=?_) ?_ ((ol (kP (mE S0 (ov aH (some LL))) { w with O:=some LL } bb).O).length) FP ?_
       rotate_left
       ·simp only[Z8,seval,hI,bA,q0,q1,q2,q3,q4,hw,wE,Int.toNat_natCast,iL _ n3,iB,iC,oB,Option.isSome_some,Option.map_some,Option.some.injEq,hT,AG,hD,rX,nP,AH,LP,LQ _ _,Gt,LR _ _,Gu,Wn,Wo,uD,bt pY,uX,pA,nN _ _ _ _ nR];rfl
       ·refine⟨S2,kP (mE S0 (ov aH (some LL))) { w with O:=some LL } bb,_,R++[bb.root],105,st.aO 105, ?_,.inr ⟨rfl,by simp only[E8,seval]<;>omega⟩,.inl rfl,Sc,Ci,LO.trans hC, ?_,rfl⟩
        ·rw[Kt];simp only[E8,seval,hI]<;>rfl
        ·exact FQ
    · -- left out
     have FP:LL.length<m:=by omega
     have FQ:R.length+LL.length≤1+(ol v.O).length:=by omega
     simp only[mE] at rX nP hI
     rcases hX with rfl|⟨g',L,hL,rfl,hg1,AH⟩
     · -- a list
      rcases FI with ⟨rfl,rfl⟩|⟨rfl,hg⟩
      · -- 66
       refine oF (st':=?_) ?_ (LL.length) FP ?_
       rotate_left
       ·simp only[Z8,seval,hI,bA,q0,q1,q2,q3,q4,hw,wE,Int.toNat_natCast,iL _ n3,iB,iC,oB,Option.isSome_some,Option.map_some,Option.some.injEq,hT,AG,hD,rX,nP,e1,e2,bf pY];rfl
       ·refine⟨(mE S0 (ov aH (some LL))),{ w with O:=some LL },_,R,_,_, ?_,.inl ⟨rfl,rfl⟩,.inr ⟨st.aO 91,_,rfl,rfl,by simp only[E8,seval]<;>omega,by simp only[E8,seval]<;>rfl⟩,Nf,Ch,hC,FQ,rfl⟩
        simp only[E8,seval,hI]<;>rfl
      · -- 105
       have uD:(g=st.aO 105)=False:=eq_false (by omega)
       refine oF (st':=?_) ?_ (LL.length) FP ?_
       rotate_left
       ·simp only[Z8,seval,hI,bA,q0,q1,q2,q3,q4,hw,wE,Int.toNat_natCast,iL _ n3,iB,iC,oB,Option.isSome_some,Option.map_some,Option.some.injEq,hT,AG,hD,rX,nP,e1,e2,uD,bf pY];rfl
       ·refine⟨(mE S0 (ov aH (some LL))),{ w with O:=some LL },_,R,_,_, ?_,.inr ⟨rfl,by simp only[E8,seval]<;>omega⟩,.inr ⟨st.aO 91,_,rfl,rfl,by simp only[E8,seval]<;>omega,by simp only[E8,seval]<;>rfl⟩,Nf,Ch,hC,FQ,rfl⟩
        simp only[E8,seval,hI]<;>rfl
     · -- a row of its own
      have eL:ol w.O=L:=by rw[hL];rfl
      have LP:(g'=st.aO 91)=False:=eq_false (by omega)
      obtain⟨X1,LQ,Gt⟩:=Qa (L:=L) (k:=k) (by rw[← eL];omega) 91 g'
      obtain⟨X2,LR,Gu⟩:=Cd (L:=L) (k:=k+1) (by rw[← eL];omega) 91 g'
      have Wn:(k:Int)<(L.length:Int):=by rw[← eL];omega
      have Wo:=yP (T:=74) (n:=L.length) (k:=238) q0 Wn SU (by decide) (by decide)
      simp only[Int.toNat_natCast] at Wo;subst eL;rcases FI with ⟨rfl,rfl⟩|⟨rfl,hg⟩
      · -- 66
       refine oF (st':=?_) ?_ (LL.length) FP ?_
       rotate_left
       ·simp only[Z8,seval,hI,bA,q0,q1,q2,q3,q4,hw,wE,Int.toNat_natCast,iL _ n3,iB,iC,oB,Option.isSome_some,Option.map_some,Option.some.injEq,hT,AG,hD,rX,nP,AH,LP,LQ _ _,Gt,LR _ _,Gu,Wn,Wo,bf pY];rfl
       ·refine⟨(mE S0 (ov aH (some LL))),{ w with O:=some LL },_,R,_,_, ?_,.inl ⟨rfl,rfl⟩,.inr ⟨st.aO 91,_,rfl,rfl,by simp only[E8,seval]<;>omega,by simp only[E8,seval]<;>rfl⟩,Nf,Ch,hC,FQ,rfl⟩
        simp only[E8,seval,hI]<;>rfl
      · -- 105
       have uD:(g=st.aO 105)=False:=eq_false (by omega)
       refine oF (st':=?_) ?_ (LL.length) FP ?_
       rotate_left
       ·simp only[Z8,seval,hI,bA,q0,q1,q2,q3,q4,hw,wE,Int.toNat_natCast,iL _ n3,iB,iC,oB,Option.isSome_some,Option.map_some,Option.some.injEq,hT,AG,hD,rX,nP,AH,LP,LQ _ _,Gt,LR _ _,Gu,Wn,Wo,uD,bf pY];rfl
       ·refine⟨(mE S0 (ov aH (some LL))),{ w with O:=some LL },_,R,_,_, ?_,.inr ⟨rfl,by simp only[E8,seval]<;>omega⟩,.inr ⟨st.aO 91,_,rfl,rfl,by simp only[E8,seval]<;>omega,by simp only[E8,seval]<;>rfl⟩,Nf,Ch,hC,FQ,rfl⟩
        simp only[E8,seval,hI]<;>rfl
   have hT:(((ol w.O).take k).length=0)=False:=eq_false (by rw[List.length_take];omega)
   by_cases pY:c=0
   · -- taken in
    rw[pY] at hc;have Sc:=Nf.ins hc
    have Ci:=Ch.ins (nM.or bb hbm) hc
    have LO:=(Ai (mE S0 (ov aH (some LL))) { w with O:=some LL } bb).1
    have uX:=aDZ hG.sd Nf hc 91
    have pA:=KV Sc.sd
    obtain⟨S2,hS2⟩:∃S2,sH (mE S0 (ov aH (some LL))) { w with O:=some LL } bb=S2:=⟨_,rfl⟩
    rw[hS2] at uX Sc Ci pA LO
    have Kt:=sJ Sc.sd
    have FP:(ol (kP (mE S0 (ov aH (some LL))) { w with O:=some LL } bb).O).length<m:=by omega
    have FQ:(R++[bb.root]).length+(ol (kP (mE S0 (ov aH (some LL))) { w with O:=some LL } bb).O).length≤1+(ol v.O).length:=by rw[List.length_append,List.length_cons,List.length_nil];omega
    simp only[mE] at rX nP uX hI
    rcases hX with rfl|⟨g',L,hL,rfl,hg1,AH⟩
    · -- a list
     rcases FI with ⟨rfl,rfl⟩|⟨rfl,hg⟩
     · -- 66
      refine oF (st':=?_) ?_ ((ol (kP (mE S0 (ov aH (some LL))) { w with O:=some LL } bb).O).length) FP ?_
      rotate_left
      ·simp only[Z8,seval,hI,bA,q0,q1,q2,q3,q4,hw,wE,Int.toNat_natCast,iL _ n1,qY _ _ _ _ n1 n2,iB,iC,oB,Option.isSome_some,Option.map_some,Option.some.injEq,hT,AG,Zx,rX,nP,e1,e2,bt pY,uX,pA,nN _ _ _ _ nR];rfl
      ·refine⟨S2,kP (mE S0 (ov aH (some LL))) { w with O:=some LL } bb,_,R++[bb.root],105,st.aO 105, ?_,.inr ⟨rfl,by simp only[E8,seval]<;>omega⟩,.inl rfl,Sc,Ci,LO.trans hC, ?_,rfl⟩
       ·rw[Kt];simp only[E8,seval,hI]<;>rfl
       ·exact FQ
     · -- 105
      have uD:(g=st.aO 105)=False:=eq_false (by omega)
      refine oF (st':=?_) ?_ ((ol (kP (mE S0 (ov aH (some LL))) { w with O:=some LL } bb).O).length) FP ?_
      rotate_left
      ·simp only[Z8,seval,hI,bA,q0,q1,q2,q3,q4,hw,wE,Int.toNat_natCast,iL _ n1,qY _ _ _ _ n1 n2,iB,iC,oB,Option.isSome_some,Option.map_some,Option.some.injEq,hT,AG,Zx,rX,nP,e1,e2,uD,bt pY,uX,pA,nN _ _ _ _ nR];rfl
      ·refine⟨S2,kP (mE S0 (ov aH (some LL))) { w with O:=some LL } bb,_,R++[bb.root],105,st.aO 105, ?_,.inr ⟨rfl,by simp only[E8,seval]<;>omega⟩,.inl rfl,Sc,Ci,LO.trans hC, ?_,rfl⟩
       ·rw[Kt];simp only[E8,seval,hI]<;>rfl
       ·exact FQ
    · -- a row of its own
     have eL:ol w.O=L:=by rw[hL];rfl
     have LP:(g'=st.aO 91)=False:=eq_false (by omega)
     obtain⟨X1,LQ,Gt⟩:=Qa (L:=L) (k:=k) (by rw[← eL];omega) 91 g'
     obtain⟨X2,LR,Gu⟩:=Cd (L:=L) (k:=k+1) (by rw[← eL];omega) 91 g'
     have Wn:(k:Int)<(L.length:Int):=by rw[← eL];omega
     have Wo:=yP (T:=74) (n:=L.length) (k:=238) q0 Wn SU (by decide) (by decide)
     simp only[Int.toNat_natCast] at Wo;subst eL;rcases FI with ⟨rfl,rfl⟩|⟨rfl,hg⟩
     · -- 66
      refine oF (st':=?_) ?_ ((ol (kP (mE S0 (ov aH (some LL))) { w with O:=some LL } bb).O).length) FP ?_
      rotate_left
      ·simp only[Z8,seval,hI,bA,q0,q1,q2,q3,q4,hw,wE,Int.toNat_natCast,iL _ n1,qY _ _ _ _ n1 n2,iB,iC,oB,Option.isSome_some,Option.map_some,Option.some.injEq,hT,AG,Zx,rX,nP,AH,LP,LQ _ _,Gt,LR _ _,Gu,Wn,Wo,bt pY,uX,pA,nN _ _ _ _ nR];rfl
      ·refine⟨S2,kP (mE S0 (ov aH (some LL))) { w with O:=some LL } bb,_,R++[bb.root],105,st.aO 105, ?_,.inr ⟨rfl,by simp only[E8,seval]<;>omega⟩,.inl rfl,Sc,Ci,LO.trans hC, ?_,rfl⟩
       ·rw[Kt];simp only[E8,seval,hI]<;>rfl
       ·exact FQ
     · -- 105
      have uD:(g=st.aO 105)=False:=eq_false (by omega)
      refine oF (st':=?_) ?_ ((ol (kP (mE S0 (ov aH (some LL))) { w with O:=some LL } bb).O).length) FP ?_
      rotate_left
      ·simp only[Z8,seval,hI,bA,q0,q1,q2,q3,q4,hw,wE,Int.toNat_natCast,iL _ n1,qY _ _ _ _ n1 n2,iB,iC,oB,Option.isSome_some,Option.map_some,Option.some.injEq,hT,AG,Zx,rX,nP,AH,LP,LQ _ _,Gt,LR _ _,Gu,Wn,Wo,uD,bt pY,uX,pA,nN _ _ _ _ nR];rfl
      ·refine⟨S2,kP (mE S0 (ov aH (some LL))) { w with O:=some LL } bb,_,R++[bb.root],105,st.aO 105, ?_,.inr ⟨rfl,by simp only[E8,seval]<;>omega⟩,.inl rfl,Sc,Ci,LO.trans hC, ?_,rfl⟩
       ·rw[Kt];simp only[E8,seval,hI]<;>rfl
       ·exact FQ
   · -- left out
    have FP:LL.length<m:=by omega
    have FQ:R.length+LL.length≤1+(ol v.O).length:=by omega
    simp only[mE] at rX nP hI
    rcases hX with rfl|⟨g',L,hL,rfl,hg1,AH⟩
    · -- a list
     rcases FI with ⟨rfl,rfl⟩|⟨rfl,hg⟩
     · -- 66
      refine oF (st':=?_) ?_ (LL.length) FP ?_
      rotate_left
      ·simp only[Z8,seval,hI,bA,q0,q1,q2,q3,q4,hw,wE,Int.toNat_natCast,iL _ n1,qY _ _ _ _ n1 n2,iB,iC,oB,Option.isSome_some,Option.map_some,Option.some.injEq,hT,AG,Zx,rX,nP,e1,e2,bf pY];rfl
      ·refine⟨(mE S0 (ov aH (some LL))),{ w with O:=some LL },_,R,_,_, ?_,.inl ⟨rfl,rfl⟩,.inr ⟨st.aO 91,_,rfl,rfl,by simp only[E8,seval]<;>omega,by simp only[E8,seval]<;>rfl⟩,Nf,Ch,hC,FQ,rfl⟩
       simp only[E8,seval,hI]<;>rfl
     · -- 105
      have uD:(g=st.aO 105)=False:=eq_false (by omega)
      refine oF (st':=?_) ?_ (LL.length) FP ?_
      rotate_left
      ·simp only[Z8,seval,hI,bA,q0,q1,q2,q3,q4,hw,wE,Int.toNat_natCast,iL _ n1,qY _ _ _ _ n1 n2,iB,iC,oB,Option.isSome_some,Option.map_some,Option.some.injEq,hT,AG,Zx,rX,nP,e1,e2,uD,bf pY];rfl
      ·refine⟨(mE S0 (ov aH (some LL))),{ w with O:=some LL },_,R,_,_, ?_,.inr ⟨rfl,by simp only[E8,seval]<;>omega⟩,.inr ⟨st.aO 91,_,rfl,rfl,by simp only[E8,seval]<;>omega,by simp only[E8,seval]<;>rfl⟩,Nf,Ch,hC,FQ,rfl⟩
       simp only[E8,seval,hI]<;>rfl
    · -- a row of its own
     have eL:ol w.O=L:=by rw[hL];rfl
     have LP:(g'=st.aO 91)=False:=eq_false (by omega)
     obtain⟨X1,LQ,Gt⟩:=Qa (L:=L) (k:=k) (by rw[← eL];omega) 91 g'
     obtain⟨X2,LR,Gu⟩:=Cd (L:=L) (k:=k+1) (by rw[← eL];omega) 91 g'
     have Wn:(k:Int)<(L.length:Int):=by rw[← eL];omega
     have Wo:=yP (T:=74) (n:=L.length) (k:=238) q0 Wn SU (by decide) (by decide)
     simp only[Int.toNat_natCast] at Wo;subst eL;rcases FI with ⟨rfl,rfl⟩|⟨rfl,hg⟩
     · -- 66
      refine oF (st':=?_) ?_ (LL.length) FP ?_
      rotate_left
      ·simp only[Z8,seval,hI,bA,q0,q1,q2,q3,q4,hw,wE,Int.toNat_natCast,iL _ n1,qY _ _ _ _ n1 n2,iB,iC,oB,Option.isSome_some,Option.map_some,Option.some.injEq,hT,AG,Zx,rX,nP,AH,LP,LQ _ _,Gt,LR _ _,Gu,Wn,Wo,bf pY];rfl
      ·refine⟨(mE S0 (ov aH (some LL))),{ w with O:=some LL },_,R,_,_, ?_,.inl ⟨rfl,rfl⟩,.inr ⟨st.aO 91,_,rfl,rfl,by simp only[E8,seval]<;>omega,by simp only[E8,seval]<;>rfl⟩,Nf,Ch,hC,FQ,rfl⟩
       simp only[E8,seval,hI]<;>rfl
     · -- 105
      have uD:(g=st.aO 105)=False:=eq_false (by omega)
      refine oF (st':=?_) ?_ (LL.length) FP ?_
      rotate_left
      ·simp only[Z8,seval,hI,bA,q0,q1,q2,q3,q4,hw,wE,Int.toNat_natCast,iL _ n1,qY _ _ _ _ n1 n2,iB,iC,oB,Option.isSome_some,Option.map_some,Option.some.injEq,hT,AG,Zx,rX,nP,AH,LP,LQ _ _,Gt,LR _ _,Gu,Wn,Wo,uD,bf pY];rfl
      ·refine⟨(mE S0 (ov aH (some LL))),{ w with O:=some LL },_,R,_,_, ?_,.inr ⟨rfl,by simp only[E8,seval]<;>omega⟩,.inr ⟨st.aO 91,_,rfl,rfl,by simp only[E8,seval]<;>omega,by simp only[E8,seval]<;>rfl⟩,Nf,Ch,hC,FQ,rfl⟩
       simp only[E8,seval,hI]<;>rfl
 obtain⟨r,h,hq⟩:=key
 cases hx:yB Tryz.prog Al st with
 | none=>rw[hx] at h;cases h
 | some y=>rw[hx] at h;simp only[cT,Option.some.injEq] at h;subst h;exact⟨y.1,y.2,rfl,hq⟩
theorem LS {s:aN} (h:1≤s.cFg.qG) {x y:Int} (hx:0≤x) (hxy:x≤y) (hy:y<18446744073709551616):Dg s x≤Dg s y:=by
 have e:∀z:Int,0≤z→z<18446744073709551616→Dg s z=z / s.cFg.qG:=fun z h0 h1=>by
  unfold Dg;rw[Int.tdiv_eq_ediv_of_nonneg h0];have:=Int.ediv_le_self s.cFg.qG h0
  exact wrap_u64 _ (Int.ediv_nonneg h0 (by omega)) (by omega)
 rw[e x hx (by omega),e y (by omega) hy]
 exact Int.ediv_le_ediv (by omega) hxy
theorem aBk {acc:Bool × fK × fK} {n:Node} (h1:Rg acc.2.1.aK) (h2:Rg acc.2.2.aK) (hn:RB n.block):Rg (KT acc n).2.1.aK∧Rg (KT acc n).2.2.aK:=by
 unfold KT;split
 ·exact⟨h1,h2⟩
 ·refine⟨?_, ?_⟩
  ·dsimp only;split
   ·exact hn.pj
   ·exact h1
  ·dsimp only;split
   ·exact hn.pf
   ·exact h2
theorem aBl {ns:List Node} (h:∀n∈ns,RB n.block):Rg (Ix ns).pj.aK∧Rg (Ix ns).pf.aK:=by
 have key:∀(l:List Node) (acc:Bool × fK × fK),(∀n∈l,RB n.block)→Rg acc.2.1.aK→Rg acc.2.2.aK→Rg (l.foldl KT acc).2.1.aK∧Rg (l.foldl KT acc).2.2.aK:=by
  intro l;induction l with
  | nil=>intro acc _ h1 h2;exact⟨h1,h2⟩
  | cons n l ih =>
    intro acc hl h1 h2;have hs:=aBk h1 h2 (hl n (List.mem_cons_self ..))
    exact ih _ (fun x hx=>hl x (List.mem_cons_of_mem _ hx)) hs.1 hs.2
 exact key ns _ h ⟨by show (0:Int)≤0;omega,by show (0:Int)<_;omega⟩ ⟨by show (0:Int)≤0;omega,by show (0:Int)<_;omega⟩
theorem Im (s:aN) (X:AV):(vS s X).now=s.now:=rfl
theorem xT (s:aN) (X:AV):(vS s X).dQ.early=X:=rfl
theorem Wp {s:aN} {v:SV} (h:SD s v) {L:List rQ} (hL:∀x∈L,Flat x.eK) (st:St) {g:Nat} (hh:st.heap 61 g=some (.row 87 67 L.length (dC L))):eT st (.agg (aB (vS s (.own 61 g))))=some (.agg (aB (vS s (ov dC (some L))))):=by
 have lO:=h.fl
 have hx:=L4 L.length L hL
 unfold vS;simp only[bO,gB,bC,hh,hx,cE,dU,lO,cT];rfl
theorem aKD {call:Nat→List AV→Option AV} {inl:Nat→List AV→St→Option (AV × St)} {ops:Array Oper} {st:St} {T:Nat} {pos:String} {eG:Array Edge} (x:Array Operand) (y:Array Nat) :
 gK Tryz.prog true call inl ops ⟨some 80,.call ⟨.value (.func 44),x,y⟩,T,pos,eG,none⟩ st=cH (inl 44 (x.toList.map st.ev) st) fun r=>some ((st.back r.2).put (some 80) r.1):=SW 44 x y (Wq rfl)
noncomputable def Io:Code:=jX (Tryz.f202.body.getD .skip)
def aPk (c0:Config) (E:Option (List rQ)) (q:Int) (m:Nat) (st:St):Prop:=∃(k:Nat) (S:aN) (w:SV) (X:AV),(st.env 1=.ptr 1 0 0∧st.heap 1 0=some (.cells (aB (vS S X)))∧st.env 2=.ptr 2 0 0∧st.heap 2 0=some (.cells (aB gE))∧st.env 5=ov dC E∧st.env 6=.v (.int .i64 k)∧0<st.aO 1∧0<st.aO 2)∧((X=.v (.slice none 0 0)∧w.E=none)∨∃g L,w.E=some L∧X=.own 61 g∧g<st.aO 61∧st.heap 61 g=some (.row 87 67 L.length (dC L)))∧GI (vS S (ov dC w.E)) w q∧RG (vS S (ov dC w.E)) w∧S.cFg=c0∧(ol w.E).length≤k∧k≤(ol E).length∧m=(ol E).length-k
def aBm (c0:Config) (q:Int) (e:Ex) (st:St):Prop:=e=.exit 0∧∃(S:aN) (w:SV) (X:AV),(st.env 1=.ptr 1 0 0∧st.heap 1 0=some (.cells (aB (vS S X)))∧st.env 2=.ptr 2 0 0∧st.heap 2 0=some (.cells (aB gE)))∧((X=.v (.slice none 0 0)∧w.E=none)∨∃g L,w.E=some L∧X=.own 61 g∧st.heap 61 g=some (.row 87 67 L.length (dC L)))∧GI (vS S (ov dC w.E)) w q∧RG (vS S (ov dC w.E)) w∧S.cFg=c0
theorem L5 {c0:Config} {E:Option (List rQ)} {q:Int} (hE:∀a∈ol E,Ev a) (hEa:∀a∈ol E,∃V,a.eK=ov aJ (some V)∧V≠[]) (nE:((ol E).length:Int)≤c0.lT.pM) (nE':((ol E).length:Int)<900000) {m:Nat} {st:St} (hs:aPk c0 E q m st):∃e st',vT Tryz.prog true Io st=some (e,st')∧aBm c0 q e st':=by
 have key:∃r,cH (vT Tryz.prog true Io st) some=some r∧aBm c0 q r.1 r.2:=by
  unfold Io;simp only[Tryz.f202,Option.getD_some,jX];refine nJ (fun m st=>∃(k:Nat) (S:aN) (w:SV) (X:AV),(st.env 1=.ptr 1 0 0∧st.heap 1 0=some (.cells (aB (vS S X)))∧st.env 2=.ptr 2 0 0∧st.heap 2 0=some (.cells (aB gE))∧st.env 5=ov dC E∧st.env 6=.v (.int .i64 k)∧0<st.aO 1∧0<st.aO 2)∧((X=.v (.slice none 0 0)∧w.E=none)∨∃g L,w.E=some L∧X=.own 61 g∧g<st.aO 61∧st.heap 61 g=some (.row 87 67 L.length (dC L)))∧GI (vS S (ov dC w.E)) w q∧RG (vS S (ov dC w.E)) w∧S.cFg=c0∧(ol w.E).length≤k∧k≤(ol E).length∧m=(ol E).length-k) (fun e st=>e=.exit 0∧∃(S:aN) (w:SV) (X:AV),(st.env 1=.ptr 1 0 0∧st.heap 1 0=some (.cells (aB (vS S X)))∧st.env 2=.ptr 2 0 0∧st.heap 2 0=some (.cells (aB gE)))∧((X=.v (.slice none 0 0)∧w.E=none)∨∃g L,w.E=some L∧X=.own 61 g∧st.heap 61 g=some (.row 87 67 L.length (dC L)))∧GI (vS S (ov dC w.E)) w q∧RG (vS S (ov dC w.E)) w∧S.cFg=c0) m ?step ?start ?rest
  case start=>exact hs
  case rest=>exact fun e st h=>⟨_,rfl,h⟩
  case step =>
   clear hs
   rintro m st ⟨k,S,w,X,hI,hX,hG,nM,hC,hF,hk,hm⟩
   by_cases bA:(k:Int)<(ol E).length
   case neg =>
    have hX':(X=.v (.slice none 0 0)∧w.E=none)∨∃g L,w.E=some L∧X=.own 61 g∧st.heap 61 g=some (.row 87 67 L.length (dC L)):=hX.imp id fun ⟨g,L,h1,h2,_,h4⟩=>⟨g,L,h1,h2,h4⟩
    apply QN (.exit 0)
    ·simp only[ZG,seval,Bool.false_and,Prod.mk.injEq,Am,hI,bA];rfl
    ·exact⟨rfl,S,w,X,by simp only[E8,seval,hI],by simpa only[E8,seval] using hX',hG,nM,hC⟩
   have q0:(0:Int)≤k:=by omega
   have hw:IntKind.i64.wrap ((k:Int)+1)=((k+1:Nat):Int):=by rw[pV _ (by omega) (by omega)];omega
   obtain⟨a,ea⟩:∃a,gx Ku (ol E) (k:Int)=a:=⟨_,rfl⟩
   have ha:Ev a:=by rw[← ea];exact hE _ (yI q0 bA)
   have hEa':∃V,a.eK=ov aJ (some V)∧V≠[]:=by rw[← ea];exact hEa _ (yI q0 bA)
   obtain⟨V,hV,nV⟩:=id ha
   have fa:Flat (.agg (iF a)):=(Ba a).2 ha.fl
   have fl9:=hG.sd.flat
   by_cases g1:S.now≤a.slot
   · -- kept
    rcases hX with ⟨rfl,Ws⟩|⟨g,L,Ws,rfl,hg,hh⟩
    ·have Nf:=hG.early (some [a]) (by intro b hb;rw[show b=a by simpa [ol] using hb];exact ha) (by show ((1:Nat):Int)≤S.cFg.lT.pM;rw[hC];omega)
     have Ch:RG (vS S (ov dC (some [a]))) { w with E:=some [a]}:=⟨nM.now,nM.j,nM.f,nM.nd,nM.or,nM.rt,nM.fe,nM.ds,nM.tb,⟨nM.ne.q,by simp,nM.ne.o,nM.ne.t,fun b hb=>by rw[show b=a by simpa [ol] using hb];exact hEa' ,nM.ne.tb⟩⟩
     have an1:=FR a
     apply Fl ((ol E).length-(k+1))
     ·simp only[ZG,seval,Bool.false_and,Prod.mk.injEq,Am,hI,bA,q0,ea,Im,xT,g1,fa,an1,hw];rfl
     ·exact⟨k+1,S,{ w with E:=some [a]},_,by and_intros<;>(simp only[E8,seval,hI]<;>rfl),.inr ⟨_,[a],rfl,rfl,by simp only[E8,seval]<;>omega,by simp only[E8,seval]<;>rfl⟩,Nf,Ch,hC,by show 1≤k+1;omega,by omega,rfl⟩
    ·have hlL:L.length≤k:=by rw[Ws] at hF;exact hF
     have nL:(L.length:Int)<1000000:=by omega
     have uD:(g=st.aO 61)=False:=eq_false (by omega)
     have Nf:=hG.early (some (L++[a])) (by
      intro b hb;rcases List.mem_append.1 (show b∈L++[a] from hb) with hb|hb
      ·exact hG.sd.eV b (by rw[Ws];exact hb)
      ·rw[List.mem_singleton] at hb;rw[hb];exact ha) (by show (((L++[a]).length:Nat):Int)≤S.cFg.lT.pM;rw[hC,List.length_append,List.length_cons,List.length_nil];omega)
     have Ch:RG (vS S (ov dC (some (L++[a])))) { w with E:=some (L++[a])}:=⟨nM.now,nM.j,nM.f,nM.nd,nM.or,nM.rt,nM.fe,nM.ds,nM.tb,⟨nM.ne.q,by simp,nM.ne.o,nM.ne.t,fun b hb=>by rcases List.mem_append.1 (show b∈L++[a] from hb) with hb|hb;exact nM.ne.ea b (by rw[Ws];exact hb);rw[List.mem_singleton] at hb;rw[hb];exact hEa',nM.ne.tb⟩⟩
     apply Fl ((ol E).length-(k+1))
     ·simp only[ZG,seval,Bool.false_and,Prod.mk.injEq,Am,hI,hh,uD,bA,q0,ea,Im,xT,g1,fa,Uh _ _ _ _ nL,hw];rfl
     ·exact⟨k+1,S,{ w with E:=some (L++[a])},_,by and_intros<;>(simp only[E8,seval,hI]<;>rfl),.inr ⟨_,L++[a],rfl,rfl,by simp only[E8,seval]<;>omega,by simp only[E8,seval]<;>rfl⟩,Nf,Ch,hC,by show (L++[a]).length≤k+1;rw[List.length_append,List.length_cons,List.length_nil];omega,by omega,rfl⟩
   ·have c39':=c39 hG.sd hG.up hG.sp a V hV (by omega)
    have k39:∀(st:St) (d:Option Nat),eT st (.agg (aB (vS S X)))=some (.agg (aB (vS S (ov dC w.E))))→aP (aD Tryz.prog) 39 [.agg (aB (vS S X)),.agg (iF a)] st d=some { dst:=d,val:=.eB [.v (.bool (Fv (vS S (ov dC w.E)) w a (ol V)).1),.v (.int .i64 (Fv (vS S (ov dC w.E)) w a (ol V)).2)]}:=by
     intro st d hx;rw[lC,List.map_cons,List.map_cons,List.map_nil,hx,dL fa,bK,bK,gC];exact ZF c39' (by intro x hx;simp only[List.mem_cons,List.not_mem_nil,or_false] at hx;rcases hx with rfl|rfl<;>exact .v _) (.eB _ (bI (.v _) (.v _)))
    have Sc:GI (vS (Pz S w a (ol V)) (ov dC w.E)) { w with L:=some (tL (ol w.L) a.target.aK a.root (ol V)).1 } q:=hG.cast a (ol V)
    have Ci:RG (vS (Pz S w a (ol V)) (ov dC w.E)) { w with L:=some (tL (ol w.L) a.target.aK a.root (ol V)).1 }:=⟨nM.now,nM.j,nM.f,nM.nd,nM.or,nM.rt,nM.fe,nM.ds,nM.tb,⟨nM.ne.q,nM.ne.e,nM.ne.o,nM.ne.t,nM.ne.ea,nM.ne.tb⟩⟩
    rcases hX with ⟨rfl,Ws⟩|⟨g,L,Ws,rfl,hg,hh⟩
    ·have e0:ov dC w.E=.v (.slice none 0 0):=by rw[Ws];rfl
     have k39n:=fun st d=>k39 st d (by rw[e0];rw[e0] at fl9;exact dL fl9)
     by_cases g2:(Fv (vS S (ov dC w.E)) w a (ol V)).2=0
     case neg =>
      apply Fl ((ol E).length-(k+1))
      ·simp only[ZG,seval,Bool.false_and,Prod.mk.injEq,Am,hI,bA,q0,ea,Im,xT,g1,k39n,dT,bf g2,hw];rfl
      ·exact⟨k+1,S,w,_,by and_intros<;>(simp only[E8,seval,hI]<;>rfl),.inl ⟨rfl,Ws⟩,hG,nM,hC,by omega,by omega,rfl⟩
     have hr:∀x∈ol V,0≤x∧x<(ol w.L).length:=by rw[hG.KY];exact SH (FG g2)
     obtain⟨G,Qe⟩:=aDX hG.sd (.v (.slice none 0 0)) a V hV (by omega) hr
     have kG:∀st,Cg Tryz.prog 44 [.agg (aB (vS S (.v (.slice none 0 0)))),.agg (iF a)] st=some (.agg (aB (vS (Pz S w a (ol V)) (.v (.slice none 0 0)))),G st):=fun st=>(Qe st).1
     have f1:∀st:St,0<st.aO 1→(G st).heap 1 0=st.heap 1 0:=fun st h=>(Qe st).2.1 1 0 h
     have f2:∀st:St,0<st.aO 2→(G st).heap 2 0=st.heap 2 0:=fun st h=>(Qe st).2.1 2 0 h
     have c1:∀st:St,0<st.aO 1→(0<(G st).aO 1)=True:=fun st h=>eq_true (Nat.lt_of_lt_of_le h ((Qe st).2.2 1))
     have c2:∀st:St,0<st.aO 2→(0<(G st).aO 2)=True:=fun st h=>eq_true (Nat.lt_of_lt_of_le h ((Qe st).2.2 2))
     apply Fl ((ol E).length-(k+1))
     ·simp only[ZG,seval,Bool.false_and,Prod.mk.injEq,Am,hI,bA,q0,ea,Im,xT,g1,k39n,dT,bt g2,aKD,kG,f1,eY,dG,cA,hw];rfl
     ·exact⟨k+1,Pz S w a (ol V),{ w with L:=some (tL (ol w.L) a.target.aK a.root (ol V)).1 },_,⟨by simp only[E8,seval,hI,eY],by simp only[E8,seval,hI,dG,cA]<;>rfl,by simp only[E8,seval,hI,eY],by simp only[E8,seval,hI,dG,cA,f2],by simp only[E8,seval,hI,eY],by simp only[E8,seval,hI,eY],by simp only[E8,seval,hI,cA,c1],by simp only[E8,seval,hI,cA,c2]⟩,.inl ⟨rfl,Ws⟩,Sc,Ci,hC,by show (ol w.E).length≤k+1;omega,by omega,rfl⟩
    ·have hLf:∀x∈L,Flat x.eK:=fun x hx=>(hG.sd.eV x (by rw[Ws];exact hx)).fl
     have k39o:∀(st:St) (d:Option Nat),st.heap 61 g=some (.row 87 67 L.length (dC L))→_:=fun st d h61=>k39 st d (by rw[Ws];exact Wp hG.sd hLf st h61)
     by_cases g2:(Fv (vS S (ov dC w.E)) w a (ol V)).2=0
     case neg =>
      apply Fl ((ol E).length-(k+1))
      ·simp only[ZG,seval,Bool.false_and,Prod.mk.injEq,Am,hI,hh,bA,q0,ea,Im,xT,g1,k39o,dT,bf g2,hw];rfl
      ·exact⟨k+1,S,w,_,by and_intros<;>(simp only[E8,seval,hI]<;>rfl),.inr ⟨g,L,Ws,rfl,by simp only[E8,seval]<;>omega,by simp only[E8,seval,hh]⟩,hG,nM,hC,by omega,by omega,rfl⟩
     have hr:∀x∈ol V,0≤x∧x<(ol w.L).length:=by rw[hG.KY];exact SH (FG g2)
     obtain⟨G,Qe⟩:=aDX hG.sd (.own 61 g) a V hV (by omega) hr
     have kG:∀st,Cg Tryz.prog 44 [.agg (aB (vS S (.own 61 g))),.agg (iF a)] st=some (.agg (aB (vS (Pz S w a (ol V)) (.own 61 g))),G st):=fun st=>(Qe st).1
     have f1:∀st:St,0<st.aO 1→(G st).heap 1 0=st.heap 1 0:=fun st h=>(Qe st).2.1 1 0 h
     have f2:∀st:St,0<st.aO 2→(G st).heap 2 0=st.heap 2 0:=fun st h=>(Qe st).2.1 2 0 h
     have f3:∀st:St,g<st.aO 61→(G st).heap 61 g=st.heap 61 g:=fun st h=>(Qe st).2.1 61 g h
     have c1:∀st:St,0<st.aO 1→(0<(G st).aO 1)=True:=fun st h=>eq_true (Nat.lt_of_lt_of_le h ((Qe st).2.2 1))
     have c2:∀st:St,0<st.aO 2→(0<(G st).aO 2)=True:=fun st h=>eq_true (Nat.lt_of_lt_of_le h ((Qe st).2.2 2))
     have c3:∀st:St,g<st.aO 61→(g<(G st).aO 61)=True:=fun st h=>eq_true (Nat.lt_of_lt_of_le h ((Qe st).2.2 61))
     apply Fl ((ol E).length-(k+1))
     ·simp only[ZG,seval,Bool.false_and,Prod.mk.injEq,Am,hI,hh,bA,q0,ea,Im,xT,g1,k39o,dT,bt g2,aKD,kG,f1,eY,dG,cA,hw];rfl
     ·exact⟨k+1,Pz S w a (ol V),{ w with L:=some (tL (ol w.L) a.target.aK a.root (ol V)).1 },_,⟨by simp only[E8,seval,hI,eY],by simp only[E8,seval,hI,dG,cA]<;>rfl,by simp only[E8,seval,hI,eY],by simp only[E8,seval,hI,dG,cA,f2],by simp only[E8,seval,hI,eY],by simp only[E8,seval,hI,eY],by simp only[E8,seval,hI,cA,c1],by simp only[E8,seval,hI,cA,c2]⟩,.inr ⟨g,L,Ws,rfl,by simp only[E8,seval,cA,hg,c3],by simp only[E8,seval,dG,cA,hg,hh,f3]⟩,Sc,Ci,hC,by show (ol w.E).length≤k+1;omega,by omega,rfl⟩
 obtain⟨r,h,hq⟩:=key
 cases hx:vT Tryz.prog true Io st with
 | none=>rw[hx] at h;cases h
 | some y=>rw[hx] at h;simp only[cT,Option.some.injEq] at h;subst h;exact⟨y.1,y.2,rfl,hq⟩
theorem aPl {s:aN} {v:SV} {q:Int} (h:GI s v q) (r:RG s v):∃x,aD Tryz.prog 202 [.agg (aB s)]=some x∧StR s q x:=by
 have hz:=Ih
 have hf:=h.sd.flat
 have Lz:=h.sp
 rw[cG Tryz.func202 rfl aKF (by kernel_rfl) rfl]
 by_cases g1:1099511627776≤s.now
 ·simp only[ZG,seval,Bool.false_and,Prod.mk.injEq,Am,g1];exact⟨_,by apply dM;rfl;all_goals simp only[aI,bS,Z8,seval,hz]<;>rfl,gE,3,rfl,hz,by decide,fun h=>by cases h⟩
 have hw:IntKind.u64.wrap (s.now+1)=s.now+1:=wrap_u64 _ (by have:=r.now.1;omega) (by have:=r.now.2;omega)
 obtain⟨s1,hs1⟩:∃s1:aN,s1={ s with now:=s.now+1,hU:=dI }:=⟨_,rfl⟩
 have h1:GI s1 v q:=by
  rw[hs1];exact⟨⟨h.sd.jH,h.sd.dR,h.sd.gZ,h.sd.early,h.sd.bY,h.sd.tree,h.sd.tables,h.sd.eV,h.sd.tB,h.sd.nB,h.sd.nL,h.sd.nQ,h.sd.nE,h.sd.nO,h.sd.nT,h.sd.nn⟩,h.up,h.KC,h.pos,h.nl,h.KX,h.qG,h.KY,h.nB,h.nO,h.KZ,h.nE,h.QP,h.nT,h.RZ,h.nQ,h.I3,h.gP⟩
 have r1:RG s1 v:=by
  rw[hs1];exact⟨⟨by show 0≤s.now+1;have:=r.now.1;omega,by show s.now+1≤_;omega⟩,r.j,r.f,fun n hn=>⟨(r.nd n hn).1,by show n.block.slot≤s.now+1;have:=(r.nd n hn).2;omega⟩,r.or,r.rt,⟨r.fe.1,Int.le_trans r.fe.2 (show Dg s s.now≤Dg s (s.now+1) from LS h.qG.1 r.now.1 (by omega) (by have:=r.now.2;omega))⟩,r.ds,r.tb,r.ne⟩
 have c1:s1.cFg=s.cFg:=by rw[hs1]
 have nE:=h.nE
 have QP:=h.QP
 subst hs1;have uE:∀(S:aN) (w:SV) (a b:fK),(Gm S w a b).E=w.E:=fun S w a b=>by unfold Gm;split;rfl;split<;>rfl
 by_cases g2:(s.now+1).tmod s.cFg.qG=0
 case neg =>
  simp only[ZG,seval,Bool.false_and,Prod.mk.injEq,Am,g1,hw,Lz,bf g2,h.sd.early];refine Ip (a:=Io) (aBm s.cFg q) (L5 (E:=v.E) h.sd.eV r.ne.ea (by omega) (by omega) (m:=(ol v.E).length) ⟨0,{ s with now:=s.now+1,hU:=dI },{ v with E:=none },.v (.slice none 0 0),⟨by simp only[E8,seval],by simp only[E8,seval]<;>rfl,by simp only[E8,seval],by simp only[E8,seval],by simp only[E8,seval],by simp only[E8,seval]<;>rfl,by simp only[E8,seval]<;>omega,by simp only[E8,seval]<;>omega⟩,.inl ⟨rfl,rfl⟩,h1.early none (by simp[ol]) (by show ((0:Nat):Int)≤_;rw[c1];omega),⟨r1.now,r1.j,r1.f,r1.nd,r1.or,r1.rt,r1.fe,r1.ds,r1.tb,⟨r1.ne.q,nofun,r1.ne.o,r1.ne.t,(fun a ha=>by cases ha),r1.ne.tb⟩⟩,c1,by simp[ol],by omega,by omega⟩) ?rest
  rintro e st ⟨rfl,S,w,X,hI,hX,hG,nM,hC⟩
  have AI:=hG.sd.flat
  rcases hX with ⟨rfl,Ws⟩|⟨g,L,Ws,rfl,hh⟩
  ·rw[Ws] at AI hG nM;have hf1:Flat (.agg (aB (vS S (.v (.slice none 0 0))))):=AI
   simp only[ZG,seval,Bool.false_and,Prod.mk.injEq,Am,hI];exact⟨_,by apply dM;rfl;all_goals simp only[aI,bS,Z8,seval,hI,hf1]<;>rfl,_,0,rfl,hf1,by decide,fun _=>⟨w,hG,nM,hC⟩⟩
  ·have hLf:∀x∈L,Flat x.eK:=fun x hx=>(hG.sd.eV x (by rw[Ws];exact hx)).fl
   have hex:∀st:St,st.heap 61 g=some (.row 87 67 L.length (dC L))→eT st (.agg (aB (vS S (.own 61 g))))=some (.agg (aB (vS S (ov dC (some L))))):=fun st hh=>Wp hG.sd hLf st hh
   rw[Ws] at AI hG nM;simp only[ZG,seval,Bool.false_and,Prod.mk.injEq,Am,hI];exact⟨_,by apply dM;rfl;all_goals simp only[aI,bS,Z8,seval,hI,hh,hex]<;>rfl,_,0,rfl,AI,by decide,fun _=>⟨w,hG,nM,hC⟩⟩
 have k67':=k67 h1.sd
 have pv:=aBl fun n hn=>(r1.nd n hn).1
 have k61':=k61 h1.sd h1.up h1.sp (Ix v.ns).pj (Ix v.ns).pf
 have h2:=h1.dJ (Ix v.ns).pj (Ix v.ns).pf
 have r2:=RG.dJ r1 pv.1 pv.2
 have c2:=vR { s with now:=s.now+1,hU:=dI } v (Ix v.ns).pj (Ix v.ns).pf
 have e2:=h2.sd.early
 rw[uE] at e2;obtain⟨S2,hS2⟩:∃S2,wL { s with now:=s.now+1,hU:=dI } v (Ix v.ns).pj (Ix v.ns).pf=S2:=⟨_,rfl⟩
 rw[hS2] at k61' h2 r2 c2 e2
 have c3:S2.cFg=s.cFg:=c2
 simp only[ZG,seval,Bool.false_and,Prod.mk.injEq,Am,g1,hw,Lz,bt g2,k67',k61',e2];refine Ip (a:=Io) (aBm s.cFg q) (L5 (E:=v.E) h.sd.eV r.ne.ea (by omega) (by omega) (m:=(ol v.E).length) ⟨0,S2,{ Gm { s with now:=s.now+1,hU:=dI } v (Ix v.ns).pj (Ix v.ns).pf with E:=none },.v (.slice none 0 0),⟨by simp only[E8,seval],by simp only[E8,seval]<;>rfl,by simp only[E8,seval],by simp only[E8,seval],by simp only[E8,seval],by simp only[E8,seval]<;>rfl,by simp only[E8,seval]<;>omega,by simp only[E8,seval]<;>omega⟩,.inl ⟨rfl,rfl⟩,h2.early none (by simp[ol]) (by show ((0:Nat):Int)≤_;rw[c3];omega),⟨r2.now,r2.j,r2.f,r2.nd,r2.or,r2.rt,r2.fe,r2.ds,r2.tb,⟨r2.ne.q,nofun,r2.ne.o,r2.ne.t,(fun a ha=>by cases ha),r2.ne.tb⟩⟩,c3,by simp[ol],by omega,by omega⟩) ?LA
 rintro e st ⟨rfl,S,w,X,hI,hX,hG,nM,hC⟩
 have AI:=hG.sd.flat
 rcases hX with ⟨rfl,Ws⟩|⟨g,L,Ws,rfl,hh⟩
 ·rw[Ws] at AI hG nM;have hf1:Flat (.agg (aB (vS S (.v (.slice none 0 0))))):=AI
  simp only[ZG,seval,Bool.false_and,Prod.mk.injEq,Am,hI];exact⟨_,by apply dM;rfl;all_goals simp only[aI,bS,Z8,seval,hI,hf1]<;>rfl,_,0,rfl,hf1,by decide,fun _=>⟨w,hG,nM,hC⟩⟩
 ·have hLf:∀x∈L,Flat x.eK:=fun x hx=>(hG.sd.eV x (by rw[Ws];exact hx)).fl
  have hex:∀st:St,st.heap 61 g=some (.row 87 67 L.length (dC L))→eT st (.agg (aB (vS S (.own 61 g))))=some (.agg (aB (vS S (ov dC (some L))))):=fun st hh=>Wp hG.sd hLf st hh
  rw[Ws] at AI hG nM;simp only[ZG,seval,Bool.false_and,Prod.mk.injEq,Am,hI];exact⟨_,by apply dM;rfl;all_goals simp only[aI,bS,Z8,seval,hI,hh,hex]<;>rfl,_,0,rfl,AI,by decide,fun _=>⟨w,hG,nM,hC⟩⟩
def Cj (t:State) (X Y:AV) (tag:Int):State:={ t with cW:=X,nA:=Y,bE:=tag }
theorem aKG:aE 0 3 (some 3)=[]∧aE 1 8 (some 8)=[]∧aE 2 8 (some 14)=[]∧aE 3 5 (some 21)=[]∧aE 4 2 (some 25)=[]:=⟨rfl,rfl,rfl,rfl,rfl⟩
theorem aD0 (t:State) (Y:AV) (o:Option (List Request)) (tag:Int) (hn:((ol o).length:Int)<1000000) (r:cC) (n:Int) :
 ∃G:St→St,∀st,Cg Tryz.prog 86 [.agg (aF (Cj t (ov aA o) Y tag)),.agg (aV r),.v (.int .i64 n)] st=some (.agg (aF (Cj t (.own 19 (st.aO 19)) Y (IntKind.u64.wrap (tag+1)))),G st)∧Fz st (G st)∧(G st).heap 19 (st.aO 19)=some (.row 63 35 (ol o++[(⟨⟨tag⟩,r,n,0⟩:Request)]).length (aA (ol o++[(⟨⟨tag⟩,r,n,0⟩:Request)])))∧st.aO 19<(G st).aO 19:=by
 have one:∀st,∃st',Cg Tryz.prog 86 [.agg (aF (Cj t (ov aA o) Y tag)),.agg (aV r),.v (.int .i64 n)] st=some (.agg (aF (Cj t (.own 19 (st.aO 19)) Y (IntKind.u64.wrap (tag+1)))),st')∧Fz st (st')∧(st').heap 19 (st.aO 19)=some (.row 63 35 (ol o++[(⟨⟨tag⟩,r,n,0⟩:Request)]).length (aA (ol o++[(⟨⟨tag⟩,r,n,0⟩:Request)])))∧st.aO 19<(st').aO 19:=by
  intro st;by_cases hy:True
  case neg=>exact⟨st,absurd trivial hy⟩
  suffices h:∃st',Cg Tryz.prog 86 [.agg (aF (Cj t (ov aA o) Y tag)),.agg (aV r),.v (.int .i64 n)] st=some (.agg (aF (Cj t (.own 19 (st.aO 19)) Y (IntKind.u64.wrap (tag+1)))),st')∧Fz st (st')∧(st').heap 19 (st.aO 19)=some (.row 63 35 (ol o++[(⟨⟨tag⟩,r,n,0⟩:Request)]).length (aA (ol o++[(⟨⟨tag⟩,r,n,0⟩:Request)])))∧st.aO 19<(st').aO 19 by
   obtain⟨st',h⟩:=h
   exact⟨st',h⟩
  have e1:(Cj t (ov aA o) Y tag).cW=ov aA o:=rfl
  have e2:(Cj t (ov aA o) Y tag).bE=tag:=rfl
  have zR:bJ.due=0:=rfl
  rw[FN Tryz.prog Tryz.func86 rfl (by kernel_rfl)]
  simp only[ZG,seval,Bool.false_and,Prod.mk.injEq,aKG,e1,e2,zR,qM _ hn,oG _ _ _ _ hn];refine⟨_,Wl (P:=Tryz.prog) (fn:=Tryz.f86) (r:=.cell 6 58) (x:=.agg (aF (Cj t (.own 19 (st.aO 19)) Y (IntKind.u64.wrap (tag+1))))) (.inl rfl) rfl ?h1,⟨fun x g hg=>?h2,fun x=>?h3⟩, ?h4, ?h5⟩
  case h1 =>
   rw[zZ];simp only[bS,Z8,seval];rfl
  case h2 =>
   have n3:(x=3∧g=st.aO 3)=False:=eq_false (by rintro⟨rfl,rfl⟩;omega)
   have n4:(x=4∧g=st.aO 4)=False:=eq_false (by rintro⟨rfl,rfl⟩;omega)
   have n6:(x=6∧g=st.aO 6)=False:=eq_false (by rintro⟨rfl,rfl⟩;omega)
   have n7:(x=7∧g=st.aO 7)=False:=eq_false (by rintro⟨rfl,rfl⟩;omega)
   have n16:(x=16∧g=st.aO 16)=False:=eq_false (by rintro⟨rfl,rfl⟩;omega)
   have n18:(x=18∧g=st.aO 18)=False:=eq_false (by rintro⟨rfl,rfl⟩;omega)
   have n19:(x=19∧g=st.aO 19)=False:=eq_false (by rintro⟨rfl,rfl⟩;omega)
   simp only[E8,seval,dG,cA,n3,n4,n6,n7,n16,n18,n19,if_false]
  case h3 =>
   simp only[E8,seval,dG,cA];split<;>(try split)<;>(try split)<;>(try split)<;>(try split)<;>(try split)<;>(try split)<;>subst_vars<;>omega
  case h4=>simp only[E8,seval,dG,cA]
  case h5=>simp only[E8,seval,dG,cA]<;>omega
 exact⟨fun st=>Classical.choose (one st),fun st=>Classical.choose_spec (one st)⟩
theorem L6 (t:State) (Y:AV) (g0:Nat) (L:List Request) (tag:Int) (hn:((L).length:Int)<1000000) (r:cC) (n:Int) :
 ∃G:St→St,∀st,(st.heap 19 g0=some (.row 63 35 L.length (aA L))∧g0<st.aO 19)→Cg Tryz.prog 86 [.agg (aF (Cj t (.own 19 g0) Y tag)),.agg (aV r),.v (.int .i64 n)] st=some (.agg (aF (Cj t (.own 19 (st.aO 19)) Y (IntKind.u64.wrap (tag+1)))),G st)∧Fz st (G st)∧(G st).heap 19 (st.aO 19)=some (.row 63 35 (L++[(⟨⟨tag⟩,r,n,0⟩:Request)]).length (aA (L++[(⟨⟨tag⟩,r,n,0⟩:Request)])))∧st.aO 19<(G st).aO 19:=by
 have one:∀st,∃st',(st.heap 19 g0=some (.row 63 35 L.length (aA L))∧g0<st.aO 19)→Cg Tryz.prog 86 [.agg (aF (Cj t (.own 19 g0) Y tag)),.agg (aV r),.v (.int .i64 n)] st=some (.agg (aF (Cj t (.own 19 (st.aO 19)) Y (IntKind.u64.wrap (tag+1)))),st')∧Fz st (st')∧(st').heap 19 (st.aO 19)=some (.row 63 35 (L++[(⟨⟨tag⟩,r,n,0⟩:Request)]).length (aA (L++[(⟨⟨tag⟩,r,n,0⟩:Request)])))∧st.aO 19<(st').aO 19:=by
  intro st;by_cases hy:(st.heap 19 g0=some (.row 63 35 L.length (aA L))∧g0<st.aO 19)
  case neg=>exact⟨st,fun h=>absurd h hy⟩
  suffices h:∃st',Cg Tryz.prog 86 [.agg (aF (Cj t (.own 19 g0) Y tag)),.agg (aV r),.v (.int .i64 n)] st=some (.agg (aF (Cj t (.own 19 (st.aO 19)) Y (IntKind.u64.wrap (tag+1)))),st')∧Fz st (st')∧(st').heap 19 (st.aO 19)=some (.row 63 35 (L++[(⟨⟨tag⟩,r,n,0⟩:Request)]).length (aA (L++[(⟨⟨tag⟩,r,n,0⟩:Request)])))∧st.aO 19<(st').aO 19 by
   obtain⟨st',h⟩:=h
   exact⟨st',fun _=>h⟩
  have e1:(Cj t (.own 19 g0) Y tag).cW=.own 19 g0:=rfl
  have e2:(Cj t (.own 19 g0) Y tag).bE=tag:=rfl
  have zR:bJ.due=0:=rfl
  have uD:(g0=st.aO 19)=False:=eq_false (by have:=hy.2;omega)
  rw[FN Tryz.prog Tryz.func86 rfl (by kernel_rfl)]
  simp only[ZG,seval,Bool.false_and,Prod.mk.injEq,aKG,e1,e2,zR,hy.1,uD,qM _ hn,oG _ _ _ _ hn];refine⟨_,Wl (P:=Tryz.prog) (fn:=Tryz.f86) (r:=.cell 6 58) (x:=.agg (aF (Cj t (.own 19 (st.aO 19)) Y (IntKind.u64.wrap (tag+1))))) (.inl rfl) rfl ?h1,⟨fun x g hg=>?h2,fun x=>?h3⟩, ?h4, ?h5⟩
  case h1 =>
   rw[zZ];simp only[bS,Z8,seval];rfl
  case h2 =>
   have n3:(x=3∧g=st.aO 3)=False:=eq_false (by rintro⟨rfl,rfl⟩;omega)
   have n4:(x=4∧g=st.aO 4)=False:=eq_false (by rintro⟨rfl,rfl⟩;omega)
   have n6:(x=6∧g=st.aO 6)=False:=eq_false (by rintro⟨rfl,rfl⟩;omega)
   have n7:(x=7∧g=st.aO 7)=False:=eq_false (by rintro⟨rfl,rfl⟩;omega)
   have n16:(x=16∧g=st.aO 16)=False:=eq_false (by rintro⟨rfl,rfl⟩;omega)
   have n18:(x=18∧g=st.aO 18)=False:=eq_false (by rintro⟨rfl,rfl⟩;omega)
   have n19:(x=19∧g=st.aO 19)=False:=eq_false (by rintro⟨rfl,rfl⟩;omega)
   simp only[E8,seval,dG,cA,n3,n4,n6,n7,n16,n18,n19,if_false]
  case h3 =>
   simp only[E8,seval,dG,cA];split<;>(try split)<;>(try split)<;>(try split)<;>(try split)<;>(try split)<;>(try split)<;>subst_vars<;>omega
  case h4=>simp only[E8,seval,dG,cA]
  case h5=>simp only[E8,seval,dG,cA]<;>omega
 exact⟨fun st=>Classical.choose (one st),fun st=>Classical.choose_spec (one st)⟩
end Go.Ab.Tryz
