/-
  Part 10 of the proof: an evaluator of programs, its soundness, and what functions of this program compute.
-/
import Derived.Test.YthkgnakbkaafgaaGreatK9
import Derived.Test.YthkgnakbkaafgaaGreatK8
set_option linter.all false
set_option maxRecDepth 20000
set_option maxHeartbeats 40000000
open Go.IntKind (i64 u64)
open List Go.Proofs.Tryz
noncomputable section
namespace Go.Ab.Tryz
open Classical Go.Proofs Go.Ab
variable {ns:List Node} {i x y n:Int} {u:AV} {l:List Int} {k:IntKind} {s:aF} {α:Type} {p:Nat->Prop} {T:Nat} {a b:bU}
def NZ (hu:eK ns):∀(n:Nat) (c:Int),c.toNat=n->0<=c->c<ns.length->∀k:Int,1<=k->k<(path ns c).length->(nd ns (it (path ns c) k)).up=it (path ns c) (k-1):=by
 intro n;induction n using Nat.strongRecOn with
 | _ n ih =>
   intro c hc c0 c1 k k0 k1;by_cases h:c=0
   ·grind [lQ]
   ·obtain⟨m,u1⟩:=hu c WF c1
    rw[iD hu WF c1] at k1 ⊢
    simp at k1
    by_cases R:k=(path ns (nd ns c).up).length
    ·rw[Au R,qT WF WF,R,aCz hu m WF]
    ·rw[qT WF WF,qT WF WF]
     grind
def aE7 (hu:eK ns):∀(n:Nat) (c:Int),c.toNat=n->0<=c->c<ns.length->it (path ns c) 0=0:=by
 intro n;induction n using Nat.strongRecOn with
 | _ n ih =>
   intro c hc c0 c1;by_cases h:c=0
   ·subst h;rw[lQ WF];rfl
   ·obtain⟨m,u1⟩:=hu c WF c1
    have:=Mh hu m WF
    rw[iD hu WF c1,qT (Int.le_refl _) WF]
    grind
def a0w (ns:List Node) (hu:eK ns) (hr:(nd ns 0).up=-1) (M:bg ns.length) (i:Int) (h:bU):aA prog 323 [ak ⟨ns⟩,aa i,.agg (aW h)]=some (cu ns i h):=by
 rw[cL func323 rfl aTc rfl];unfold cu;by_cases hm:0<=i/\i<ns.length
 ·have h45:=jk ns hu M i hm.1 hm.2
  have hpl:=zZ hu i
  have hp0:=Mh hu hm.1 hm.2
  have C:=Aa hu (i:=i)
  have hpe:path ns i≠[]:=qg
  have N:(((path ns i).length:Int) == 0)=false:=by simp[hpe]
  have Co:=fun k h h'=>NZ hu _ i rfl hm.1 hm.2 k h h'
  have hi0:=aE7 hu _ i rfl hm.1 hm.2
  unfold nS;rw[if_neg hpe];generalize path ns i=p at h45 hpl hp0 C N Co hi0
  by_cases R:h=bQ
  ·have l:decide (h=bQ)=true:=decide_eq_true R
   rw[if_pos R];simp only[ZZ,seval,h45,N,l];refine gL (fun n st=>∃k:Nat,(st.env 1=aa i/\st.env 3=.ptr 3 0 0/\st.heap 3 0=some (.cells (bN ⟨ns⟩))/\st.env 8=.own 13 0/\st.heap 13 0=some (.row 3 1 p.length (aH p))/\st.env 9=aa k)/\tH ns p p.length=tH ns p (p.length-k)/\k<=p.length/\n=p.length-k)
    (fun e st=>(e=.ret/\∃k,tH ns p p.length=some k/\st.env 6=aa (if k=0 then -1 else it p ((k:Int)-1))/\st.env 7=aa (it p k))\/(e=.exit 0/\tH ns p p.length=none/\st.env 1=aa i)) p.length ?step ?start ?rest
   case step =>
    rintro n st ⟨k,D,W,hk,Rj⟩
    by_cases A:(k:Int)<p.length
    ·obtain ⟨q0,hw⟩ := yY k
     obtain⟨x0,x1⟩:=C _ (Bi q0 A)
     obtain⟨m,X⟩:∃m,p.length-k=m+1:=⟨p.length-k-1,WF⟩
     rw[X] at W;simp only[tH] at W;rw[show p.length-(m+1)=k from WF] at W
     by_cases S:Yv ns (it p k)=bQ
     ·rw[if_pos S] at W;have N6:decide ((nd ns (it p k)).block.eQ=bQ)=true:=decide_eq_true S
      apply oN (p.length-(k+1))
      ·simp only[ZZ,seval,D,A,q0,x0,x1,N6,hw];rfl
      ·exact⟨k+1,qp,qg,WF,rfl⟩
     ·rw[if_neg S] at W;have N6:decide ((nd ns (it p k)).block.eQ=bQ)=false:=decide_eq_false S
      have hupk:(nd ns (it p k)).up=if k=0 then -1 else it p ((k:Int)-1):=by
       grind
      apply oT (.ret)
      ·simp only[ZZ,seval,D,A,q0,x0,x1,N6];rfl
      ·exact .inl ⟨rfl,k,W,by rw[<- hupk];simp only[EV,seval],Vt⟩
    ·obtain rfl:k=p.length:=WF
     rw[Nat.sub_self] at W;apply oT (.exit 0)
     ·simp only[ZZ,seval,D,A];rfl
     ·exact .inr ⟨rfl,W,qp⟩
   case start=>exact⟨0,X0,rfl,WF,rfl⟩
   case rest =>
    rintro e st (⟨rfl,k,W,r,u⟩|⟨rfl,W,J⟩)
    ·rw[W];simp only[ZZ,seval];exact bT rfl (by simp only[bC,EV,seval,r]<;>rfl) (by simp only[bC,EV,seval,u]<;>rfl) X0 X0
    ·rw[W];simp only[ZZ,seval,J];exact bT rfl qi qi X0 X0
  ·have l:decide (h=bQ)=false:=decide_eq_false R
   have Y:i64.wrap ((p.length:Int)-2)=(p.length:Int)-2:=bm _ WF WF
   rw[if_neg R];simp only[ZZ,seval,h45,N,l,Y];refine gL (fun n st=>∃m:Nat,(st.env 1=aa i/\st.env 3=.ptr 3 0 0/\st.heap 3 0=some (.cells (bN ⟨ns⟩))/\st.env 5=.ptr 5 0 0/\st.heap 5 0=some (.cells (aW h))/\st.env 8=.own 13 0/\st.heap 13 0=some (.row 3 1 p.length (aH p))/\st.env 10=aa ((m:Int)-1))/\zN ns p h (p.length-1)=zN ns p h m/\m<=p.length-1/\n=m)
    (fun e st=>(e=.ret/\∃k,zN ns p h (p.length-1)=some k/\st.env 6=aa (it p k)/\st.env 7=aa (it p ((k:Int)+1)))\/(e=.exit 2/\zN ns p h (p.length-1)=none/\st.env 1=aa i)) (p.length-1) ?step ?start ?rest
   case step =>
    rintro n st ⟨m,D,W,X,Rj⟩
    by_cases A:(0:Int)<=(m:Int)-1
    ·obtain⟨k,rfl⟩:∃k,m=k+1:=⟨m-1,WF⟩
     have e1:((k+1:Nat):Int)-1=k:=WF
     rw[e1] at D A;have k1:(k:Int)<p.length:=WF
     have hw:i64.wrap ((k:Int)-1)=(k:Int)-1:=bm _ WF WF
     obtain⟨x0,x1⟩:=C _ (Bi A k1)
     simp only[zN] at W;by_cases S:Yv ns (it p k)=h
     ·rw[if_pos S] at W;have N6:decide ((nd ns (it p k)).block.eQ=h)=true:=decide_eq_true S
      have DG:i64.wrap ((k:Int)+1)=(k:Int)+1:=bm _ WF WF
      have r0:(0:Int)<=(k:Int)+1:=WF
      have G:(k:Int)+1<p.length:=WF
      apply oT (.ret)
      ·simp only[ZZ,seval,D,A,k1,x0,x1,N6,DG,r0,G];rfl
      ·exact .inl ⟨rfl,k,W,Vt,Vt⟩
     ·rw[if_neg S] at W;have N6:decide ((nd ns (it p k)).block.eQ=h)=false:=decide_eq_false S
      apply oN (k)
      ·simp only[ZZ,seval,D,A,k1,x0,x1,N6,hw];rfl
      ·exact⟨k,qp,W,WF,rfl⟩
    ·obtain rfl:m=0:=WF
     apply oT (.exit 2)
     ·simp only[ZZ,seval,D,A];rfl
     ·exact .inr ⟨rfl,W,qp⟩
   case start =>
    have hs:(p.length:Int)-2=((p.length-1:Nat):Int)-1:=WF
    exact⟨p.length-1,by simp only[EV,seval,hs],rfl,WF,rfl⟩
   case rest =>
    rintro e st (⟨rfl,k,W,r,u⟩|⟨rfl,W,J⟩)
    ·rw[W];simp only[ZZ,seval];exact bT rfl (by simp only[bC,EV,seval,r]<;>rfl) (by simp only[bC,EV,seval,u]<;>rfl) X0 X0
    ·rw[W];simp only[ZZ,seval,J];exact bT rfl qi qi X0 X0
 ·rw[P2 (sE hm)];have h45:=oz ns i hm
  simp only[ZZ,seval,h45];exact bT rfl qi qi X0 X0
def XS (ns:List Node) (i:Int) (h:bU):Flat (cu ns i h):=.cY _ (aU (.v _) (.v _))
def a0x (ns:List Node) (hu:eK ns) (X:(nd ns 0).up=-1) (M:bg ns.length) (i:Int) (h:bU):KC 323 [ak ⟨ns⟩,aa i,.agg (aW h)] (.cY [aa ((nS ns i h).1),aa ((nS ns i h).2)]):=fun _ _=>aX (jC (gZ _) (.v _) (oE _)) (a0w ns hu X M i h) (XS ns i h)
def DH (hu:eK ns) (hr:(nd ns 0).up=-1) (i0:0<=i) (i1:i<ns.length) (h:bU):(nS ns i h).2∈path ns i/\((nS ns i h).1<0\/((nS ns i h).1∈path ns i/\(nd ns (nS ns i h).2).up=(nS ns i h).1)):=by
 have hp0:=Mh hu i0 i1
 have A:path ns i≠[]:=qg
 have XT:=uU hu i0 i1
 have Co:=fun k h G=>NZ hu _ i rfl i0 i1 k h G
 unfold nS;rw[if_neg A];by_cases hz:h=bQ
 ·rw[if_pos hz];cases W:tH ns (path ns i) (path ns i).length with
  | none=>grind
  | some k =>
    have R:=OA _ _ (Nat.le_refl _) W
    grind [Bi]
 ·rw[if_neg hz];cases W:zN ns (path ns i) h ((path ns i).length-1) with
  | none=>grind
  | some k =>
    have R:=XU _ _ W
    grind [Bi]
def Ov (u:AV) (l:List Int):Prop:=u=.sl l.length (aH l)\/(l=[]/\u=af)
def Ov.view (h:Ov u l) (st:St):bA st u=some (l.length,aH l):=by
 rcases h with rfl|⟨rfl,rfl⟩<;>rfl
def Ov.idx (h:Ov u l) (st:St) {k:IntKind} {i:Int} (h0:0<=i) (h1:i<l.length):bK prog st 22 u (.v (.int k i))=some (.ip (oF (it l i)) 0):=by
 rcases h with rfl|⟨rfl,rfl⟩
 all_goals grind [aMY]
theorem Ov.flat (h:Ov u l):Flat u:=by
 rcases h with rfl|⟨rfl,rfl⟩
 ·exact Pp l
 ·exact .v _
def Rz (ns:List Node) (c:Int) (l:List Int):Prop:=∃k∈l,lN ns c k=true
def DI (ns:List Node) (i:Int) (h:bU) (l:List Int):AV :=
 if Rz ns (nS ns i h).2 l then Vw 21
 else if 0<=(nS ns i h).1 then
  match LN ns (nS ns i h).1 with
  | none=>Vw 21
  | some r=>P3 r (nS ns i h).2
 else P3 ns (nS ns i h).2
def DJ (ns:List Node) (i:Int) (v:fM) (l:List Int):AV :=
 if ¬(0<=i/\i<ns.length) then Vw 10
 else if v.kind=1 then P4 ns i
 else if v.kind=2 then DI ns i v.cJ l
 else if v.kind=3\/v.kind=4 then .cY [ak ⟨ns⟩,aa 0]
 else Vw 2
theorem OB (ns:List Node) (i:Int) (h:bU) (l:List Int):Flat (DI ns i h l):=by
 grind [DI,Ey,DK]
def OC (ns:List Node) (i:Int) (v:fM) (l:List Int):Flat (DJ ns i v l):=by
 grind [DJ,Ey,DL,OB,Flat.cY,gZ,Flat.v]
def aCB (ns:List Node) (M:bg ns.length) (i:Int) (h:bU) (l:List Int):(∃e,DI ns i h l=.cY [.agg [af],aa e])\/∃r:List Node,DI ns i h l=.cY [ak ⟨r⟩,aa 0]/\bg r.length:=by
 unfold DI;split
 ·exact .inl ⟨21,rfl⟩
 ·split
  ·split
   ·exact .inl ⟨21,rfl⟩
   ·rename_i r X;exact Av r (by rw[BU _ _ _ X];exact M) _
  ·exact Av ns M _
def a0y (ns:List Node) (hu:eK ns) (X:(nd ns 0).up=-1) (M:bg ns.length) (i:Int) (v:fM) (l:List Int) (hl:bg l.length) {kv:AV} (hkv:Ov kv l) :
 aA prog 268 [ak ⟨ns⟩,aa i,am v,kv]=some (DJ ns i v l):=by
 rw[cL func268 rfl aTf (by rcases hkv with rfl|⟨rfl,rfl⟩<;>rfl)]
 have h86:=Nr ns i
 unfold DJ;by_cases hm:0<=i/\i<ns.length
 ·obtain⟨i0,i1⟩:=hm
  have hd:(decide (0<=i) && decide (i<(ns.length:Int)))=true:=dv
  rw[hd] at h86;rw[if_neg dv]
  by_cases J:v.kind=1
  ·rw[if_pos J];have b1:(v.kind == 1)=true:=bx
   have W:=aTg ns hu M i
   rcases OD ns M i with ⟨e,he⟩|⟨q,he,_⟩
   all_goals
    rw[he] at W;rw[he];simp only[ZZ,seval,h86,b1,W,bW];exact bT rfl qx qi X0 X0
  ·rw[if_neg J];have b1:(v.kind == 1)=false:=bx
   by_cases h2:v.kind=2
   ·rw[if_pos h2];have b2:(v.kind == 2)=true:=ed
    have u:(v.kind == 3)=false:=ed
    have b4:(v.kind == 4)=false:=ed
    have hRe:=a0x ns hu X M i v.cJ
    have OE:=DH hu X i0 i1 v.cJ
    have C:=hkv.view
    have KP:=fun st (k:IntKind) (i:Int) h0 J=>hkv.idx st (k:=k) (i:=i) h0 J
    have h46:=Ns ns hu M
    unfold DI;obtain⟨a,ha⟩:∃a,(nS ns i v.cJ).1=a:=⟨_,rfl⟩
    obtain⟨c,G⟩:∃c,(nS ns i v.cJ).2=c:=⟨_,rfl⟩
    rw[ha,G] at hRe OE;rw[ha,G];simp only[ZZ,seval,h86,b1,b2,u,b4,hRe,bW];refine gL (fun n st=>∃k:Nat,(st.env 3=kv/\st.env 4=.ptr 4 0 0/\st.heap 4 0=some (.cells (bN ⟨ns⟩))/\st.env 8=.ptr 8 0 0/\st.heap 8 0=some (.cells [af])/\st.env 10=aa a/\st.env 11=aa c/\st.env 12=aa k)/\(∀j:Int,0<=j->j<k->lN ns c (it l j)=false)/\k<=l.length/\n=l.length-k)
     (fun e st=>(e=.ret/\Rz ns c l/\st.env 8=.ptr 8 0 0/\st.heap 8 0=some (.cells [af])/\st.env 9=aa 21)\/(e=.exit 1/\¬Rz ns c l/\st.env 4=.ptr 4 0 0/\st.heap 4 0=some (.cells (bN ⟨ns⟩))/\st.env 8=.ptr 8 0 0/\st.heap 8 0=some (.cells [af])/\st.env 10=aa a/\st.env 11=aa c)) l.length ?step ?start ?rest
    case step =>
     rintro n st ⟨k,D,Y,R,Rj⟩
     by_cases A:(k:Int)<l.length
     ·obtain ⟨q0,hw⟩ := yY k
      cases hA:lN ns c (it l k)
      ·apply oN (l.length-(k+1))
       ·simp only[ZZ,seval,D,A,q0,C,KP,h46,hA,hw];rfl
       ·exact⟨k+1,qp,fun j j0 j1=>by
        grind,WF,rfl⟩
      ·apply oT (.ret)
       ·simp only[ZZ,seval,D,A,q0,C,KP,h46,hA];rfl
       ·exact .inl ⟨rfl,⟨_,Bi q0 A,hA⟩,qp,qp,qp⟩
     ·obtain rfl:k=l.length:=WF
      have hno:¬Rz ns c l:=by
       rintro⟨x,N,hxa⟩
       obtain⟨j,hj',rfl⟩:=getElem_of_mem N
       have:=Y j WF WF
       grind [it]
      apply oT (.exit 1)
      ·simp only[ZZ,seval,D,C,A];rfl
      ·exact .inr ⟨rfl,hno,qp⟩
    case start=>exact⟨0,Vt,fun j _ _=>WF,WF,WF⟩
    case rest =>
     rintro e st (⟨rfl,R,D⟩|⟨rfl,R,D⟩)
     ·rw[if_pos R];simp only[ZZ,seval];exact bT rfl mc vk X0 X0
     ·rw[if_neg R];by_cases h0:0<=a
      ·rw[if_pos h0];have m:a∈path ns i:=by
        grind
       obtain⟨_,a1⟩:=Aa hu a m
       have W:=aTg ns hu M a
       rw[show P4 ns a=j4 (LN ns a) from if_pos ⟨h0,a1⟩] at W;cases p:LN ns a with
       | none =>
         rw[p] at W;simp only[j4,Vw] at W;simp only[ZZ,seval,D,h0,W,bW];exact bT rfl mc vk X0 X0
       | some r =>
         rw[p] at W;simp only[j4] at W;have hR:=Vx hu p
         have hu2:=hR.c.su.aOc hu
         have h97:=aTi r hu2 oa c
         rcases Av r oa c with ⟨e,he⟩|⟨q,he,_⟩
         all_goals
          rw[he] at h97;simp only[he];simp only[ZZ,seval,D,h0,W,h97,bW];exact bT rfl mc vk X0 X0
      ·rw[if_neg h0];have h97:=aTi ns hu M c
       rcases Av ns M c with ⟨e,he⟩|⟨q,he,_⟩
       all_goals
        rw[he] at h97;rw[he];simp only[ZZ,seval,D,h0,h97,bW];exact bT rfl mc vk X0 X0
   ·rw[if_neg h2];have b2:(v.kind == 2)=false:=ed
    by_cases S:v.kind=3
    ·rw[if_pos (.inl S)];have u:(v.kind == 3)=true:=bh
     simp only[ZZ,seval,h86,b1,b2,u];exact bT rfl qx qi X0 X0
    ·have u:(v.kind == 3)=false:=bh
     by_cases h4:v.kind=4
     ·rw[if_pos (.inr h4)];have b4:(v.kind == 4)=true:=by simp[h4]
      simp only[ZZ,seval,h86,b1,b2,u,b4];exact bT rfl qx qi X0 X0
     ·rw[if_neg WF]
      have b4:(v.kind == 4)=false:=by simp[h4]
      simp only[ZZ,seval,h86,b1,b2,u,b4];exact bT rfl qx qi X0 X0
 ·rw[if_pos hm];have hd:(decide (0<=i) && decide (i<(ns.length:Int)))=false:=by
   grind
  rw[hd] at h86;simp only[ZZ,seval,h86];exact bT rfl qx qi X0 X0
def mT (s:Config):Flat (aq s)↔Flat s.fL:=by
 constructor
 ·intro h;have h:∀x∈bX s,Flat x:=yn
  grind [Jt]
 grind [Flat.agg,vS]
def Ez (s:uV):Flat (az s)↔Flat s.cJ/\Flat s.dM:=by
 constructor
 ·intro h;have h:∀x∈dQ s,Flat x:=yn
  grind [Fa,Is]
 grind [Flat.agg,rQ]
def OF (s:Gx):Flat (.agg (kY s))↔Flat s.early/\Flat s.bL:=by
 constructor
 ·intro h;have h:∀x∈kY s,Flat x:=yn
  grind [Fb,Bj]
 grind [Flat.agg,Sa]
def XV (s:Fc):Flat (.agg (mX s))↔Flat s.nodes:=by
 constructor
 ·intro h;have h:∀x∈mX s,Flat x:=yn
  grind [It]
 grind [Flat.agg,yD]
theorem yE (s:aF):Flat (bc s)↔Flat s.cFg.fL/\Flat s.dI.cJ/\Flat s.dI.dM/\Flat s.bH.early/\Flat s.bH.bL/\Flat s.tree.nodes/\Flat s.tables:=by
 constructor
 ·intro h;have h:∀x∈aB s,Flat x:=yn
  grind [yF,vT,wS,vU,tL,yG,Fe]
 grind [Flat.agg,Yw]
theorem qM (s:State):Flat (bd s)↔Flat s.store.cFg.fL/\Flat s.store.dI.cJ/\Flat s.store.dI.dM/\Flat s.store.bH.early/\Flat s.store.bH.bL/\Flat s.store.tree.nodes/\Flat s.store.tables/\Flat s.fX/\Flat s.iB:=by
 constructor
 ·intro h;have h:∀x∈aE s,Flat x:=yn
  grind [rR,qN,rD,qO,pK,mY,vW,Bk,De]
 grind [Flat.agg,XW]
def rS (s:qX):Flat (au s)↔Flat s.dL:=by
 constructor
 ·intro h;have h:∀x∈iE s,Flat x:=yn
  grind [Sb]
 grind [Flat.agg,Vy]
theorem pL (s:Claim):Flat (av s)↔Flat s.dL:=by
 constructor
 ·intro h;have h:∀x∈eW s,Flat x:=yn
  grind [Ju]
 grind [Flat.agg,Jv]
def jT (s:eZ):Flat (aw s)↔Flat s.first.dL/\Flat s.second.dL:=by
 constructor
 ·intro h;have h:∀x∈bO s,Flat x:=yn
  grind [pM,oQ]
 grind [Flat.agg,Jw]
def iQ (s:Table):Flat (ax s)↔Flat s.fL:=by
 constructor
 ·intro h;have h:∀x∈cH s,Flat x:=yn
  grind [Ow]
 grind [Flat.agg,rT]
def P5 (s:uI):Flat (be s)↔Flat s.Dy.dL/\Flat s.mQ.first.dL/\Flat s.mQ.second.dL/\Flat s.table.fL:=by
 constructor
 ·intro h;have h:∀x∈jJ s,Flat x:=yn
  grind [Ff,tM,sU,Df]
 grind [Flat.agg,aCD]
theorem aOd (x:Value):Flat (.v x)=True:=eq_true (.v x)
def XX (o:Option (List Int)):Flat (ov bD o)=True:=eq_true (cP o)
def XY (o:Option (List Int)):Flat (ov aH o)=True:=eq_true (bR o)
def OG (o:Option (List lO)):Flat (ov dF o)=True:=eq_true (uW o)
def DM (o:Option (List Block)):Flat (ov aK o)=True:=eq_true (vX o)
def Sc (o:Option (List Request)):Flat (ov aC o)=True:=eq_true (fS o)
def XZ (n:Nat) (o:List Int):Flat (.sl n (bD o))=True:=eq_true (.sl _ _ (fB o))
def YA (n:Nat) (o:List Int):Flat (.sl n (aH o))=True:=eq_true (.sl _ _ (eP o))
def OH (n:Nat) (o:List lO):Flat (.sl n (dF o))=True:=eq_true (.sl _ _ (mR o))
def DN (n:Nat) (o:List Block):Flat (.sl n (aK o))=True:=eq_true (.sl _ _ (jA o))
def Sd (n:Nat) (o:List Request):Flat (.sl n (aC o))=True:=eq_true (.sl _ _ (dG o))
def OI (n:Nat) (o:List Node):Flat (.sl n (bS o))=True:=eq_true (.sl _ _ (iG o))
def aA4 (r:bU):Flat (.agg (aW r))=True:=eq_true (oE r)
def YB (r:Block):Flat (ah r)=True:=eq_true (lF r)
def aA5 (r:oG):Flat (.agg (fD r))=True:=eq_true (.agg _ (gM r))
theorem Dg (r:dH):Flat (ag r)=True:=eq_true (.agg _ (cM r))
def aFa (r:Request):Flat (ay r)=True:=eq_true (.agg _ (eD r))
def DO (r:fM):Flat (am r)=True:=eq_true (.agg _ (fJ r))
def OJ (r:qF):Flat (.agg (eI r))=True:=eq_true (.agg _ (Ac r))
def YC (x:AV):Flat (.agg [x])↔Flat x:=by
 constructor
 ·intro h;cases h<;>grind
 grind [Flat.agg]
def sB:(type_of% aOd)/\(type_of% XX)/\(type_of% XY)/\(type_of% OG)/\(type_of% DM)/\(type_of% Sc)/\(type_of% XZ)/\(type_of% YA)/\(type_of% OH)/\(type_of% DN)/\(type_of% Sd)/\(type_of% OI)/\(type_of% aA4)/\(type_of% YB)/\(type_of% aA5)/\(type_of% Dg)/\(type_of% aFa)/\(type_of% DO)/\(type_of% OJ)/\(type_of% YC)/\(type_of% mT)/\(type_of% Ez)/\(type_of% OF)/\(type_of% XV)/\(type_of% yE)/\(type_of% qM)/\(type_of% rS)/\(type_of% pL)/\(type_of% jT)/\(type_of% iQ)/\(type_of% P5) :=
 ⟨aOd,XX,XY,OG,DM,Sc,XZ,YA,OH,DN,Sd,OI,aA4,YB,aA5,Dg,aFa,DO,OJ,YC,mT,Ez,OF,XV,yE,qM,rS,pL,jT,iQ,P5⟩
structure SV where
 B:Option (List Int)
 L:Option (List lO)
 Q:Option (List Int)
 E:Option (List qX)
 O:Option (List Block)
 T:Option (List Table)
 ns:List Node
variable {v:SV}
def Dh (a:qX):Prop:=∃V:Option (List Int),a.dL=ov aH V/\bg (ol V).length
def vY (t:Table):Prop:=∃b:Option (List Int),t.fL=ov bD b/\bg (ol b).length
structure SD (s:aF) (v:SV):Prop where
 fL:s.cFg.fL=ov bD v.B
 cJ:s.dI.cJ=ov dF v.L
 dM:s.dI.dM=ov aH v.Q
 early:s.bH.early=ov cN v.E
 bL:s.bH.bL=ov aK v.O
 tree:s.tree=⟨.sl v.ns.length (bS v.ns)⟩
 tables:s.tables=ov bG v.T
 eV:∀a∈ol v.E,Dh a
 tB:∀t∈ol v.T,vY t
 nB:bg (ol v.B).length
 nL:bg (ol v.L).length
 nQ:bg (ol v.Q).length
 nE:bg (ol v.E).length
 nO:bg (ol v.O).length
 nT:bg (ol v.T).length
 nn:bg v.ns.length
def Dh.fl {a:qX} (h:Dh a):Flat a.dL:=by obtain⟨V,h,_⟩:=h;rw[h];exact bR V
def vY.fl {a:Table} (h:vY a):Flat a.fL:=by obtain⟨V,h,_⟩:=h;rw[h];exact cP V
theorem SD.fE (h:SD s v):Flat (ov cN v.E):=DP v.E fun a Y=>(h.eV a Y).fl
theorem SD.fT (h:SD s v):Flat (ov bG v.T):=mI v.T fun a Y=>(h.tB a Y).fl
theorem SD.flat (h:SD s v):Flat (bc s):=by
 rw[yE,h.fL,h.cJ,h.dM,h.early,h.bL,h.tree,h.tables];grind [cP,uW,bR,fE,vX,Flat.sl,iG,fT]
def c38 (hs:SD s v):aA prog 38 [bc s]=some (aa ((ol v.B).length)):=by
 rw[cL func38 rfl a0A rfl];simp only[Z8,seval,hs.fL];exact bE rfl Wl (.v _)
def DQ (hs:SD s v):KC 38 [bc s] (aa ((ol v.B).length)):=fun _ _=>aX (bZ hs.flat) (c38 hs) (.v _)
def pY (s:aF) (x:Int):Int:=u64.wrap (x.tdiv s.cFg.iH)
def c41 (s:aF) (h:s.cFg.iH≠0) (x:Int):aA prog 41 [bc s,ac x]=some (ac (pY s x)):=by
 rw[cL func41 rfl a0B rfl];have h0:(s.cFg.iH=0)=False:=eq_false h
 simp only[Z8,seval,h0];exact bE rfl Qbm (.v _)
def Rm (s:aF) (h:s.cFg.iH≠0) (W:Flat (bc s)) (x:Int):KC 41 [bc s,ac x] (ac (pY s x)):=fun _ _=>aX (aU W (.v _)) (c41 s h x) (.v _)
def sF (s:aF) (e:Int):Int × Int:=Nt e s.cFg.iH
def c84 (s:aF) (x:Int):aA prog 84 [bc s,ac x]=some (.cY [ac ((sF s x).1),ae ((sF s x).2 == 0)]):=by
 rw[cL func84 rfl a0C rfl];simp only[Z8,seval,a0D,bW];exact bT rfl rfl rfl (by simp only[E8,seval,sF]<;>rfl) (by simp only[E8,seval,sF]<;>rfl)
def KG (s:aF) (W:Flat (bc s)) (x:Int):KC 84 [bc s,ac x] (.cY [ac ((sF s x).1),ae ((sF s x).2 == 0)]):=fun _ _=>aX (aU W (.v _)) (c84 s x) (.cY _ (aU (.v _) (.v _)))
def a0E (hs:SD s v) (i:Int):aA prog 233 [bc s,aa i]=some (ae (decide (0<=i) && decide (i<v.ns.length))):=by
 rw[cL func233 rfl aTj rfl];by_cases h:0<=i
 all_goals
  simp only[Z8,seval,h,hs.tree,decide_true,decide_false,Bool.true_and,Bool.false_and];exact bE rfl xl (.v _)
def DR (hs:SD s v) (i:Int):KC 233 [bc s,aa i] (ae (decide (0<=i) && decide (i<v.ns.length))):=fun _ _=>aX (aU hs.flat (.v _)) (a0E hs i) (.v _)
def KQ (s:aF) (b:Block):Prop:=b.fin.aG<=b.dX.aG/\b.dX.aG<=b.dA.pj.aG/\b.fin.aG<=b.dA.pf.aG/\b.dA.pf.aG<=b.dA.pj.aG/\b.dA.pj.aG<=pY s b.slot
def c85 (s:aF) (h:s.cFg.iH≠0) (W:Flat (bc s)) (b:Block):aA prog 85 [bc s,ah b]=some (ae (decide (KQ s b))):=by
 rw[cL func85 rfl a0F rfl];have h98:=Rm s h W
 unfold KQ;by_cases h1:b.fin.aG<=b.dX.aG
 by_cases h2:b.dX.aG<=b.dA.pj.aG
 by_cases h3:b.fin.aG<=b.dA.pf.aG
 by_cases h4:b.dA.pf.aG<=b.dA.pj.aG
 all_goals
  simp only[*,true_and,false_and,and_true,and_false,decide_true,decide_false];simp only[Z8,seval, *];exact bE rfl (by simp only[E8,seval, *]<;>rfl) (.v _)
def k85 (s:aF) (h:s.cFg.iH≠0) (W:Flat (bc s)) (b:Block):KC 85 [bc s,ah b] (ae (decide (KQ s b))):=fun _ _=>aX (aU W (lF _)) (c85 s h W b) (.v _)
def Pq (s:aF) (ns:List Node) (i e:Int):Prop:=(sF s e).2≠0\/(nd ns i).block.slot<=(sF s e).1
def c42 (hs:SD s v) (i e:Int) (i0:0<=i) (i1:i<v.ns.length):aA prog 42 [bc s,aa i,ac e]=some (ae (decide (Pq s v.ns i e))):=by
 rw[cL func42 rfl a0G rfl];unfold Pq;by_cases h:(sF s e).2=0
 ·have N:((sF s e).2 == 0)=true:=zu
  simp only[h,ne_eq,not_true_eq_false,false_or];simp only[Z8,seval,KG s hs.flat,bW,N,hs.tree,i0,i1];exact bE rfl Wl (.v _)
 ·have N:((sF s e).2 == 0)=false:=zu
  simp only[h,ne_eq,not_false_eq_true,true_or,decide_true];simp only[Z8,seval,KG s hs.flat,bW,N,hs.tree,i0,i1];exact bE rfl Wl (.v _)
def k42 (hs:SD s v) (i e:Int) (i0:0<=i) (i1:i<v.ns.length):KC 42 [bc s,aa i,ac e] (ae (decide (Pq s v.ns i e))):=fun _ _=>aX (jC hs.flat (.v _) (.v _)) (c42 hs i e i0 i1) (.v _)
theorem Dz (x:Int) (J:-9223372036854775808<=x) (h2:x<=9223372036854775807):i64.wrap x=x:=wrap_i64 x J h2
def wk {k:Nat} (h:(k:Int)<9223372036854775807):i64.wrap ((k:Int)+1)=((k+1:Nat):Int):=uz
def Vz (z:α) (p:α->Bool) (l:List α) (k:Nat) (h:k<l.length):(l.take (k+1)).filter p=(l.take k).filter p++if p (gx z l k)=true then [gx z l k] else []:=by
 grind [gx,take_succ_eq_append_getElem]
def qP (p:Nat->Prop):Nat->Int
 | 0=>-1
 | k+1=>if 0<=qP p k then qP p k else if p k then k else -1
theorem pN {p:Nat->Prop}:∀n:Nat,(∀j,j<n->¬p j)->qP p n=-1
 | 0,_=>rfl
 | n+1,h=>by
   simp only[qP];rw[pN n fun j hj=>h j WF,if_neg WF,if_neg (h n WF)]
theorem Ad {p:Nat->Prop} {k:Nat} (R:p k) (Y:∀j,j<k->¬p j):∀n:Nat,k<n->qP p n=k
 | 0,h=>by omega
 | n+1,h=>by
   simp only[qP];by_cases Gt:k=n
   ·grind [pN]
   ·rw[Ad R Y n WF,if_pos WF]
theorem lA (p:Nat->Prop) (n:Nat):(qP p n=-1/\∀j,j<n->¬p j)\/∃k:Nat,k<n/\p k/\(∀j,j<k->¬p j)/\qP p n=k:=by
 by_cases h:∃k,k<n/\p k
 ·obtain⟨k,⟨hk,hp⟩,hm⟩:=exists_least h
  have Y:∀j,j<k->¬p j:=fun j Y hpj=>by grind
  grind [Ad]
 grind [pN]
def DS (p:Nat->Prop) (n:Nat):-1<=qP p n/\qP p n<n:=by
 rcases lA p n with ⟨h,_⟩|⟨k,hk,_,_,h⟩<;>rw[h]<;>omega
def QV (l:List Table) (c:dH):Int:=qP (fun k=>(gx fW l k).ck=c) l.length
def c36 (o:Option (List Table)) (hn:bg (ol o).length) (c:dH):aA prog 36 [ov bG o,ag c]=some (aa (QV (ol o) c)):=by
 rw[cL func36 rfl a0H wa]
 simp only[Z8,seval];refine gL (fun m st=>∃k:Nat,(st.env 0=ov bG o/\st.env 3=.ptr 3 0 0/\st.heap 3 0=some (.cells (bI c))/\st.env 5=aa k)/\(∀j:Nat,j<k->¬((gx fW (ol o) (j:Int)).ck=c))/\k<=(ol o).length/\m=(ol o).length-k)
  (fun e st=>(e=.ret/\∃k:Nat,k<(ol o).length/\((gx fW (ol o) (k:Int)).ck=c)/\(∀j:Nat,j<k->¬((gx fW (ol o) (j:Int)).ck=c))/\st.env 4=aa (k:Nat))\/(e=.exit 0/\(∀j:Nat,j<(ol o).length->¬((gx fW (ol o) (j:Int)).ck=c))/\st.env 0=ov bG o/\st.env 3=.ptr 3 0 0/\st.heap 3 0=some (.cells (bI c)))) ((ol o).length) ?step ?start ?rest
 case step =>
  rintro m st ⟨k,D,Y,R,hm⟩
  by_cases A:(k:Int)<(ol o).length
  ·obtain ⟨q0,hw⟩ := yY k
   by_cases u:(gx fW (ol o) (k:Int)).ck=c
   ·apply oT (.ret)
    ·simp only[Z8,seval,D,A,q0,u];rfl
    ·exact .inl ⟨rfl,k,WF,u,Y,qb⟩
   ·apply oN ((ol o).length-(k+1))
    ·simp only[Z8,seval,D,A,q0,u,hw];rfl
    ·exact⟨k+1,XC,fun j h=>(Nat.lt_succ_iff_lt_or_eq.1 h).elim (Y j) fun e=>vg,WF,rfl⟩
  ·apply oT (.exit 0)
   ·simp only[Z8,seval,D,A];rfl
   ·exact .inr ⟨rfl,fun j h=>Y j WF,XC⟩
 case start=>exact⟨0,Wl,fun j h=>WF,WF,WF⟩
 case rest =>
  rintro e st (⟨rfl,k,R,u,Y,h⟩|⟨rfl,Y,h⟩)
  ·have C:QV (ol o) c=k:=Ad u Y _ R
   simp only[Z8,seval];exact bE rfl (by simp only[E8,seval,h,C]<;>rfl) (.v _)
  ·have C:QV (ol o) c=-1:=pN _ Y
   simp only[Z8,seval];exact bE rfl (by simp only[E8,seval,h,C]<;>rfl) (.v _)
def fO (o:Option (List Table)) (M:bg (ol o).length) (W:Flat (ov bG o)) (c:dH):KC 36 [ov bG o,ag c] (aa (QV (ol o) c)):=fun _ _=>aX (aU W (.agg _ (cM c))) (c36 o M c) (.v _)
def nz (l:List α):Option (List α):=if l=[] then none else some l
theorem mE (l:List α):ol (nz l)=l:=by grind [nz,ol]
def Se (l:List Table) (x:Int):List Table:=l.filter fun t=>decide (x<=t.ck.aG)
def Sf (e sz:Nat) (c:List α->List AV) (l:List α):AV:=if l=[] then af else .uniq e sz l.length (c l)
def a0I (o:Option (List Table)) (hn:bg (ol o).length) (ht:∀t∈ol o,Flat t.fL) (x:Int):aA prog 310 [ov bG o,ac x]=some (Sf 74 34 bG (Se (ol o) x)):=by
 rw[cL func310 rfl aTk wa]
 have M:∀l:List Table,(∀t∈l,t∈ol o)->∀y∈bG l,Flat y:=fun l h=>jL l fun t m=>ht t (h t m)
 simp only[Z8,seval];refine gL (fun m st=>∃k:Nat,(st.env 0=ov bG o/\st.env 1=ac x/\st.env 6=aa k)/\(((((ol o).take k).filter (fun t=>decide (x<=t.ck.aG)))=[]/\st.env 5=af)\/((((ol o).take k).filter (fun t=>decide (x<=t.ck.aG)))≠[]/\∃g,st.env 5=.own 27 g/\g<st.aJ 27/\st.heap 27 g=some (.row 74 34 (((ol o).take k).filter (fun t=>decide (x<=t.ck.aG))).length (bG (((ol o).take k).filter (fun t=>decide (x<=t.ck.aG)))))))/\k<=(ol o).length/\m=(ol o).length-k)
  (fun e st=>e=.exit 0/\(((((ol o).take (ol o).length).filter (fun t=>decide (x<=t.ck.aG)))=[]/\st.env 5=af)\/((((ol o).take (ol o).length).filter (fun t=>decide (x<=t.ck.aG)))≠[]/\∃g,st.env 5=.own 27 g/\g<st.aJ 27/\st.heap 27 g=some (.row 74 34 (((ol o).take (ol o).length).filter (fun t=>decide (x<=t.ck.aG))).length (bG (((ol o).take (ol o).length).filter (fun t=>decide (x<=t.ck.aG)))))))/\st.env 0=ov bG o/\st.env 1=ac x) ((ol o).length) ?step ?start ?rest
 case step =>
  rintro m st ⟨k,D,C,hk,hm⟩
  have X:bg ((((ol o).take k).filter (fun t=>decide (x<=t.ck.aG))).length:Nat):=qg
  by_cases A:(k:Int)<(ol o).length
  ·obtain ⟨q0,hw⟩ := yY k
   have hs:=Vz fW (fun t=>decide (x<=t.ck.aG)) (ol o) k WF
   have J:Flat (ax (gx fW (ol o) (k:Int))):=(iQ _).2 (ht _ (lB q0 A))
   by_cases u:x<=(gx fW (ol o) (k:Int)).ck.aG
   ·rw[if_pos (decide_eq_true u)] at hs;rcases C with ⟨Y,C⟩|⟨Y,g,C⟩
    all_goals
     try rw[Y] at hs
     apply oN ((ol o).length-(k+1))
     ·simp only[Z8,seval,D,C,X,A,hw,q0,J,u];rfl
     ·exact⟨k+1,XC,.inr ⟨cq,_,Wl,Yo,QaZ⟩,WF,rfl⟩
   ·rw[if_neg dq,append_nil] at hs
    apply oN ((ol o).length-(k+1))
    ·simp only[Z8,seval,D,A,hw,q0,J,u];rfl
    ·exact⟨k+1,XC,by rw[hs];simpa only[E8,seval] using C,WF,rfl⟩
  ·have G:k=(ol o).length:=WF
   rw[G] at C;apply oT (.exit 0)
   ·simp only[Z8,seval,D,A];rfl
   ·exact⟨rfl,by simpa only[E8,seval] using C,XC⟩
 case start=>exact⟨0,Wl,.inl ⟨rfl,qb⟩,WF,WF⟩
 case rest =>
  rintro e st ⟨rfl,⟨Y,C⟩|⟨Y,g,C,hg,R⟩,D⟩
  ·rw[take_length] at Y;rw[show Sf 74 34 bG (Se (ol o) x)=af from if_pos Y];simp only[Z8,seval,C];exact bE rfl Wl (.v _)
  ·rw[take_length] at Y R;rw[show Sf 74 34 bG (Se (ol o) x)=.uniq 74 34 (Se (ol o) x).length (bG (Se (ol o) x)) from if_neg Y];simp only[Z8,seval,C,R];exact oH rfl Qb2 (by simp only[E8,seval,R];rfl) (M _ fun t m=>(mem_filter.1 m).1)
def QW {n sz:Nat} (ha:gW prog T=some (n,sz)) (st:St) (x:AV) {k:IntKind} {i:Int} (h0:0<=i) (h1:i<n):bK prog st T x (.v (.int k i))=wT x (i.toNat * sz):=by
 grind [bK]
def P6 (st:St) (x:AV) {k:IntKind} {i:Int} (h0:0<=i) (J:i<32):bK prog st 29 x (.v (.int k i))=wT x (i.toNat * 1):=QW aOe st x h0 J
def Gy (st:St) (x:AV) {k:IntKind} {i:Int} (h0:0<=i) (J:i<4):bK prog st 27 x (.v (.int k i))=wT x (i.toNat * 1):=QW aTl st x h0 J
def rb (r:bU) (i:Int):Int:=r.toList.getD i.toNat 0
def wb (r:oG) (i:Int):Int:=r.toList.getD i.toNat 0
def OK (r:bU) (h0:0<=i) (h1:i<32):(aW r)[i.toNat]? = some (.v (.int .u8 (rb r i))):=by
 grind [aW,rb]
def Ax (r:oG) (h0:0<=i) (h1:i<4):(fD r)[i.toNat]? = some (ac (wb r i)):=by
 grind [fD,wb]
def Jx (a b:bU):Int:=if qP (fun k=>rb a k≠rb b k) 32<0 then 0 else if rb a (qP (fun k=>rb a k≠rb b k) 32)<rb b (qP (fun k=>rb a k≠rb b k) 32) then -1 else 1
def QX {k:Nat} (R:k<32) (Y:∀j:Nat,j<k->¬rb a j≠rb b j) (h:rb a k≠rb b k):Jx a b=if rb a k<rb b k then -1 else 1:=by
 have e:=Ad (p:=fun k=>rb a k≠rb b k) h Y 32 R
 grind [Jx]
theorem aA7 (hj:∀j:Nat,j<32->¬rb a j≠rb b j):Jx a b=0:=by
 simp_all [Jx,pN]
def Sg:Jx a b<0↔∃k:Nat,k<32/\(∀j:Nat,j<k->rb a j=rb b j)/\rb a k<rb b k:=by
 rcases lA (fun k=>rb a k≠rb b k) 32 with ⟨_,h⟩|⟨k,R,J,h2,_⟩
 ·grind [aA7]
 ·rw[QX R h2 J];grind
def aOf (h:∀j:Nat,j<32->rb a j=rb b j):a=b:=by
 grind [rb]
def aFb (h:¬Jx a b<0) (M:a≠b):Jx b a<0:=by
 rcases lA (fun k=>rb a k≠rb b k) 32 with ⟨_,g⟩|⟨k,R,h1,h2,_⟩
 ·exact absurd (aOf fun j Y=>Decidable.not_not.1 (g j Y)) M
 ·refine Sg.2 ⟨k,R,fun j Y=>(Decidable.not_not.1 (h2 j Y)).symm, ?_⟩
  rcases Int.lt_trichotomy (rb a k) (rb b k) with g|g|g
  ·exact absurd (Sg.2 ⟨k,R,fun j Y=>Decidable.not_not.1 (h2 j Y),g⟩) h
  all_goals omega
def aJt {c:bU} (h:Jx a b<0) (g:Jx b c<0):Jx a c<0:=by
 obtain⟨k,hk,k1,k2⟩:=Sg.1 h
 obtain⟨m,hm,m1,m2⟩:=Sg.1 g
 refine Sg.2 ?_
 grind
def c82 (a b:bU):aA prog 82 [.agg (aW a),.agg (aW b)]=some (aa (Jx a b)):=by
 rw[cL func82 rfl a0J rfl];refine eM ?_
 simp only[Z8,seval];refine bP (fun m st=>∃k:Nat,(st.env 2=.ptr 2 0 0/\st.heap 2 0=some (.cells (aW a))/\st.env 3=.ptr 3 0 0/\st.heap 3 0=some (.cells (aW b))/\st.env 5=aa k)/\(∀j:Nat,j<k->¬rb a j≠rb b j)/\k<=32/\m=32-k)
  (fun e st=>(e=.ret/\st.env 4=aa (Jx a b))\/(e=.exit 0/\Jx a b=0)) 32 ?step ?start ?rest
 case step =>
  rintro m st ⟨k,D,Y,hk,hm⟩
  by_cases A:(k:Int)<32
  ·obtain ⟨q0,hw⟩ := yY k
   have G:=OK a q0 A
   have M:=OK b q0 A
   by_cases J:rb a k<rb b k
   ·apply oT (.ret)
    ·simp only[Z8,seval,D,A,q0,P6,G,M,J];rfl
    ·exact .inl ⟨rfl,by rw[QX WF Y WF,if_pos J];simp only[E8,seval]⟩
   ·by_cases h2:rb b k<rb a k
    ·apply oT (.ret)
     ·simp only[Z8,seval,D,A,q0,P6,G,M,J,h2];rfl
     ·exact .inl ⟨rfl,by rw[QX WF Y WF,if_neg J];simp only[E8,seval]⟩
    ·apply oN (32-(k+1))
     ·simp only[Z8,seval,D,A,q0,P6,G,M,J,h2,hw];rfl
     ·exact⟨k+1,XC,fun j h=>(Nat.lt_succ_iff_lt_or_eq.1 h).elim (Y j) fun e=>by subst e;omega,WF,rfl⟩
  ·apply oT (.exit 0)
   ·simp only[Z8,seval,D,A];rfl
   grind [aA7]
 case start=>exact⟨0,Wl,fun j h=>WF,WF,WF⟩
 case rest =>
  rintro e st (⟨rfl,h⟩|⟨rfl,h⟩)
  ·simp only[Z8,seval];exact⟨_,bE rfl qm XG,rfl⟩
  ·simp only[Z8,seval];exact⟨_,bE rfl Wl XG,yi⟩
def k82 (a b:bU):KC 82 [.agg (aW a),.agg (aW b)] (aa (Jx a b)):=fun _ _=>aX (aU (oE a) (oE b)) (c82 a b) (.v _)
def aOg (a b:oG):∃c:Int,aA prog 344 [.agg (fD a),.agg (fD b)]=some (aa c):=by
 rw[cL func344 rfl aM0 rfl];suffices h:∃r,cT (wP prog _ (St.init [.agg (fD a),.agg (fD b)])) (wY prog 344 Tryz.f344)=some r/\∃c:Int,r=aa c by
  obtain⟨r,h,c,rfl⟩:=h;exact⟨c,h⟩
 simp only[Z8,seval];refine bP (fun m st=>∃k:Nat,(st.env 2=.ptr 2 0 0/\st.heap 2 0=some (.cells (fD a))/\st.env 3=.ptr 3 0 0/\st.heap 3 0=some (.cells (fD b))/\st.env 5=aa ((k:Int)-1))/\k<=4/\m=k)
  (fun e st=>(e=.ret/\∃c:Int,st.env 4=aa c)\/e=.exit 0) 4 ?step ?start ?rest
 case step =>
  rintro m st ⟨k,D,hk,hm⟩
  by_cases A:(0:Int)<=(k:Int)-1
  ·have S:(k:Int)-1<4:=WF
   have hw:i64.wrap ((k:Int)-1-1)=((k-1:Nat):Int)-1:=cr
   have G:=Ax a A S
   have M:=Ax b A S
   by_cases J:wb a ((k:Int)-1)<wb b ((k:Int)-1)
   ·apply oT (.ret)
    ·simp only[Z8,seval,D,A,S,Gy,G,M,J];rfl
    ·exact .inl ⟨rfl,-1,qb⟩
   ·by_cases h2:wb b ((k:Int)-1)<wb a ((k:Int)-1)
    ·apply oT (.ret)
     ·simp only[Z8,seval,D,A,S,Gy,G,M,J,h2];rfl
     ·exact .inl ⟨rfl,1,qb⟩
    ·apply oN (k-1)
     ·simp only[Z8,seval,D,A,S,Gy,G,M,J,h2,hw];rfl
     ·exact⟨k-1,XC,WF,rfl⟩
  ·apply oT (.exit 0)
   ·simp only[Z8,seval,D,A];rfl
   ·exact .inr rfl
 case start=>exact⟨4,Wl,WF,WF⟩
 case rest =>
  rintro e st (⟨rfl,c,h⟩|rfl)
  ·simp only[Z8,seval];exact⟨_,bE rfl h (.v _),c,rfl⟩
  ·simp only[Z8,seval];exact⟨_,bE rfl Wl (.v _),0,rfl⟩
def YD (a b:oG):Int:=Classical.choose (aOg a b)
def aTm (a b:oG):KC 344 [.agg (fD a),.agg (fD b)] (aa (YD a b)):=fun _ _=>aX (aU (.agg _ (gM a)) (.agg _ (gM b))) (Classical.choose_spec (aOg a b)) (.v _)
def a0L (p b:Block):aA prog 343 [ah p,ah b]=some (ae (!decide (b.eQ=bQ) && decide (p.eQ=bQ))):=by
 rw[cL func343 rfl aTn rfl];by_cases h:b.eQ=bQ
 all_goals
  simp only[h,decide_true,decide_false,Bool.not_true,Bool.not_false,Bool.true_and,Bool.false_and];simp only[Z8,seval,h,decide_true,decide_false];exact bE rfl Wl (.v _)
def aOh (p b:Block):KC 343 [ah p,ah b] (ae (!decide (b.eQ=bQ) && decide (p.eQ=bQ))):=fun _ _=>aX (aU (lF p) (lF b)) (a0L p b) (.v _)
def DT (Ps:oG) (p b:Block):Prop:=(b.eQ=bQ->p.eQ=bQ)/\(b.eQ≠bQ->p.eQ=bQ->YD b.Yx Ps<0/\0<=YD b.diff Ps)
def a0M (Ps:oG) (p b:Block):aA prog 315 [.agg (fD Ps),ah p,ah b]=some (ae (decide (DT Ps p b))):=by
 rw[cL func315 rfl aTo rfl];unfold DT;by_cases h:b.eQ=bQ
 ·simp only[h,forall_const,ne_eq,not_true_eq_false,false_implies,and_true];simp only[Z8,seval,h,decide_true];exact bE rfl Wl (.v _)
 ·by_cases hp:p.eQ=bQ
  ·simp only[h,hp,ne_eq,not_false_eq_true,forall_const,false_implies,true_and];by_cases J:YD b.Yx Ps<0
   ·simp only[J,true_and];simp only[Z8,seval,h,hp,aOh,aTm,J,decide_true,decide_false,Bool.not_false,Bool.true_and];exact bE rfl Wl (.v _)
   ·simp only[J,false_and,decide_false];simp only[Z8,seval,h,hp,aOh,aTm,J,decide_true,decide_false,Bool.not_false,Bool.true_and];exact bE rfl Wl (.v _)
  ·simp only[h,hp,ne_eq,not_false_eq_true,forall_const,false_implies,and_self,decide_true];simp only[Z8,seval,h,hp,aOh,decide_false,Bool.not_false,Bool.true_and];exact bE rfl Wl (.v _)
def DU (Ps:oG) (p b:Block):KC 315 [.agg (fD Ps),ah p,ah b] (ae (decide (DT Ps p b))):=fun _ _=>aX (jC (.agg _ (gM Ps)) (lF p) (lF b)) (a0M Ps p b) (.v _)
def wZ (b:Block):Int:=if b.eQ=bQ then 1 else 0
def a0N (b:Block):aA prog 317 [ah b]=some (aa (wZ b)):=by
 rw[cL func317 rfl aTp rfl];unfold wZ;by_cases h:b.eQ=bQ
 ·simp only[h,if_true];simp only[Z8,seval,h,decide_true];exact bE rfl Wl (.v _)
 ·simp only[h,if_false];simp only[Z8,seval,h,decide_false];exact bE rfl Wl (.v _)
def aTq (b:Block):KC 317 [ah b] (aa (wZ b)):=fun _ _=>aX (bZ (lF b)) (a0N b) (.v _)
theorem kx {g:Nat} {args:List AV} {r:AV} (h:aA prog g args=some r) (W:∀x∈args,Flat x) (X:Flat r):∀(st:St) (d:Option Nat),aO (aA prog) g args st d=some { dst:=d,val:=r }:=fun st d=>aX W h X
def bf (h:¬x=y):(x == y)=false/\(x != y)=true:=zu
def bt (h:x=y):(x == y)=true/\(x != y)=false:=zu
def Cp (l:List Int) (n:Int) (k:Nat):Prop:=gx (0:Int) l k<0\/n<=gx (0:Int) l k\/(0<k/\gx (0:Int) l k<=gx (0:Int) l ((k:Int)-1))
def vM (l:List Int) (n:Int):Int:=if l=[] then 2 else if qP (Cp l n) l.length<0 then 0 else if gx (0:Int) l (qP (Cp l n) l.length)<0\/n<=gx (0:Int) l (qP (Cp l n) l.length) then 3 else 8
def eh (o:Option (List Int)) (hn:bg (ol o).length) (n:Int):aA prog 83 [ov aH o,aa n]=some (aa (vM (ol o) n)):=by
 rw[cL func83 rfl a0O wa]
 refine eM ?_
 by_cases h0:ol o=[]
 ·have C:vM (ol o) n=2:=if_pos h0
  have W:(ol o).length=0:=by rw[h0];rfl
  simp only[Z8,seval,W];exact⟨_,bE rfl wh XG,rfl⟩
 have W:=bf (x:=((ol o).length:Int)) (y:=0) vq
 simp only[Z8,seval,W];refine bP (fun m st=>∃k:Nat,(st.env 0=ov aH o/\st.env 1=aa n/\st.env 5=aa k)/\(∀j:Nat,j<k->¬Cp (ol o) n j)/\k<=(ol o).length/\m=(ol o).length-k)
  (fun e st=>(e=.ret/\∃k:Nat,k<(ol o).length/\Cp (ol o) n k/\(∀j:Nat,j<k->¬Cp (ol o) n j)/\st.env 4=aa (if gx (0:Int) (ol o) k<0\/n<=gx (0:Int) (ol o) k then 3 else 8))\/(e=.exit 0/\∀j:Nat,j<(ol o).length->¬Cp (ol o) n j)) (ol o).length ?step ?start ?rest
 case step =>
  rintro m st ⟨k,D,Y,R,hm⟩
  by_cases A:(k:Int)<(ol o).length
  ·obtain ⟨q0,hw⟩ := yY k
   by_cases J:gx (0:Int) (ol o) k<0
   ·apply oT (.ret)
    ·simp only[Z8,seval,D,A,q0,J];rfl
    ·exact .inl ⟨rfl,k,WF,.inl J,Y,by simp only[E8,seval,J,true_or]⟩
   by_cases h2:n<=gx (0:Int) (ol o) k
   ·apply oT (.ret)
    ·simp only[Z8,seval,D,A,q0,J,h2];rfl
    ·exact .inl ⟨rfl,k,WF,.inr (.inl h2),Y,by simp only[E8,seval,h2,or_true]⟩
   by_cases S:(0:Int)<k
   ·have q1:(0:Int)<=(k:Int)-1:=WF
    have N:(k:Int)-1<(ol o).length:=WF
    have p:i64.wrap ((k:Int)-1)=(k:Int)-1:=yq
    by_cases X:gx (0:Int) (ol o) k<=gx (0:Int) (ol o) ((k:Int)-1)
    ·apply oT (.ret)
     ·simp only[Z8,seval,D,A,q0,q1,N,p,J,h2,S,X];rfl
     ·exact .inl ⟨rfl,k,WF,.inr (.inr ⟨WF,X⟩),Y,by simp only[E8,seval,J,h2,or_self]⟩
    ·apply oN ((ol o).length-(k+1))
     ·simp only[Z8,seval,D,A,q0,q1,N,p,J,h2,S,X,hw];rfl
     ·exact⟨k+1,XC,fun j h=>(Nat.lt_succ_iff_lt_or_eq.1 h).elim (Y j) fun e=>by grind [Cp],WF,rfl⟩
   ·have h5:¬(0<k):=WF
    apply oN ((ol o).length-(k+1))
    ·simp only[Z8,seval,D,A,q0,J,h2,S,hw];rfl
    ·exact⟨k+1,XC,fun j h=>(Nat.lt_succ_iff_lt_or_eq.1 h).elim (Y j) fun e=>by grind [Cp],WF,rfl⟩
  ·apply oT (.exit 0)
   ·simp only[Z8,seval,D,A];rfl
   grind
 case start=>exact⟨0,Wl,fun j h=>WF,WF,WF⟩
 case rest =>
  rintro e st (⟨rfl,k,R,hh,Y,h⟩|⟨rfl,Y⟩)
  ·have C:vM (ol o) n=if gx (0:Int) (ol o) k<0\/n<=gx (0:Int) (ol o) k then 3 else 8:=by
    grind [vM,Ad]
   rw[<- C] at h;simp only[Z8,seval];exact⟨_,bE rfl qm XG,rfl⟩
  ·have C:vM (ol o) n=0:=by
    grind [vM,pN]
   simp only[Z8,seval];exact⟨_,bE rfl wh XG,rfl⟩
def aJu (a b:Int):(KS a b).2≠21:=by unfold KS;split<;>simp
theorem DV (l:List Int) (n:Int):vM l n≠21:=by grind [vM]
def x81 (o:Option (List Int)) (hn:bg (ol o).length):∃r,aA prog 81 [ov bD o]=some r/\∃a e:Int,r=.cY [ac a,aa e]/\e≠21:=by
 rw[cL func81 rfl aTr wa]
 simp only[Z8,seval];refine bP (fun m st=>∃(k:Nat) (a:Int),(st.env 0=ov bD o/\st.env 4=ac a/\st.env 5=aa k)/\k<=(ol o).length/\m=(ol o).length-k)
  (fun e st=>(e=.ret/\∃a e:Int,st.env 2=ac a/\st.env 3=aa e/\e≠21)\/(e=.exit 0/\∃a:Int,st.env 4=ac a)) (ol o).length ?step ?start ?rest
 case step =>
  rintro m st ⟨k,a,D,hk,hm⟩
  by_cases A:(k:Int)<(ol o).length
  ·obtain ⟨q0,hw⟩ := yY k
   by_cases J:(KS a (gx (0:Int) (ol o) k)).2=0
   ·apply oN ((ol o).length-(k+1))
    ·simp only[Z8,seval,D,A,q0,aOi,bW,J,hw];rfl
    ·exact⟨k+1,_,qc,WF,rfl⟩
   ·apply oT (.ret)
    ·simp only[Z8,seval,D,A,q0,aOi,bW,bf J];rfl
    ·exact .inl ⟨rfl,_,_,Wl,Wl,aJu _ _⟩
  ·apply oT (.exit 0)
   ·simp only[Z8,seval,D,A];rfl
   ·exact .inr ⟨rfl,a,XC⟩
 case start=>exact⟨0,0,yj,WF,WF⟩
 case rest =>
  rintro e st (⟨rfl,a,e,h,G,S⟩|⟨rfl,a,h⟩)
  ·simp only[Z8,seval];exact⟨_,bT rfl rfl rfl (by simp only[E8,seval,h,G]<;>rfl) (by simp only[E8,seval,h,G]<;>rfl),_,_,rfl,S⟩
  ·simp only[Z8,seval,h];exact⟨_,bT rfl rfl rfl qm qm,_,_,rfl,ZB⟩
def aTs (t:Table) (b:Option (List Int)) (hb:t.fL=ov bD b) (W:bg (ol b).length) (n:Int):∃r,aA prog 37 [ax t,aa n]=some r/\∃e:Int,r=aa e/\e≠21/\(e=0->((ol b).length:Int)=n):=by
 obtain⟨r,X,a,e,rfl,he⟩:=x81 b W
 have N:=kx X (bZ (cP b)) (.cY _ (aU (.v _) (.v _)))
 rw[cL func37 rfl aTt rfl];by_cases J:((ol b).length:Int)=n
 ·by_cases h2:e=0
  ·by_cases S:4611686018427387904<a
   all_goals
    simp only[Z8,seval,hb,bt J,bt h2,S,N,bW];exact⟨_,bE rfl Wl XG,_,rfl,ZB,fun _=>J⟩
  ·simp only[Z8,seval,hb,bt J,bf h2,N,bW];exact⟨_,bE rfl Wl XG,_,rfl,ZB,fun _=>J⟩
 ·simp only[Z8,seval,hb,bf J];exact⟨_,bE rfl Wl XG,_,rfl,ZB,fun h=>wu⟩
def x37 (t:Table) (D:vY t) (n:Int):∃r,aA prog 37 [ax t,aa n]=some r/\∃e:Int,r=aa e/\e≠21:=by
 obtain⟨b,hb,W⟩:=D
 obtain⟨r,hr,e,h1,h2,_⟩:=aTs t b hb W n
 grind
def Gz (a b:dH):Int:=if a.aG=b.aG then Jx a.root b.root else if a.aG<b.aG then -1 else 1
def c39 (a b:dH):aA prog 39 [ag a,ag b]=some (aa (Gz a b)):=by
 rw[cL func39 rfl a0P rfl];refine eM ?_
 unfold Gz;by_cases J:a.aG=b.aG
 ·rw[if_pos J];simp only[Z8,seval,bt J,k82];exact⟨_,bE rfl Wl XG,rfl⟩
 ·rw[if_neg J];by_cases h2:a.aG<b.aG
  all_goals
   simp only[Z8,seval,bf J,h2];exact⟨_,bE rfl Wl XG,rfl⟩
def k39 (a b:dH):KC 39 [ag a,ag b] (aa (Gz a b)):=fun _ _=>aX (aU (.agg _ (cM a)) (.agg _ (cM b))) (c39 a b) (.v _)
def aA8 {a b:dH}:Gz a b<0↔a.aG<b.aG\/(a.aG=b.aG/\Jx a.root b.root<0):=by
 grind [Gz]
def aFc {a b:dH} (h:¬Gz a b<0) (M:a≠b):Gz b a<0:=by
 rw[aA8] at h ⊢;by_cases e:a.aG=b.aG
 ·refine .inr ⟨e.symm,aFb (fun g=>h (.inr ⟨e,g⟩)) fun g=>M ?_⟩
  cases a;simp_all
 omega
theorem aA9 {a b c:dH} (h:Gz a b<0) (g:Gz b c<0):Gz a c<0:=by
 rw[aA8] at h g ⊢;rcases h with h|⟨h,h2⟩<;>rcases g with g|⟨g,g2⟩
 ·omega
 ·omega
 ·omega
 ·exact .inr ⟨WF,aJt h2 g2⟩
def Wa (h:vM l n=0):l.Pairwise (· < ·)/\∀x∈l,0<=x/\x<n:=by
 unfold vM at h;by_cases h0:l=[]
 ·grind
 rw[if_neg h0] at h;rcases lA (Cp l n) l.length with ⟨_,Y⟩|⟨k,R,h1,h2,e⟩
 ·have adj:∀j:Nat,j<l.length->(0<=gx (0:Int) l j/\gx (0:Int) l j<n)/\(0<j->gx (0:Int) l ((j:Int)-1)<gx (0:Int) l j):=fun j h=>by
   grind [Cp]
  refine⟨?_,fun x N=>?_⟩
  ·have key:∀d i:Nat,i+1+d<l.length->gx (0:Int) l i<gx (0:Int) l ((i+1+d:Nat):Int):=by
    intro d;induction d<;>grind
   refine pairwise_iff_getElem.2 fun i j hi Y hij=>?_
   have:=key (j-(i+1)) i WF
   rw[show i+1+(j-(i+1))=j from WF] at this
   simpa [gx,hi,Y] using this
  ·obtain⟨k,R,rfl⟩:=getElem_of_mem N
   simp_all [gx]
 omega
def aOj (h0:l≠[]) (J:l.Pairwise (· < ·)) (h2:∀x∈l,0<=x/\x<n):vM l n=0:=by
 unfold vM;rw[if_neg h0,pN (p:=Cp l n) l.length,if_pos WF]
 intro j Y;have e:gx (0:Int) l (j:Int)=l[j]:=by simp[gx,Y]
 have r:=h2 l[j] (getElem_mem Y)
 unfold Cp;rw[e];rintro (h|h|⟨h3,h⟩)
 ·omega
 ·omega
 ·have:=pairwise_iff_getElem.1 J (j-1) j WF Y WF
  rw[show ((j:Int)-1)=((j-1:Nat):Int) from WF,show gx (0:Int) l ((j-1:Nat):Int)=l[j-1] by grind [gx]] at h
  omega
def P7 (v:SV) (r:bU):Prop:=(∃j:Nat,j<(ol v.O).length/\(gx gQ (ol v.O) j).root=r)\/0<=aD v.ns r
def a0Q (hs:SD s v) (r:bU):aA prog 313 [bc s,.agg (aW r)]=some (ae (decide (P7 v r))):=by
 have hn:=hs.nO
 rw[cL func313 rfl aTu rfl];refine eM ?_
 simp only[Z8,seval,hs.bL];refine bP (fun m st=>∃k:Nat,(st.env 2=.ptr 2 0 0/\st.heap 2 0=some (.cells (aB s))/\st.env 3=.ptr 3 0 0/\st.heap 3 0=some (.cells (aW r))/\st.env 5=aa k)/\(∀j:Nat,j<k->¬((gx gQ (ol v.O) (j:Int)).root=r))/\k<=(ol v.O).length/\m=(ol v.O).length-k)
  (fun e st=>(e=.ret/\∃k:Nat,k<(ol v.O).length/\((gx gQ (ol v.O) (k:Int)).root=r)/\(∀j:Nat,j<k->¬((gx gQ (ol v.O) (j:Int)).root=r))/\st.env 4=ae true)\/(e=.exit 0/\(∀j:Nat,j<(ol v.O).length->¬((gx gQ (ol v.O) (j:Int)).root=r))/\st.env 2=.ptr 2 0 0/\st.heap 2 0=some (.cells (aB s))/\st.env 3=.ptr 3 0 0/\st.heap 3 0=some (.cells (aW r)))) ((ol v.O).length) ?step ?start ?rest
 case step =>
  rintro m st ⟨k,D,Y,R,hm⟩
  by_cases A:(k:Int)<(ol v.O).length
  ·obtain ⟨q0,hw⟩ := yY k
   by_cases u:(gx gQ (ol v.O) (k:Int)).root=r
   ·apply oT (.ret)
    ·simp only[Z8,seval,D,A,q0,hs.bL,u];rfl
    ·exact .inl ⟨rfl,k,WF,u,Y,by simp only[E8,seval,hs.bL]⟩
   ·apply oN ((ol v.O).length-(k+1))
    ·simp only[Z8,seval,D,A,q0,hs.bL,u,hw];rfl
    ·exact⟨k+1,XC,fun j h=>(Nat.lt_succ_iff_lt_or_eq.1 h).elim (Y j) fun e=>vg,WF,rfl⟩
  ·apply oT (.exit 0)
   ·simp only[Z8,seval,D,A,hs.bL];rfl
   ·exact .inr ⟨rfl,fun j h=>Y j WF,XC⟩
 case start=>exact⟨0,Wl,fun j h=>WF,WF,WF⟩
 case rest =>
  rintro e st (⟨rfl,k,R,u,Y,h⟩|⟨rfl,Y,D⟩)
  ·have C:decide (P7 v r)=true:=decide_eq_true (.inl ⟨k,R,u⟩)
   simp only[Z8,seval];exact⟨_,bE rfl qm XG,wm⟩
  ·have C:decide (P7 v r)=decide (0<=aD v.ns r):=by
    refine decide_eq_decide.2 ⟨fun h=>h.elim (fun ⟨j,W,G⟩=>absurd G (Y j W)) id,.inr⟩
   simp only[Z8,seval,D,hs.tree,qL _ _ hs.nn];exact⟨_,bE rfl Wl XG,wm⟩
def DW (hs:SD s v) (r:bU):KC 313 [bc s,.agg (aW r)] (ae (decide (P7 v r))):=fun _ _=>aX (aU hs.flat (oE r)) (a0Q hs r) (.v _)
def Jy (s:aF) (a:qX):Prop:=a.target.aG≠pY s a.slot\/(a.target.aG≠pY s s.now/\(pY s s.now=0\/a.target.aG≠u64.wrap (pY s s.now-1)))
def vZ (s:aF) (v:SV) (a:qX) (V:List Int):Bool × Int :=
 if vM V (ol v.B).length≠0 then (false,vM V (ol v.B).length) else
 if Jy s a then (false,18) else
 if aD v.ns a.root<0 then (false,10) else
 if aD v.ns a.target.root<0 then (false,10) else
 if a.slot<(nd v.ns (aD v.ns a.root)).block.slot then (false,14) else
 if Gu v.ns (aD v.ns a.root) (sF s a.target.aG).1≠aD v.ns a.target.root then (false,19) else (decide (s.now<=a.slot),0)
def aTv (hs:SD s v) (hu:eK v.ns) (hp:s.cFg.iH≠0) (a:qX) (o:Option (List Int)) (hV:a.dL=ov aH o) (hl:bg (ol o).length) :
 aA prog 254 [bc s,au a]=some (.cY [ae ((vZ s v a (ol o)).1),aa ((vZ s v a (ol o)).2)]):=by
 have W:=hs.flat
 have D:=fun n=>kx (eh o hl n) (aU (bR o) (.v _)) (.v _)
 rw[cL func254 rfl aTw rfl];refine eM ?_
 have G:=cB v.ns a.root
 by_cases g1:vM (ol o) (ol v.B).length=0
 case neg =>
  have C:vZ s v a (ol o)=(false,vM (ol o) (ol v.B).length):=zp
  simp only[Z8,seval,hV,DQ hs,D,bf g1];exact⟨_,bT rfl rfl rfl Wl Wl,wm⟩
 have R:Jy s a->vZ s v a (ol o)=(false,18):=fun g=>by grind [vZ]
 by_cases g2:a.target.aG=pY s a.slot
 case neg =>
  have C:=R (.inl g2)
  simp only[Z8,seval,hV,DQ hs,D,bt g1,Rm s hp W,bf g2];exact⟨_,bT rfl rfl rfl Wl Wl,wm⟩
 by_cases g3:a.target.aG=pY s s.now
 case neg =>
  by_cases g4:pY s s.now=0
  ·have C:=R (.inr ⟨g3,.inl g4⟩)
   simp only[Z8,seval,hV,DQ hs,D,bt g1,Rm s hp W,bt g2,bf g3,bt g4];exact⟨_,bT rfl rfl rfl Wl Wl,wm⟩
  by_cases g5:a.target.aG=u64.wrap (pY s s.now-1)
  case neg =>
   have C:=R (.inr ⟨g3,.inr g5⟩)
   simp only[Z8,seval,hV,DQ hs,D,bt g1,Rm s hp W,bt g2,bf g3,bf g4,bf g5];exact⟨_,bT rfl rfl rfl Wl Wl,wm⟩
  have M:¬Jy s a:=fun h=>h.elim (fun h=>h g2) fun h=>h.2.elim g4 fun h=>h g5
  by_cases g6:aD v.ns a.root<0
  ·have C:vZ s v a (ol o)=(false,10):=zp
   simp only[Z8,seval,hV,DQ hs,D,bt g1,Rm s hp W,bt g2,bf g3,bf g4,bt g5,hs.tree,qL _ _ hs.nn,g6];exact⟨_,bT rfl rfl rfl Wl Wl,wm⟩
  by_cases g7:aD v.ns a.target.root<0
  ·have C:vZ s v a (ol o)=(false,10):=zp
   simp only[Z8,seval,hV,DQ hs,D,bt g1,Rm s hp W,bt g2,bf g3,bf g4,bt g5,hs.tree,qL _ _ hs.nn,g6,g7];exact⟨_,bT rfl rfl rfl Wl Wl,wm⟩
  have q0:0<=aD v.ns a.root:=WF
  by_cases g8:a.slot<(nd v.ns (aD v.ns a.root)).block.slot
  ·have C:vZ s v a (ol o)=(false,14):=zp
   simp only[Z8,seval,hV,DQ hs,D,bt g1,Rm s hp W,bt g2,bf g3,bf g4,bt g5,hs.tree,qL _ _ hs.nn,g6,g7,q0,G,g8];exact⟨_,bT rfl rfl rfl Wl Wl,wm⟩
  by_cases g9:Gu v.ns (aD v.ns a.root) (sF s a.target.aG).1=aD v.ns a.target.root
  ·have C:vZ s v a (ol o)=(decide (s.now<=a.slot),0):=zp
   simp only[Z8,seval,hV,DQ hs,D,bt g1,Rm s hp W,bt g2,bf g3,bf g4,bt g5,hs.tree,qL _ _ hs.nn,g6,g7,q0,G,g8,KG s W,bW,YE _ hu hs.nn,bt g9];exact⟨_,bT rfl rfl rfl Wl Wl,wm⟩
  ·have C:vZ s v a (ol o)=(false,19):=zp
   simp only[Z8,seval,hV,DQ hs,D,bt g1,Rm s hp W,bt g2,bf g3,bf g4,bt g5,hs.tree,qL _ _ hs.nn,g6,g7,q0,G,g8,KG s W,bW,YE _ hu hs.nn,bf g9];exact⟨_,bT rfl rfl rfl Wl Wl,wm⟩
 have M:¬Jy s a:=fun h=>h.elim (fun h=>h g2) fun h=>h.1 g3
 by_cases g6:aD v.ns a.root<0
 ·have C:vZ s v a (ol o)=(false,10):=zp
  simp only[Z8,seval,hV,DQ hs,D,bt g1,Rm s hp W,bt g2,bt g3,hs.tree,qL _ _ hs.nn,g6];exact⟨_,bT rfl rfl rfl Wl Wl,wm⟩
 by_cases g7:aD v.ns a.target.root<0
 ·have C:vZ s v a (ol o)=(false,10):=zp
  simp only[Z8,seval,hV,DQ hs,D,bt g1,Rm s hp W,bt g2,bt g3,hs.tree,qL _ _ hs.nn,g6,g7];exact⟨_,bT rfl rfl rfl Wl Wl,wm⟩
 have q0:0<=aD v.ns a.root:=WF
 by_cases g8:a.slot<(nd v.ns (aD v.ns a.root)).block.slot
 ·have C:vZ s v a (ol o)=(false,14):=zp
  simp only[Z8,seval,hV,DQ hs,D,bt g1,Rm s hp W,bt g2,bt g3,hs.tree,qL _ _ hs.nn,g6,g7,q0,G,g8];exact⟨_,bT rfl rfl rfl Wl Wl,wm⟩
 by_cases g9:Gu v.ns (aD v.ns a.root) (sF s a.target.aG).1=aD v.ns a.target.root
 ·have C:vZ s v a (ol o)=(decide (s.now<=a.slot),0):=zp
  simp only[Z8,seval,hV,DQ hs,D,bt g1,Rm s hp W,bt g2,bt g3,hs.tree,qL _ _ hs.nn,g6,g7,q0,G,g8,KG s W,bW,YE _ hu hs.nn,bt g9];exact⟨_,bT rfl rfl rfl Wl Wl,wm⟩
 ·have C:vZ s v a (ol o)=(false,19):=zp
  simp only[Z8,seval,hV,DQ hs,D,bt g1,Rm s hp W,bt g2,bt g3,hs.tree,qL _ _ hs.nn,g6,g7,q0,G,g8,KG s W,bW,YE _ hu hs.nn,bf g9];exact⟨_,bT rfl rfl rfl Wl Wl,wm⟩
def DX (ns:List Node) (s:Int) (l:List Int):Eb ns s l=-1\/Eb ns s l∈l:=by
 suffices h:∀(l:List Int) (a:Int),l.foldl (fun r x=>if (nd ns x).block.slot<=s then x else r) a=a\/l.foldl (fun r x=>if (nd ns x).block.slot<=s then x else r) a∈l from h l (-1)
 intro l;induction l<;>grind
def Wb (hu:eK ns) (i s:Int):-1<=Gu ns i s/\Gu ns i s<ns.length/\Gu ns i s<=max i (-1):=by
 by_cases hi:0<=i/\i<ns.length
 ·rcases DX ns s (path ns i) with h|h
  ·grind [Gu]
  ·have:=Sh hu i.toNat i rfl hi.1 hi.2 _ h
   grind [Gu]
 ·rw[Si s hi];omega
def bn (x:AV) (k:dH->Option α) (R:Option α):Option α:=if h:∃c,x=ag c then k (Classical.choose h) else R
def aM1 (c:dH) (k:dH->Option α) (R:Option α):bn (ag c) k R=k c:=by
 unfold bn;have h:∃c',AV.agg (bI c)=ag c':=⟨c,rfl⟩
 grind [uX]
@[congr] theorem aSn {x y:AV} {k:dH->Option α} {R:Option α} (h:x=y):bn x k R=bn y k R:=yi
def aFd {call:Nat->List AV->Option AV} {ops:Array Oper} {st:St} {pos:String} {aft:Array Edge} (d:Nat) (x y z w:Operand) :
 cU prog call ops ⟨some d,.buildSlice 250 4 #[(0,x),(1,y),(2,z),(3,w)],T,pos,aft,none⟩ st =
  bn (st.ev x) (fun a=>bn (st.ev y) (fun b=>bn (st.ev z) (fun c=>bn (st.ev w) (fun e=>some ((st.new d (.row 40 33 [a,b,c,e].length (mJ [a,b,c,e]))).put (some d) (.own d (st.aJ d))))
   (cU prog call ops ⟨some d,.buildSlice 250 4 #[(0,x),(1,y),(2,z),(3,w)],T,pos,aft,none⟩ st)) (cU prog call ops ⟨some d,.buildSlice 250 4 #[(0,x),(1,y),(2,z),(3,w)],T,pos,aft,none⟩ st))
   (cU prog call ops ⟨some d,.buildSlice 250 4 #[(0,x),(1,y),(2,z),(3,w)],T,pos,aft,none⟩ st)) (cU prog call ops ⟨some d,.buildSlice 250 4 #[(0,x),(1,y),(2,z),(3,w)],T,pos,aft,none⟩ st):=by
 unfold bn;split
 ·rename_i J;have Y:=J
  obtain⟨a,u⟩:=Y
  have A:Classical.choose J=a:=by grind [uX]
  rw[A];split
  ·rename_i h2;have p:=h2
   obtain⟨b,D⟩:=p
   have M:Classical.choose h2=b:=by grind [uX]
   rw[M];split
   ·rename_i S;have h3c:=S
    obtain⟨c,l⟩:=h3c
    have C:Classical.choose S=c:=by grind [uX]
    rw[C];split
    ·rename_i X;have h4c:=X
     obtain⟨e,N⟩:=h4c
     have G:Classical.choose X=e:=by grind [uX]
     rw[G,gF 250 _ _ _ KH,pb];have R:((List.range 4).flatMap fun _=>Di.map AV.v)=mJ [dO,dO,dO,dO]:=by rw[Ae];rfl
     have m:=Sj [dO,dO,dO,dO] 0 a qe
     have W:=Sj [a,dO,dO,dO] 1 b qe
     have r:=Sj [a,b,dO,dO] 2 c qe
     have u3:=Sj [a,b,c,dO] 3 e qe
     simp only[Int.reduceToNat,Nat.reduceMul,Nat.reduceAdd,set_cons_zero,set_cons_succ,List.set] at m W r u3;simp only[cC,aOk,toList_toArray,map_cons,map_nil,all_cons,all_nil,u,D,l,N,AV.lL,Bool.and_self,uY,yH,AV.cells,nX,Pu,R,length_cons,length_nil,Nat.reduceMul,Nat.reduceAdd,Nat.reducePow,Nat.reduceLeDiff,Nat.reduceLT,true_or,true_and,and_true,and_self,if_true,↓reduceIte,m,W,r,u3,Nat.zero_le,Nat.le_refl]
    ·rfl
   ·rfl
  ·rfl
 ·rfl
def AF (s:aF) (v:SV) (b:Block) (c:dH):Prop:=c.aG<=s.aL.fin.aG\/(if (sF s c.aG).1<b.slot then 0<=Gu v.ns (aD v.ns b.parent) (sF s c.aG).1/\(nd v.ns (Gu v.ns (aD v.ns b.parent) (sF s c.aG).1)).block.root=c.root else b.root=c.root)
def tN (b:Block):List dH:=[b.dX,b.fin,b.dA.pj,b.dA.pf]
def Jz (s:aF) (v:SV) (b:Block):Prop:=0<=aD v.ns b.parent/\KQ s b/\∀j:Nat,j<4->AF s v b (gx dO (tN b) j)
def a0S (hs:SD s v) (hu:eK v.ns) (hp:s.cFg.iH≠0) (b:Block):aA prog 314 [bc s,ah b]=some (ae (decide (Jz s v b))):=by
 have W:=hs.flat
 rw[cL func314 rfl aTy rfl];refine eM ?_
 have r1:=cB v.ns b.parent
 by_cases g1:aD v.ns b.parent<0
 ·have C:decide (Jz s v b)=false:=decide_eq_false (fun h=>by have:=h.1;omega)
  simp only[Z8,seval,hs.tree,qL _ _ hs.nn,g1];exact⟨_,bE rfl Wl XG,wm⟩
 by_cases g2:KQ s b
 case neg =>
  have C:decide (Jz s v b)=false:=decide_eq_false (fun h=>g2 h.2.1)
  simp only[Z8,seval,hs.tree,qL _ _ hs.nn,g1,k85 s hp W,g2];exact⟨_,bE rfl Wl XG,wm⟩
 simp only[Z8,seval,hs.tree,qL _ _ hs.nn,g1,k85 s hp W,g2,aFd,aM1];have X:(tN b).length=4:=rfl
 refine bP (fun m st=>∃k:Nat,(st.env 2=.ptr 2 0 0/\st.heap 2 0=some (.cells (aB s))/\st.env 3=.ptr 3 0 0/\st.heap 3 0=some (.cells (aY b))/\st.env 5=aa (aD v.ns b.parent)/\st.env 6=.own 33 0/\st.heap 33 0=some (.row 40 33 (tN b).length (mJ (tN b)))/\st.env 7=aa k)/\(∀j:Nat,j<k->AF s v b (gx dO (tN b) j))/\k<=4/\m=4-k)
  (fun e st=>(e=.ret/\st.env 4=ae false/\∃j:Nat,j<4/\¬AF s v b (gx dO (tN b) j))\/(e=.exit 0/\∀j:Nat,j<4->AF s v b (gx dO (tN b) j))) 4 ?step ?start ?rest
 case step =>
  rintro m st ⟨k,D,Y,hk,hm⟩
  by_cases l:k<4
  ·have A:(k:Int)<(tN b).length:=by rw[X];omega
   obtain ⟨q0,hw⟩ := yY k
   obtain⟨c,G⟩:∃c,gx dO (tN b) k=c:=⟨_,rfl⟩
   have ra:=Wb hu (aD v.ns b.parent) (sF s c.aG).1
   have ld:∀T kk off,rK prog T=some kk->0<kk->off+kk<=33->pB prog T (some (.row 40 33 (tN b).length (mJ (tN b)))) ((k:Int).toNat * 33+off)=gI prog T (bI c) off:=fun T kk off J h2 S=>by rw[QY q0 A J h2 S,G]
   have cw:∀T kk,rK prog T=some kk->0<kk->kk<=33->pB prog T (some (.row 40 33 (tN b).length (mJ (tN b)))) ((k:Int).toNat * 33)=gI prog T (bI c) 0:=fun T kk J h2 S=>by rw[BV q0 A J h2 S,G]
   have R:AF s v b c->∀j:Nat,j<k+1->AF s v b (gx dO (tN b) j):=fun h j r=>(Nat.lt_succ_iff_lt_or_eq.1 r).elim (Y j) fun e=>by grind
   have u:=cw 23 1 AG ZB ZB
   have ld2:=ld 29 32 1 aOm ZB ZB
   have cl:∀i:Int,(k:Int)<4:=fun _=>by omega
   have hl4:(k:Int)<((tN b).length:Int):=A
   by_cases J:c.aG<=s.aL.fin.aG
   ·apply oN (4-(k+1))
    ·simp only[Z8,seval,D,A,q0,u,ld2,J,hw];rfl
    ·exact⟨k+1,XC,R (.inl J),WF,rfl⟩
   by_cases h2:(sF s c.aG).1<b.slot
   ·by_cases S:Gu v.ns (aD v.ns b.parent) (sF s c.aG).1<0
    ·apply oT (.ret)
     ·simp only[Z8,seval,D,A,q0,u,ld2,J,h2,S,KG s W,bW,hs.tree,YE _ hu hs.nn];rfl
     ·exact .inl ⟨rfl,qb,k,l,uu⟩
    have p:0<=Gu v.ns (aD v.ns b.parent) (sF s c.aG).1:=WF
    by_cases N:(nd v.ns (Gu v.ns (aD v.ns b.parent) (sF s c.aG).1)).block.root=c.root
    ·apply oN (4-(k+1))
     ·simp only[Z8,seval,D,A,q0,u,ld2,J,h2,S,KG s W,bW,hs.tree,YE _ hu hs.nn,p,ra,N,hw];rfl
     ·exact⟨k+1,XC,R (.inr qg),WF,rfl⟩
    ·apply oT (.ret)
     ·simp only[Z8,seval,D,A,q0,u,ld2,J,h2,S,KG s W,bW,hs.tree,YE _ hu hs.nn,p,ra,N];rfl
     ·exact .inl ⟨rfl,qb,k,l,uu⟩
   ·by_cases N:b.root=c.root
    ·apply oN (4-(k+1))
     ·simp only[Z8,seval,D,A,q0,u,ld2,J,h2,KG s W,bW,N,hw];rfl
     ·exact⟨k+1,XC,R (.inr qg),WF,rfl⟩
    ·apply oT (.ret)
     ·simp only[Z8,seval,D,A,q0,u,ld2,J,h2,KG s W,bW,N];rfl
     ·exact .inl ⟨rfl,qb,k,l,uu⟩
  ·have A:¬((k:Int)<(tN b).length):=by rw[X];omega
   apply oT (.exit 0)
   ·simp only[Z8,seval,D,A];rfl
   grind
 case start=>exact⟨0,Wl,fun j h=>WF,WF,WF⟩
 case rest =>
  rintro e st (⟨rfl,h,j,Y,M⟩|⟨rfl,h⟩)
  ·have C:decide (Jz s v b)=false:=decide_eq_false (fun h=>M (h.2.2 j Y))
   simp only[Z8,seval];exact⟨_,bE rfl qm XG,wm⟩
  ·have C:decide (Jz s v b)=true:=decide_eq_true ⟨WF,g2,h⟩
   simp only[Z8,seval];exact⟨_,bE rfl Wl XG,wm⟩
def DY (hs:SD s v) (hu:eK v.ns) (hp:s.cFg.iH≠0) (b:Block):KC 314 [bc s,ah b] (ae (decide (Jz s v b))):=fun _ _=>aX (aU hs.flat (lF b)) (a0S hs hu hp b) (.v _)
def sW (s:aF) (v:SV) (b:Block):Int :=
 if b.root=bQ then 2 else if P7 v b.root then 9 else if s.now<b.slot then 12 else if b.slot<=(sF s s.aL.fin.aG).1 then 13 else
 if aD v.ns b.parent<0 then 10 else if b.slot<=(nd v.ns (aD v.ns b.parent)).block.slot then 14 else if (nd v.ns (aD v.ns b.parent)).status=2 then 15 else
 if ¬Jz s v b then 16 else if ¬DT s.cFg.Ps (nd v.ns (aD v.ns b.parent)).block b then 17 else if s.cFg.lim.tO<=(v.ns.length:Int) then 11 else 0
def aTz (hs:SD s v) (hu:eK v.ns) (hp:s.cFg.iH≠0) (b:Block):aA prog 259 [bc s,ah b]=some (aa (sW s v b)):=by
 have W:=hs.flat
 rw[cL func259 rfl aTA rfl];refine eM ?_
 have G:=cB v.ns b.parent
 by_cases g1:b.root=bQ
 ·simp only[Z8,seval,KG s W,bW,DW hs,hs.tree,qL _ _ hs.nn,DY hs hu hp,DU,decide_true,decide_false,g1];exact⟨_,bE rfl Wl XG,xp⟩
 by_cases g2:P7 v b.root
 ·simp only[Z8,seval,KG s W,bW,DW hs,hs.tree,qL _ _ hs.nn,DY hs hu hp,DU,decide_true,decide_false,g1,g2];exact⟨_,bE rfl Wl XG,xp⟩
 by_cases g3:s.now<b.slot
 ·simp only[Z8,seval,KG s W,bW,DW hs,hs.tree,qL _ _ hs.nn,DY hs hu hp,DU,decide_true,decide_false,g1,g2,g3];exact⟨_,bE rfl Wl XG,xp⟩
 by_cases g4:b.slot<=(sF s s.aL.fin.aG).1
 ·simp only[Z8,seval,KG s W,bW,DW hs,hs.tree,qL _ _ hs.nn,DY hs hu hp,DU,decide_true,decide_false,g1,g2,g3,g4];exact⟨_,bE rfl Wl XG,xp⟩
 by_cases g5:aD v.ns b.parent<0
 ·simp only[Z8,seval,KG s W,bW,DW hs,hs.tree,qL _ _ hs.nn,DY hs hu hp,DU,decide_true,decide_false,g1,g2,g3,g4,g5];exact⟨_,bE rfl Wl XG,xp⟩
 have q0:0<=aD v.ns b.parent:=WF
 by_cases g6:b.slot<=(nd v.ns (aD v.ns b.parent)).block.slot
 ·simp only[Z8,seval,KG s W,bW,DW hs,hs.tree,qL _ _ hs.nn,DY hs hu hp,DU,decide_true,decide_false,g1,g2,g3,g4,g5,q0,G,g6];exact⟨_,bE rfl Wl XG,xp⟩
 by_cases g7:(nd v.ns (aD v.ns b.parent)).status=2
 ·simp only[Z8,seval,KG s W,bW,DW hs,hs.tree,qL _ _ hs.nn,DY hs hu hp,DU,decide_true,decide_false,g1,g2,g3,g4,g5,q0,G,g6,bt g7];exact⟨_,bE rfl Wl XG,xp⟩
 by_cases g8:¬Jz s v b
 ·simp only[Z8,seval,KG s W,bW,DW hs,hs.tree,qL _ _ hs.nn,DY hs hu hp,DU,decide_true,decide_false,g1,g2,g3,g4,g5,q0,G,g6,bf g7,g8];exact⟨_,bE rfl Wl XG,xp⟩
 replace g8:=Classical.not_not.1 g8
 by_cases g9:¬DT s.cFg.Ps (nd v.ns (aD v.ns b.parent)).block b
 ·simp only[Z8,seval,KG s W,bW,DW hs,hs.tree,qL _ _ hs.nn,DY hs hu hp,DU,decide_true,decide_false,g1,g2,g3,g4,g5,q0,G,g6,bf g7,g8,g9];exact⟨_,bE rfl Wl XG,xp⟩
 replace g9:=Classical.not_not.1 g9
 by_cases g10:s.cFg.lim.tO<=(v.ns.length:Int)
 ·simp only[Z8,seval,KG s W,bW,DW hs,hs.tree,qL _ _ hs.nn,DY hs hu hp,DU,decide_true,decide_false,g1,g2,g3,g4,g5,q0,G,g6,bf g7,g8,g9,g10];exact⟨_,bE rfl Wl XG,xp⟩
 simp only[Z8,seval,KG s W,bW,DW hs,hs.tree,qL _ _ hs.nn,DY hs hu hp,DU,decide_true,decide_false,g1,g2,g3,g4,g5,q0,G,g6,bf g7,g8,g9,g10];exact⟨_,bE rfl Wl XG,xp⟩
def aTB (hs:SD s v) (hu:eK v.ns) (hp:s.cFg.iH≠0) (b:Block):KC 259 [bc s,ah b] (aa (sW s v b)):=fun _ _=>aX (aU hs.flat (lF b)) (aTz hs hu hp b) (.v _)
def QZ (acc:Bool × dH × dH) (n:Node):Bool × dH × dH :=
 if n.status=2 then acc else (true,if acc.1=false\/acc.2.1.aG<n.block.dA.pj.aG then n.block.dA.pj else acc.2.1,if acc.1=false\/acc.2.2.aG<n.block.dA.pf.aG then n.block.dA.pf else acc.2.2)
def P8 (ns:List Node):Bool × dH × dH:=ns.foldl QZ (false,dO,dO)
def tP (ns:List Node):qF:=⟨(P8 ns).2.1,(P8 ns).2.2⟩
def OL (ns:List Node) (k:Nat) (h:k<ns.length):P8 (ns.take (k+1))=QZ (P8 (ns.take k)) (nd ns k):=by
 obtain⟨h',e⟩:=Pv (ns:=ns) (i:=(k:Int)) WF WF
 grind [P8,take_succ_eq_append_getElem]
def a0T (hs:SD s v):aA prog 252 [bc s]=some (.agg (eI (tP v.ns))):=by
 have hn:=hs.nn
 rw[cL func252 rfl aTC rfl];refine eM ?_
 simp only[Z8,seval,hs.tree];refine bP (fun m st=>∃(k:Nat) (b:Bool) (x y:dH),(st.env 1=.ptr 1 0 0/\st.heap 1 0=some (.cells (aB s))/\st.env 2=.ptr 2 0 0/\st.heap 2 0=some (.cells (eI Ha))/\st.env 3=.ptr 3 0 0/\st.heap 3 0=some (.cells (eI ⟨x,y⟩))/\st.env 4=ae b/\st.env 5=aa k)/\P8 (v.ns.take k)=(b,x,y)/\k<=v.ns.length/\m=v.ns.length-k)
  (fun e st=>e=.exit 0/\∃(x y:dH),(st.env 2=.ptr 2 0 0/\st.heap 2 0=some (.cells (eI Ha))/\st.env 3=.ptr 3 0 0/\st.heap 3 0=some (.cells (eI ⟨x,y⟩)))/\tP v.ns=⟨x,y⟩) v.ns.length ?step ?start ?rest
 case step =>
  rintro m st ⟨k,b,x,y,D,hp,hk,hm⟩
  by_cases A:(k:Int)<v.ns.length
  ·obtain ⟨q0,hw⟩ := yY k
   have p:=OL v.ns k WF
   rw[hp] at p;unfold QZ at p;by_cases J:(nd v.ns k).status=2
   ·rw[if_pos J] at p;apply oN (v.ns.length-(k+1))
    ·simp only[Z8,seval,D,A,q0,hs.tree,bt J,hw];rfl
    ·exact⟨k+1,b,x,y,XC,p,WF,rfl⟩
   rw[if_neg J] at p;cases b
   ·simp only[true_or,if_true] at p;apply oN (v.ns.length-(k+1))
    ·simp only[Z8,seval,D,A,q0,hs.tree,bf J,hw];rfl
    ·exact⟨k+1,true,_,_,qc,p,WF,rfl⟩
   ·simp only[Bool.true_eq_false,false_or] at p;by_cases h2:x.aG<(nd v.ns k).block.dA.pj.aG
    ·rw[if_pos h2] at p;by_cases S:y.aG<(nd v.ns k).block.dA.pf.aG
     ·rw[if_pos S] at p;apply oN (v.ns.length-(k+1))
      ·simp only[Z8,seval,D,A,q0,hs.tree,bf J,h2,S,hw];rfl
      ·exact⟨k+1,true,_,_,qc,p,WF,rfl⟩
     ·rw[if_neg S] at p;apply oN (v.ns.length-(k+1))
      ·simp only[Z8,seval,D,A,q0,hs.tree,bf J,h2,S,hw];rfl
      ·exact⟨k+1,true,_,_,qc,p,WF,rfl⟩
    ·rw[if_neg h2] at p;by_cases S:y.aG<(nd v.ns k).block.dA.pf.aG
     ·rw[if_pos S] at p;apply oN (v.ns.length-(k+1))
      ·simp only[Z8,seval,D,A,q0,hs.tree,bf J,h2,S,hw];rfl
      ·exact⟨k+1,true,_,_,qc,p,WF,rfl⟩
     ·rw[if_neg S] at p;apply oN (v.ns.length-(k+1))
      ·simp only[Z8,seval,D,A,q0,hs.tree,bf J,h2,S,hw];rfl
      ·exact⟨k+1,true,_,_,qc,p,WF,rfl⟩
  ·have G:k=v.ns.length:=WF
   rw[G,take_length] at hp;apply oT (.exit 0)
   ·simp only[Z8,seval,D,A,hs.tree];rfl
   ·exact⟨rfl,x,y,XC,by unfold tP;rw[hp]⟩
 case start=>exact⟨0,false,dO,dO,Wl,rfl,WF,WF⟩
 case rest =>
  rintro e st ⟨rfl,x,y,D,hp⟩
  simp only[Z8,seval,D];exact⟨_,iI rfl qc xk QbT,by rw[hp]⟩
def a0U (hs:SD s v):KC 252 [bc s] (.agg (eI (tP v.ns))):=fun _ _=>aX (bZ hs.flat) (a0T hs) (.agg _ (Ac _))
def yZ (s:aF) (c:dH):dH:=if s.aL.dX.aG<c.aG then c else s.aL.dX
def sX (s:aF) (c:dH):dH:=if s.aL.fin.aG<c.aG then c else s.aL.fin
def iR (s:aF) (v:SV) (J F:dH):Prop :=
 aD v.ns J.root<0\/aD v.ns F.root<0\/(nd v.ns (aD v.ns J.root)).status=2\/(nd v.ns (aD v.ns F.root)).status=2\/¬Pq s v.ns (aD v.ns J.root) J.aG\/¬Pq s v.ns (aD v.ns F.root) F.aG \/
 lN v.ns (aD v.ns F.root) (aD v.ns J.root)=false\/J.aG<F.aG\/pY s s.now<J.aG\/QV (ol v.T) J<0
def DZ (s:aF) (v:SV) (c1 c2:dH):AV:=if iR s v (yZ s c1) (sX s c2) then .cY [ag dO,ag dO,ae false] else .cY [ag (yZ s c1),ag (sX s c2),ae true]
end Go.Ab.Tryz
section
namespace Go.Ab.Tryz
open Classical Go.Proofs Go.Ab
end Go.Ab.Tryz
namespace Go.Ab
def Af [Ext] (P:Program) {f:Nat} {fn:Func} {c:Code} (W:P.funcs[f]? = some fn) (hb:fn.body=some c) (R:rP fn=true) (G:nG c=true) (xs:List AV) (N:Ext.ext f xs=none) (hu:xs.any tF=false):aA P f xs=cT (vN P true c (St.init xs)) (wY P f fn):=by
 rw[EA P W hb R xs N hu,G]
def Sk {α β:Type} {x:Option α} {k:α->Option β} {R:β->Prop} (Q:α->Prop) (h:∃a,x=some a/\Q a) (rest:∀a,Q a->∃r,k a=some r/\R r):∃r,cT x k=some r/\R r:=by
 obtain⟨a,J,h2⟩:=h
 rw[J];exact rest a h2
end Go.Ab
namespace Go.Ab.Tryz
open Classical Go.Proofs Go.Ab
variable {α:Type}
def Fg:aP 7 73 41/\aP 7 72 41:=⟨rfl,rfl⟩
def mF (a:α) (l m:List α):List.append (a :: l) m=a :: List.append l m:=rfl
def mG (m:List α):List.append ([]:List α) m=m:=rfl
def a0V {s:aF} {v:SV} (hs:SD s v) (hu:eK v.ns) (hp:s.cFg.iH≠0) (c1 c2:dH):aA prog 309 [bc s,ag c1,ag c2]=some (DZ s v c1 c2):=by
 have W:=hs.flat
 have M:=hs.fT
 rw[cG func309 rfl aTD WP rfl]
 refine eM ?_
 unfold DZ;obtain⟨J,X⟩:∃J,yZ s c1=J:=⟨_,rfl⟩
 obtain⟨F,R⟩:∃F,sX s c2=F:=⟨_,rfl⟩
 rw[X,R];simp only[ZG,seval,Fh,Fg,mF,mG];refine Sk (fun a=>a.1=.normal/\a.2.env 3=.ptr 3 0 0/\a.2.heap 3 0=some (.cells (aB s))/\a.2.env 5=.ptr 5 0 0/\a.2.heap 5 0=some (.cells (bI c2))/\a.2.env 6=.ptr 6 0 0/\a.2.heap 6 0=some (.cells (bI dO))/\a.2.env 7=.ptr 7 0 0/\a.2.heap 7 0=some (.cells (bI dO))/\a.2.env 9=.ptr 9 0 0/\a.2.heap 9 0=some (.cells (bI J))/\a.2.env 10=.ptr 10 0 0/\a.2.heap 10 0=some (.cells (bI s.aL.fin))) ?m1 ?r1
 case m1 =>
  unfold yZ at X;by_cases l:s.aL.dX.aG<c1.aG
  ·rw[if_pos l] at X;simp only[l,decide_true,if_true];exact⟨_,rfl,rfl,by simp only[E8,seval,X]<;>exact⟨rfl,rfl⟩⟩
  ·rw[if_neg l] at X;simp only[l,decide_false,Bool.false_eq_true,if_false];exact⟨_,rfl,rfl,by simp only[E8,seval,X]<;>exact⟨rfl,rfl⟩⟩
 case r1 =>
  rintro⟨_,st⟩ ⟨rfl,D⟩
  dsimp only at D
  simp only[ZG,seval,Fh,Fg,mF,mG,D];refine Sk (fun a=>a.1=.normal/\a.2.env 3=.ptr 3 0 0/\a.2.heap 3 0=some (.cells (aB s))/\a.2.env 6=.ptr 6 0 0/\a.2.heap 6 0=some (.cells (bI dO))/\a.2.env 7=.ptr 7 0 0/\a.2.heap 7 0=some (.cells (bI dO))/\a.2.env 9=.ptr 9 0 0/\a.2.heap 9 0=some (.cells (bI J))/\a.2.env 10=.ptr 10 0 0/\a.2.heap 10 0=some (.cells (bI F))) ?m2 ?r2
  case m2 =>
   unfold sX at R;by_cases a2:s.aL.fin.aG<c2.aG
   ·rw[if_pos a2] at R;simp only[a2,decide_true,if_true];exact⟨_,rfl,rfl,mq⟩
   ·rw[if_neg a2] at R;simp only[a2,decide_false,Bool.false_eq_true,if_false];exact⟨_,rfl,rfl,mq⟩
  case r2 =>
   rintro⟨_,st⟩ ⟨rfl,C⟩
   dsimp only at C
   have r1:=cB v.ns J.root
   have r2:=cB v.ns F.root
   by_cases g1:aD v.ns J.root<0
   ·simp only[ZG,seval,Fh,Fg,mF,mG,C,hs.tree,qL _ _ hs.nn,Ns _ hu hs.nn,Rm s hp W,hs.tables,fO _ hs.nT M,decide_true,decide_false,g1];exact⟨_,qo,by rw[if_pos (show iR s v J F by simp only[iR,g1,not_true_eq_false,not_false_eq_true,true_or,or_true])]⟩
   by_cases g2:aD v.ns F.root<0
   ·simp only[ZG,seval,Fh,Fg,mF,mG,C,hs.tree,qL _ _ hs.nn,Ns _ hu hs.nn,Rm s hp W,hs.tables,fO _ hs.nT M,decide_true,decide_false,g1,g2];exact⟨_,qo,by rw[if_pos (show iR s v J F by simp only[iR,g1,g2,not_true_eq_false,not_false_eq_true,true_or,or_true])]⟩
   have S:0<=aD v.ns J.root:=WF
   have N:0<=aD v.ns F.root:=WF
   by_cases g3:(nd v.ns (aD v.ns J.root)).status=2
   ·simp only[ZG,seval,Fh,Fg,mF,mG,C,hs.tree,qL _ _ hs.nn,Ns _ hu hs.nn,Rm s hp W,hs.tables,fO _ hs.nT M,decide_true,decide_false,g1,g2,S,N,r1,r2,bt g3];exact⟨_,qo,by rw[if_pos (show iR s v J F by simp only[iR,g1,g2,g3,not_true_eq_false,not_false_eq_true,true_or,or_true])]⟩
   by_cases g4:(nd v.ns (aD v.ns F.root)).status=2
   ·simp only[ZG,seval,Fh,Fg,mF,mG,C,hs.tree,qL _ _ hs.nn,Ns _ hu hs.nn,Rm s hp W,hs.tables,fO _ hs.nT M,decide_true,decide_false,g1,g2,S,N,r1,r2,bf g3,bt g4];exact⟨_,qo,by rw[if_pos (show iR s v J F by simp only[iR,g1,g2,g3,g4,not_true_eq_false,not_false_eq_true,true_or,or_true])]⟩
   have A:=k42 hs (aD v.ns J.root) J.aG S r1.2
   have G:=k42 hs (aD v.ns F.root) F.aG N r2.2
   by_cases g5:¬Pq s v.ns (aD v.ns J.root) J.aG
   ·simp only[ZG,seval,Fh,Fg,mF,mG,C,hs.tree,qL _ _ hs.nn,Ns _ hu hs.nn,Rm s hp W,hs.tables,fO _ hs.nT M,decide_true,decide_false,g1,g2,S,N,r1,r2,bf g3,bf g4,A,G,g5];exact⟨_,qo,by rw[if_pos (show iR s v J F by simp only[iR,g1,g2,g3,g4,g5,not_true_eq_false,not_false_eq_true,true_or,or_true])]⟩
   replace g5:=Classical.not_not.1 g5
   by_cases g6:¬Pq s v.ns (aD v.ns F.root) F.aG
   ·simp only[ZG,seval,Fh,Fg,mF,mG,C,hs.tree,qL _ _ hs.nn,Ns _ hu hs.nn,Rm s hp W,hs.tables,fO _ hs.nT M,decide_true,decide_false,g1,g2,S,N,r1,r2,bf g3,bf g4,A,G,g5,g6];exact⟨_,qo,by rw[if_pos (show iR s v J F by simp only[iR,g1,g2,g3,g4,g5,g6,not_true_eq_false,not_false_eq_true,true_or,or_true])]⟩
   replace g6:=Classical.not_not.1 g6
   by_cases g7:lN v.ns (aD v.ns F.root) (aD v.ns J.root)=false
   ·simp only[ZG,seval,Fh,Fg,mF,mG,C,hs.tree,qL _ _ hs.nn,Ns _ hu hs.nn,Rm s hp W,hs.tables,fO _ hs.nT M,decide_true,decide_false,g1,g2,S,N,r1,r2,bf g3,bf g4,A,G,g5,g6,g7];exact⟨_,qo,by rw[if_pos (show iR s v J F by simp only[iR,g1,g2,g3,g4,g5,g6,g7,not_true_eq_false,not_false_eq_true,true_or,or_true])]⟩
   replace g7:=(by simpa using g7:lN v.ns _ _=true)
   by_cases g8:J.aG<F.aG
   ·simp only[ZG,seval,Fh,Fg,mF,mG,C,hs.tree,qL _ _ hs.nn,Ns _ hu hs.nn,Rm s hp W,hs.tables,fO _ hs.nT M,decide_true,decide_false,g1,g2,S,N,r1,r2,bf g3,bf g4,A,G,g5,g6,g7,g7,g8];exact⟨_,qo,by rw[if_pos (show iR s v J F by simp only[iR,g1,g2,g3,g4,g5,g6,g7,g8,not_true_eq_false,not_false_eq_true,true_or,or_true])]⟩
   by_cases g9:pY s s.now<J.aG
   ·simp only[ZG,seval,Fh,Fg,mF,mG,C,hs.tree,qL _ _ hs.nn,Ns _ hu hs.nn,Rm s hp W,hs.tables,fO _ hs.nT M,decide_true,decide_false,g1,g2,S,N,r1,r2,bf g3,bf g4,A,G,g5,g6,g7,g7,g8,g9];exact⟨_,qo,by rw[if_pos (show iR s v J F by simp only[iR,g1,g2,g3,g4,g5,g6,g7,g8,g9,not_true_eq_false,not_false_eq_true,true_or,or_true])]⟩
   by_cases g10:QV (ol v.T) J<0
   ·simp only[ZG,seval,Fh,Fg,mF,mG,C,hs.tree,qL _ _ hs.nn,Ns _ hu hs.nn,Rm s hp W,hs.tables,fO _ hs.nT M,decide_true,decide_false,g1,g2,S,N,r1,r2,bf g3,bf g4,A,G,g5,g6,g7,g7,g8,g9,g10];exact⟨_,qo,by rw[if_pos (show iR s v J F by simp only[iR,g1,g2,g3,g4,g5,g6,g7,g8,g9,g10,not_true_eq_false,not_false_eq_true,true_or,or_true])]⟩
   simp only[ZG,seval,Fh,Fg,mF,mG,C,hs.tree,qL _ _ hs.nn,Ns _ hu hs.nn,Rm s hp W,hs.tables,fO _ hs.nT M,decide_true,decide_false,g1,g2,S,N,r1,r2,bf g3,bf g4,A,G,g5,g6,g7,g7,g8,g9,g10];exact⟨_,qo,by rw[if_neg (show ¬iR s v J F by simp only[iR,g1,g2,g3,g4,g5,g6,g7,g8,g9,g10,not_true_eq_false,not_false_eq_true,or_self,Bool.true_eq_false])]⟩
def a0W {s:aF} {v:SV} (hs:SD s v) (hu:eK v.ns) (hp:s.cFg.iH≠0) (c1 c2:dH):KC 309 [bc s,ag c1,ag c2] (DZ s v c1 c2):=fun _ _=>aX (jC hs.flat (.agg _ (cM c1)) (.agg _ (cM c2))) (a0V hs hu hp c1 c2) Qax
end Go.Ab.Tryz
end
namespace Go.Ab.Tryz
open Classical Go.Proofs Go.Ab
variable {α:Type} {e sz d k:Nat} {st:St} {s:aF} {v:SV}
def uo (e sz:Nat) (c:List α->List AV):Option (List α)->AV
 | none=>.v (.slice none 0 0)
 | some l=>.uniq e sz l.length (c l)
def rl (e sz:Nat) (c:List α->List AV):Option (List α)->List mH
 | none=>[]
 | some l=>[.row e sz l.length (c l)]
def rv (d k:Nat):Option (List α)->AV
 | none=>.v (.slice none 0 0)
 | some _=>.own d k
def Sl (d:Nat) (es:List mH):Option (Nat × List mH):=if es=[] then none else some (d,es)
def Bl (st:St) (d:Nat):st.news d []=st:=by
 unfold St.news;cases st<;>grind [St.mk.injEq]
def OM (x:Option Nat) (v:AV) (d:Nat) (es:List mH) (st:St):({ dst:=x,val:=v,new:=Sl d es }:rI).apply st=(st.news d es).put x v:=by
 unfold Sl;by_cases h:es=[]
 ·rw[if_pos h,h,Bl];rfl
 ·rw[if_neg h];rfl
def aFe (st:St) (t d:Nat) (es:List mH):(st.news d es).env t=st.env t:=rfl
def YF (st:St) (t d:Nat) (es:List mH):(st.news d es).aJ t=if t=d then st.aJ d+es.length else st.aJ t:=rfl
def uZ (st:St) (s g d:Nat) (es:List mH):(st.news d es).heap s g=if s=d/\st.aJ d<=g/\g-st.aJ d<es.length then es[g-st.aJ d]? else st.heap s g:=rfl
def tZ {call:Nat->List AV->Option AV} {g:Nat} {args:List AV} {c:List α->List AV} {L:Option (List α)} (hf:∀x∈args,Flat x) (h:call g args=some (uo e sz c L)) :
 aO call g args st (some d)=some { dst:=some d,val:=rv d (st.aJ d) L,new:=Sl d (rl e sz c L)}:=by
 cases L<;>grind [aO,cC,uo,jH,rv,rl,Sl,Flat.v,gA]
def lC {c:List α->List AV} {L:Option (List α)} (hh:∀l,L=some l->st.heap d k=some (.row e sz l.length (c l))) (hf:∀l,L=some l->∀x∈c l,Flat x):kZ st (rv d k L)=some (uo e sz c L):=by
 cases L with
 | none=>exact if_pos (Flat.v _)
 | some l =>
   have hn:¬Flat (.own d k):=ym
   grind [rv,uo,kZ]
def jU {c:List α->List AV} {L:Option (List α)} (hh:∀l,L=some l->st.heap d k=some (.row e sz l.length (c l))) (hf:∀l,L=some l->∀x∈c l,Flat x):cO st (rv d k L)=some (ov c L):=by
 cases L with
 | none=>exact if_pos (Flat.v _)
 | some l =>
   have hn:¬Flat (.own d k):=ym
   grind [rv,ov,cO]
def Bm (d k:Nat) (L:Option (List α)):(rv d k L).cells=[rv d k L]:=du
def Mj (d k:Nat) (L:Option (List α)):(rv d k L).lL=true:=du
def NW:=aj (ka @OM @aFe @YF @uZ) (aj @Bm @Mj)
def eG (st:St) (s g:Nat):cO st (.own s g)=lG (st.heap s g):=by
 grind [cO,lG,qG]
def SD.fl (h:SD s v):Flat s.cFg.fL/\Flat s.dI.cJ/\Flat s.dI.dM/\Flat s.bH.early/\Flat s.bH.bL/\Flat s.tree.nodes/\Flat s.tables:=(yE s).1 h.flat
def mU (s:aF) (v:SV) (c1 c2:dH):SV :=
 if iR s v (yZ s c1) (sX s c2) then v else
 if sX s c2=s.aL.fin then { v with T:=nz (Se (ol v.T) (yZ s c1).aG)} else
 { v with T:=nz (Se (ol v.T) (yZ s c1).aG),ns:=(iY v.ns (aD v.ns (sX s c2).root) v.ns.length).1,O:=nz ((ol v.O).filter fun b=>decide ((sF s (sX s c2).aG).1<b.slot))}
def rH (s:aF) (v:SV) (c1 c2:dH):aF :=
 if iR s v (yZ s c1) (sX s c2) then s else
 if sX s c2=s.aL.fin then { s with aL:=⟨yZ s c1,sX s c2⟩,tables:=ov bG (nz (Se (ol v.T) (yZ s c1).aG))} else
 { s with aL:=⟨yZ s c1,sX s c2⟩,tables:=ov bG (nz (Se (ol v.T) (yZ s c1).aG)),
          tree:=⟨.sl (iY v.ns (aD v.ns (sX s c2).root) v.ns.length).1.length (bS (iY v.ns (aD v.ns (sX s c2).root) v.ns.length).1)⟩,
          dY:=if aD (iY v.ns (aD v.ns (sX s c2).root) v.ns.length).1 s.dY<0 then bQ else s.dY,
          bH:={ s.bH with bL:=ov aK (nz ((ol v.O).filter fun b=>decide ((sF s (sX s c2).aG).1<b.slot)))} }
def EB {ns:List Node} (i:Int):(iY ns i ns.length).1.length<=ns.length:=Mk ns i ns.length
theorem SD.dE (h:SD s v) (hu:eK v.ns) (c1 c2:dH):SD (rH s v c1 c2) (mU s v c1 c2):=by
 have hT:bg ((ol (nz (Se (ol v.T) (yZ s c1).aG))).length):=by rw[mE];have:=length_filter_le (fun t:Table=>decide ((yZ s c1).aG<=t.ck.aG)) (ol v.T);have:=h.nT;unfold Se;omega
 have hB:∀t∈ol (nz (Se (ol v.T) (yZ s c1).aG)),vY t:=by rw[mE];exact fun t m=>h.tB t (mem_filter.1 m).1
 unfold rH mU;split
 ·exact h
 split
 ·grind [mk,fL,cJ,dM,early,bL,tree,eV,nB,nL,nQ,nE,nO,nn]
 ·refine⟨h.fL,h.cJ,h.dM,h.early,rfl,rfl,rfl,h.eV,hB,h.nB,h.nL,h.nQ,h.nE, ?_,hT, ?_⟩
  ·rw[mE];have:=length_filter_le (fun b:Block=>decide ((sF s (sX s c2).aG).1<b.slot)) (ol v.O);have:=h.nO;omega
  ·have:=EB (ns:=v.ns) (aD v.ns (sX s c2).root);have:=h.nn;grind
def aJz (e sz:Nat) (c:List α->List AV) (l:List α):Sf e sz c l=uo e sz c (nz l):=by
 unfold Sf nz uo;split<;>rfl
def a0X (hs:SD s v) (hu:eK v.ns) (hp:s.cFg.iH≠0) (c1 c2:dH):aA prog 253 [bc s,ag c1,ag c2]=some (bc (rH s v c1 c2)):=by
 have W:=hs.flat
 have hn:=hs.nO
 have nY:=hs.fl
 have YG:=a0W hs hu hp c1 c2
 rw[cG func253 rfl aTE WP rfl]
 refine eM ?_
 by_cases b1:iR s v (yZ s c1) (sX s c2)
 ·have C:rH s v c1 c2=s:=if_pos b1
  have G:DZ s v c1 c2=.cY [ag dO,ag dO,ae false]:=if_pos b1
  rw[G] at YG
  simp only[ZG,seval,Yy,YG,bW];exact⟨_,iI rfl mj mh WF,wm⟩
 have G:DZ s v c1 c2=.cY [ag (yZ s c1),ag (sX s c2),ae true]:=if_neg b1
 rw[G] at YG
 have C:rH s v c1 c2=_:=if_neg b1
 generalize hJ:yZ s c1=J at *
 generalize hF:sX s c2=F at *
 have hfr:=cB v.ns F.root
 have hF0:0<=aD v.ns F.root:=by rcases Int.lt_or_le (aD v.ns F.root) 0 with h|h;exact absurd (.inr (.inl h)) b1;exact h
 have aOp:=a0I v.T hs.nT (fun t m=>(hs.tB t m).fl) J.aG
 have kp:=a0Y v.ns hu hs.nn (aD v.ns F.root) ⟨hF0,hfr.2⟩
 have KT:∀t∈ol (nz (Se (ol v.T) J.aG)),Flat t.fL:=fun t m=>by rw[mE] at m;exact (hs.tB t (mem_filter.1 m).1).fl
 rw[aJz] at aOp;obtain⟨o,p⟩:∃o,nz (Se (ol v.T) J.aG)=o:=⟨_,rfl⟩
 rw[p] at aOp C KT;have aFf:∀st,aO (aA prog) 310 [ov bG v.T,ac J.aG] st (some 30)=_:=fun st=>tZ (st:=st) (d:=30) (aU hs.fT (.v _)) aOp
 obtain⟨es,r⟩:∃es,rl 74 34 bG o=es:=⟨_,rfl⟩
 obtain⟨E,hE⟩:∃E,(if 0<es.length then es[0]? else none)=E:=⟨_,rfl⟩
 have ex1:∀st:St,st.heap 30 0=E->cO st (rv 30 0 o)=some (ov bG o):=fun st h=>by
  refine jU (e:=74) (sz:=34) (fun l e=>?_) (fun l e=>by subst e;exact jL l KT)
  rw[h,<- hE,<- r,e];rfl
 rw[r] at aFf
 by_cases M:F=s.aL.fin
 ·rw[if_pos M] at C;subst M;simp only[ZG,seval,Yy,YG,bW,hs.tables,aFf,NW,decide_true,decide_false];exact⟨_,by apply jE;rfl;all_goals simp only[aI,Z8,seval,NW,hE,ex1,nY,dC,fV,bY,sB]<;>rfl,wm⟩
 rw[if_neg M] at C;obtain⟨Wc,X⟩:∃Wc,(iY v.ns (aD v.ns F.root) v.ns.length).1=Wc:=⟨_,rfl⟩
 have Rj:bg Wc.length:=by have:=EB (ns:=v.ns) (aD v.ns F.root);have:=hs.nn;rw[<- X];omega
 unfold jl at kp;rw[X] at kp C;obtain⟨x,ex⟩:∃x,(Nt F.aG s.cFg.iH).1=x:=⟨_,rfl⟩
 rw[show (sF s F.aG).1=x from ex] at C;obtain⟨bo,hb⟩:∃bo,(if aD Wc s.dY<0 then bQ else s.dY)=bo:=⟨_,rfl⟩
 rw[hb] at C;obtain⟨S,eS⟩:∃S:aF,S={ cFg:=s.cFg,dI:=s.dI,aL:=⟨J,F⟩,bH:=s.bH,tree:=⟨.sl Wc.length (bS Wc)⟩,now:=s.now,dY:=bo,tables:=rv 30 0 o }:=⟨_,rfl⟩
 have hS:∀st:St,st.heap 30 0=E->eE st (bc S)=some (bc ({ S with tables:=ov bG o })):=fun st h=>by
  simp_all [dC,fV,bY,sB,cC]
 have k84':∀(st:St) (d:Option Nat),st.heap 30 0=E->aO (aA prog) 84 [bc S,ac F.aG] st d=some { dst:=d,val:=.cY [ac ((sF S F.aG).1),ae ((sF S F.aG).2 == 0)]}:=fun st d h=>by
  rw[dZ,map_cons,map_cons,map_nil,hS st h,xA,aM,aM,dB];exact RA (c84 _ F.aG) (by intro x N;simp only[mem_cons,not_mem_nil,or_false] at N;rcases N with rfl|rfl<;>exact .v _) (.cY _ (aU (.v _) (.v _)))
 simp only[sF,eS,ex] at k84'
 have hoS:S.bH.bL=ov aK v.O:=by rw[eS];exact hs.bL
 by_cases g:aD Wc s.dY<0<;>simp only[g,if_true,if_false] at hb<;>(try rw[hb] at g)
 all_goals
  simp only[ZG,seval,Yy,YG,bW,hs.tables,aFf,NW,hE,decide_true,decide_false,M,hs.tree,qL _ _ hs.nn,kp,qL _ _ Rj,g,hb,k84',hs.bL];refine jV (fun m st=>∃k:Nat,(st.env 3=.ptr 3 0 0/\st.heap 3 0=some (.cells (aB S))/\st.env 6=.ptr 6 0 0/\st.heap 6 0=some (.cells (aB eU))/\st.env 11=ac x/\st.heap 30 0=E/\st.env 14=aa k)/\(((((ol v.O).take k).filter (fun b=>decide (x<b.slot)))=[]/\st.env 13=af)\/((((ol v.O).take k).filter (fun b=>decide (x<b.slot)))≠[]/\∃g,st.env 13=.own 99 g/\g<st.aJ 99/\st.heap 99 g=some (.row 66 238 (((ol v.O).take k).filter (fun b=>decide (x<b.slot))).length (aK (((ol v.O).take k).filter (fun b=>decide (x<b.slot)))))))/\k<=(ol v.O).length/\m=(ol v.O).length-k)
   (fun e st=>e=.exit 0/\(((((ol v.O).take (ol v.O).length).filter (fun b=>decide (x<b.slot)))=[]/\st.env 13=af)\/((((ol v.O).take (ol v.O).length).filter (fun b=>decide (x<b.slot)))≠[]/\∃g,st.env 13=.own 99 g/\g<st.aJ 99/\st.heap 99 g=some (.row 66 238 (((ol v.O).take (ol v.O).length).filter (fun b=>decide (x<b.slot))).length (aK (((ol v.O).take (ol v.O).length).filter (fun b=>decide (x<b.slot)))))))/\st.env 3=.ptr 3 0 0/\st.heap 3 0=some (.cells (aB S))/\st.env 6=.ptr 6 0 0/\st.heap 6 0=some (.cells (aB eU))/\st.env 11=ac x/\st.heap 30 0=E) ((ol v.O).length) ?step ?start ?rest
  case step =>
   rintro m st ⟨k,D,h5,hk,hm⟩
   have Mi:bg ((((ol v.O).take k).filter (fun b=>decide (x<b.slot))).length:Nat):=qg
   by_cases A:(k:Int)<(ol v.O).length
   ·obtain ⟨q0,hw⟩ := yY k
    have hs:=Vz gQ (fun b=>decide (x<b.slot)) (ol v.O) k WF
    by_cases u:x<(gx gQ (ol v.O) (k:Int)).slot
    ·rw[if_pos (decide_eq_true u)] at hs;rcases h5 with ⟨Y,h5⟩|⟨Y,g,h5⟩
     all_goals
      try rw[Y] at hs
      apply Ka ((ol v.O).length-(k+1))
      ·simp only[ZG,seval,D,h5,Mi,A,hw,q0,Yy,hoS,u];rfl
      ·exact⟨k+1,XC,.inr ⟨cq,_,Wl,Yo,QaZ⟩,WF,rfl⟩
    ·rw[if_neg dq,append_nil] at hs
     apply Ka ((ol v.O).length-(k+1))
     ·simp only[ZG,seval,D,A,hw,q0,Yy,hoS,u];rfl
     ·exact⟨k+1,XC,by rw[hs];simpa only[E8,seval] using h5,WF,rfl⟩
   ·have Gt:k=(ol v.O).length:=WF
    rw[Gt] at h5;apply BW (.exit 0)
    ·simp only[ZG,seval,D,A,Yy,hoS];rfl
    ·exact⟨rfl,by simpa only[E8,seval] using h5,XC⟩
  case start=>exact⟨0,by simp only[E8,seval,eS,NW,hE]<;>rfl,.inl ⟨rfl,qb⟩,WF,WF⟩
  case rest =>
   rintro e st ⟨rfl,⟨Y,h5⟩|⟨Y,g,h5,hg,R⟩,D⟩
   ·rw[take_length] at Y;rw[show nz ((ol v.O).filter fun b=>decide (x<b.slot))=none from if_pos Y] at C
    rw[eS] at D;simp only[ZG,seval,Yy,h5,D];exact⟨_,by apply jE;rfl;all_goals simp only[aI,Z8,seval,D,ex1,nY,dC,fV,bY,sB]<;>rfl,dw⟩
   ·rw[take_length] at Y R;rw[show nz ((ol v.O).filter fun b=>decide (x<b.slot))=some ((ol v.O).filter fun b=>decide (x<b.slot)) from if_neg Y] at C
    rw[eS] at D;simp only[ZG,seval,Yy,h5,R,D];exact⟨_,by apply jE;rfl;all_goals simp only[aI,Z8,seval,D,R,ex1,nY,dC,fV,eG,bY,Fi,sB]<;>rfl,dw⟩
def aOq (hs:SD s v) (hu:eK v.ns) (hp:s.cFg.iH≠0) (c1 c2:dH):KC 253 [bc s,ag c1,ag c2] (bc (rH s v c1 c2)):=fun _ _=>aX (jC hs.flat (.agg _ (cM c1)) (.agg _ (cM c2))) (a0X hs hu hp c1 c2) (hs.dE hu c1 c2).flat
end Go.Ab.Tryz
