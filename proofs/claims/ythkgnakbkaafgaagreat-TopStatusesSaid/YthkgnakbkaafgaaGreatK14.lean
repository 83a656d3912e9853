/-
  Part 14 of the proof: an evaluator of programs, its soundness, and what functions of this program compute.
-/
import Derived.Test.YthkgnakbkaafgaaGreatK13
import Derived.Test.YthkgnakbkaafgaaGreatK9
import Derived.Test.YthkgnakbkaafgaaGreatK10
import Derived.Test.YthkgnakbkaafgaaGreatK12
import Derived.Test.YthkgnakbkaafgaaGreatK11
set_option linter.all false
set_option maxRecDepth 20000
set_option maxHeartbeats 40000000
open Go.IntKind (i64 u64 u8)
open List Go.Proofs.Tryz
noncomputable section
namespace Go.Ab.Tryz
open Classical Go.Proofs Go.Ab
variable {t:State} {v:SV} {Q R:Option (List Request)} {q j e i tag m q' m' n:Int} {a r ns:List Node} {b l:List Int} {c:Config} {s:aF} {x:Request} {P:List Request} {α:Type}
def x19 (hT:TD t v Q R) (h:GI t.store v q) (r:RG t.store v) (hB:0<(ol v.B).length/\(ol v.B).length<=64) (N:∀r∈ol Q,Rg r.tagged.tag) (n k:Int) (hk:0<=k) :
 ∃x,aA prog 19 [bd t,aa n,aa k]=some x/\∃y:uI,x=be y/\rW y/\(y.kind=2->y.block.root=mkRoot n\/∃m∈v.ns,y.block.root=m.block.root):=by
 have z:=zOk
 have hm:=Ms hk (min 4 i64.bits)
 have W:=hT.flat
 have KF:=h.sd.flat
 obtain⟨x1,A,b,rfl,rb⟩:=x46 h r n (k.fdiv (2 ^ min 4 i64.bits)) hm
 obtain⟨x2,M,a,V,rfl,hV,S,ra1,ra2⟩:=x47 h r hB (k.fdiv (2 ^ min 4 i64.bits)) hm
 obtain⟨x3,C,sl,rfl,c1,c2,s1,s2,s3,s4⟩:=x48 (ol v.B).length (k.fdiv (2 ^ min 4 i64.bits)) WF WF
 obtain⟨x4,G,tb,bl,rfl,hb,nb,rbl,rt⟩:=x49 h r hB (k.fdiv (2 ^ min 4 i64.bits)) hm
 obtain⟨x5,D,w,rfl,rw5⟩:=x50 hT h N (k.fdiv (2 ^ min 4 i64.bits)) hm
 have fA:Flat a.dL:=by rw[hV];exact bR _
 have fT:Flat tb.fL:=by rw[hb];exact cP _
 have k46:=kx A (jC KF (.v _) (.v _)) (lF b)
 have k47:=kx M (aU KF (.v _)) ((rS a).2 fA)
 have k48:=kx C (aU (.v _) (.v _)) ((jT sl).2 ⟨(pL _).1 c1.fl,(pL _).1 c2.fl⟩)
 have k49:=kx G (aU KF (.v _)) ((iQ tb).2 fT)
 have k50:=kx D (aU W (.v _)) (.agg _ (fJ w))
 have y1:rW { yO with kind:=1 }:=⟨z.Dy,z.c1,z.c2,z.EE,z.rb,z.ra,z.rs,z.rt,z.rv⟩
 have Y:rW { yO with kind:=2,block:=b }:=⟨z.Dy,z.c1,z.c2,z.EE,rb.toRB,z.ra,z.rs,z.rt,z.rv⟩
 have l:rW { yO with kind:=3,Dy:=a }:=⟨⟨some V,hV,S⟩,z.c1,z.c2,z.EE,z.rb,⟨ra1,ra2⟩,z.rs,z.rt,z.rv⟩
 have y4:rW { yO with kind:=4,mQ:=sl }:=⟨z.Dy,c1,c2,z.EE,z.rb,z.ra,⟨s1,s2,s3,s4⟩,z.rt,z.rv⟩
 have y5:rW { yO with kind:=5,table:=tb }:=⟨z.Dy,z.c1,z.c2,⟨some bl,hb,nb,rbl⟩,z.rb,z.ra,z.rs,rt,z.rv⟩
 have y6:rW { yO with kind:=6,verdict:=w }:=⟨z.Dy,z.c1,z.c2,z.EE,z.rb,z.ra,z.rs,z.rt,rw5⟩
 rw[cL func19 rfl a2x rfl];by_cases p:((k).tmod 16)=0
 ·simp only[Z8,seval,bt p];exact⟨_,iI rfl Wl qk y1.flat,_,rfl,y1,fun h=>absurd (show (1:Int)=2 from h) ZB⟩
 by_cases c1:((k).tmod 16)=1
 ·simp only[Z8,seval,bf p,bt c1];exact⟨_,iI rfl Wl qk y1.flat,_,rfl,y1,fun h=>absurd (show (1:Int)=2 from h) ZB⟩
 by_cases c2:((k).tmod 16)=2
 ·simp only[Z8,seval,bf p,bf c1,bt c2];exact⟨_,iI rfl Wl qk y1.flat,_,rfl,y1,fun h=>absurd (show (1:Int)=2 from h) ZB⟩
 by_cases c3:((k).tmod 16)=3
 ·simp only[Z8,seval,bf p,bf c1,bf c2,bt c3,k46];exact⟨_,iI rfl Wl qk Y.flat,_,rfl,Y,fun _=>rb.rt⟩
 by_cases J:((k).tmod 16)=4
 ·simp only[Z8,seval,bf p,bf c1,bf c2,bf c3,bt J,k46];exact⟨_,iI rfl Wl qk Y.flat,_,rfl,Y,fun _=>rb.rt⟩
 by_cases X:((k).tmod 16)=5
 ·simp only[Z8,seval,bf p,bf c1,bf c2,bf c3,bf J,bt X,k46];exact⟨_,iI rfl Wl qk Y.flat,_,rfl,Y,fun _=>rb.rt⟩
 by_cases u:((k).tmod 16)=6
 ·simp only[Z8,seval,bf p,bf c1,bf c2,bf c3,bf J,bf X,bt u,k46];exact⟨_,iI rfl Wl qk Y.flat,_,rfl,Y,fun _=>rb.rt⟩
 by_cases c7:((k).tmod 16)=7
 ·simp only[Z8,seval,bf p,bf c1,bf c2,bf c3,bf J,bf X,bf u,bt c7,k46];exact⟨_,iI rfl Wl qk Y.flat,_,rfl,Y,fun _=>rb.rt⟩
 by_cases c8:((k).tmod 16)=8
 ·simp only[Z8,seval,bf p,bf c1,bf c2,bf c3,bf J,bf X,bf u,bf c7,bt c8,k47];exact⟨_,iI rfl Wl qk l.flat,_,rfl,l,fun h=>absurd (show (3:Int)=2 from h) ZB⟩
 by_cases c9:((k).tmod 16)=9
 ·simp only[Z8,seval,bf p,bf c1,bf c2,bf c3,bf J,bf X,bf u,bf c7,bf c8,bt c9,k47];exact⟨_,iI rfl Wl qk l.flat,_,rfl,l,fun h=>absurd (show (3:Int)=2 from h) ZB⟩
 by_cases fj:((k).tmod 16)=10
 ·simp only[Z8,seval,bf p,bf c1,bf c2,bf c3,bf J,bf X,bf u,bf c7,bf c8,bf c9,bt fj,k47];exact⟨_,iI rfl Wl qk l.flat,_,rfl,l,fun h=>absurd (show (3:Int)=2 from h) ZB⟩
 by_cases db:((k).tmod 16)=11
 ·simp only[Z8,seval,bf p,bf c1,bf c2,bf c3,bf J,bf X,bf u,bf c7,bf c8,bf c9,bf fj,bt db,h.sd.fL,k48];exact⟨_,iI rfl Wl qk y4.flat,_,rfl,y4,fun h=>absurd (show (4:Int)=2 from h) ZB⟩
 by_cases ri:((k).tmod 16)=12
 ·simp only[Z8,seval,bf p,bf c1,bf c2,bf c3,bf J,bf X,bf u,bf c7,bf c8,bf c9,bf fj,bf db,bt ri,k49];exact⟨_,iI rfl Wl qk y5.flat,_,rfl,y5,fun h=>absurd (show (5:Int)=2 from h) ZB⟩
 simp only[Z8,seval,bf p,bf c1,bf c2,bf c3,bf J,bf X,bf u,bf c7,bf c8,bf c9,bf fj,bf db,bf ri,k50];exact⟨_,iI rfl Wl qk y6.flat,_,rfl,y6,fun h=>absurd (show (6:Int)=2 from h) ZB⟩
def aVr {A:AV} (fA:Flat A) (uA:[A].any tF=false) {f:Int->Int} (cA:∀i:Int,0<=i->i<1000000->aA prog 59 [A,aa i]=some (aa (f i))/\0<=f i/\f i<=17777215):∃x,aA prog 34 [A]=some x/\∃(c:Config) (b:List Int),x=aq c/\sZ c b:=by
 have M:=fun i i0 i1=>kx (cA i i0 i1).1 (aU fA (.v _)) (.v _)
 have k0:=M 0 WF WF
 obtain⟨a0,b0⟩:=fU (n:=8) (cA 0 WF WF).2.1 WF
 obtain⟨x0,h0⟩:∃x,(f 0).tmod 8=x:=⟨_,rfl⟩
 rw[h0] at a0 b0;have k1:=M 1 WF WF
 obtain⟨a1,b1⟩:=fU (n:=4) (cA 1 WF WF).2.1 WF
 obtain⟨x1,J⟩:∃x,(f 1).tmod 4=x:=⟨_,rfl⟩
 rw[J] at a1 b1;have k2:=M 2 WF WF
 obtain⟨a2,b2⟩:=fU (n:=4) (cA 2 WF WF).2.1 WF
 obtain⟨x2,h2⟩:∃x,(f 2).tmod 4=x:=⟨_,rfl⟩
 rw[h2] at a2 b2;have k3:=M 3 WF WF
 obtain⟨a3,b3⟩:=fU (n:=4) (cA 3 WF WF).2.1 WF
 obtain⟨x3,S⟩:∃x,(f 3).tmod 4=x:=⟨_,rfl⟩
 rw[S] at a3 b3;have k4:=M 4 WF WF
 obtain⟨a4,b4⟩:=fU (n:=4) (cA 4 WF WF).2.1 WF
 obtain⟨x4,h4⟩:∃x,(f 4).tmod 4=x:=⟨_,rfl⟩
 rw[h4] at a4 b4;have k5:=M 5 WF WF
 obtain⟨a5,b5⟩:=fU (n:=5) (cA 5 WF WF).2.1 WF
 obtain⟨x5,C⟩:∃x,(f 5).tmod 5=x:=⟨_,rfl⟩
 rw[C] at a5 b5;have k6:=M 6 WF WF
 obtain⟨a6,b6⟩:=fU (n:=4) (cA 6 WF WF).2.1 WF
 obtain⟨x6,r⟩:∃x,(f 6).tmod 4=x:=⟨_,rfl⟩
 rw[r] at a6 b6;have k7:=M 7 WF WF
 obtain⟨a7,b7⟩:=fU (n:=3) (cA 7 WF WF).2.1 WF
 obtain⟨x7,h7⟩:∃x,(f 7).tmod 3=x:=⟨_,rfl⟩
 rw[h7] at a7 b7;have k8:=M 8 WF WF
 obtain⟨a8,b8⟩:=fU (n:=2) (cA 8 WF WF).2.1 WF
 obtain⟨x8,h8⟩:∃x,(f 8).tmod 2=x:=⟨_,rfl⟩
 rw[h8] at a8 b8;have k9:=M 9 WF WF
 obtain⟨a9,b9⟩:=fU (n:=5) (cA 9 WF WF).2.1 WF
 obtain⟨x9,h9⟩:∃x,(f 9).tmod 5=x:=⟨_,rfl⟩
 rw[h9] at a9 b9;have w0:i64.wrap (6+x0)=6+x0:=Dz _ WF WF
 have w3:i64.wrap (1+x3)=1+x3:=Dz _ WF WF
 have w5:i64.wrap (1+x5)=1+x5:=Dz _ WF WF
 have w5':u64.wrap (1+x5)=1+x5:=wrap_u64 _ WF WF
 have w6:i64.wrap (1+x6)=1+x6:=Dz _ WF WF
 have w6':u64.wrap (1+x6)=1+x6:=wrap_u64 _ WF WF
 have w9:i64.wrap (2+x9)=2+x9:=Dz _ WF WF
 have g7:=qH (l:=[0,40,100]) a7 WF
 obtain⟨bp,hbp⟩:∃y,it [0,40,100] x7=y:=⟨_,rfl⟩
 have hbp1:0<=bp/\bp<=100:=by
  rcases (by omega:x7=0\/x7=1\/x7=2) with e|e|e<;>(rw[e] at hbp;rw[<- hbp];decide)
 have w7:u64.wrap bp=bp:=wrap_u64 _ WF WF
 rw[cL func34 rfl a2y uA];simp only[Z8,seval,mF,mG,k0,k1,k2,k3,k4,k5,k6,k7,k8,h0,J,h2,S,h4,C,r,h7,h8,w0,w3,w5,w5',w6,w6',a7,b7,g7,hbp,w7,Br,Nat.reduceLT,lK];have n9:(2+x9).toNat<=6:=WF
 refine bP (fun m st=>∃(j:Nat) (lim:tI) (sp bq:Int) (tt:oG) (X:AV) (b:List Int),(st.env 0=A/\st.env 2=.ptr 2 0 0/\st.heap 2 0=some (.cells (bX sG))/\st.env 3=.ptr 3 0 0/\st.heap 3 0=some (.cells (bX ⟨lim,sp,bq,tt,mkRoot 1,X⟩))/\st.env 4=aa j)/\(lim=⟨6+x0,x1,x2,1+x3,x4,1+x5⟩/\sp=1+x6/\bq=bp)/\((X=af/\b=[])\/∃g,X=.own 64 g/\g<st.aJ 64/\st.heap 64 g=some (.row 23 1 b.length (bD b)))/\(∀y∈b,0<=y/\y<=1000)/\b.length=j/\j<=(2+x9).toNat/\m=(2+x9).toNat-j)
  (fun e st=>e=.exit 0/\∃(lim:tI) (sp bq:Int) (tt:oG) (g:Nat) (b:List Int),(st.env 2=.ptr 2 0 0/\st.heap 2 0=some (.cells (bX sG))/\st.env 3=.ptr 3 0 0/\st.heap 3 0=some (.cells (bX ⟨lim,sp,bq,tt,mkRoot 1,.own 64 g⟩))/\st.heap 64 g=some (.row 23 1 b.length (bD b)))/\(lim=⟨6+x0,x1,x2,1+x3,x4,1+x5⟩/\sp=1+x6/\bq=bp)/\(∀y∈b,0<=y/\y<=1000)/\1<=b.length/\b.length<=6) (2+x9).toNat ?step ?start ?rest
 case step =>
  rintro m st ⟨j,lim,sp,bq,tt,X,b,D,W,G,hb,hj,hjn,hm⟩
  by_cases bB:(j:Int)<2+x9
  ·have q0:(0:Int)<=j:=WF
   have hw:=wk (k:=j) WF
   obtain⟨jj,hjj⟩:∃jj:Int,jj=10+(j:Int):=⟨_,rfl⟩
   have p:i64.wrap (10+(j:Int))=jj:=by rw[Dz _ WF WF,hjj]
   have kj:=M jj WF WF
   obtain⟨aj,bj⟩:=fU (n:=40) (cA jj WF WF).2.1 WF
   obtain⟨y,Y⟩:∃y,(f jj).tmod 40=y:=⟨_,rfl⟩
   rw[Y] at aj bj;have wy:u64.wrap y=y:=wrap_u64 _ WF WF
   have nL:bg b.length:=WF
   have hL1:∀z∈b++[y],0<=z/\z<=1000:=fun z R=>(mem_append.1 R).elim (hb z) fun e=>by rw[mem_singleton] at e;rw[e];omega
   have KY:(b++[y]).length=j+1:=vq
   rcases G with ⟨rfl,rfl⟩|⟨g,rfl,hg,u⟩
   ·apply oN ((2+x9).toNat-(j+1))
    ·simp only[Z8,seval,D,k9,h9,w9,bB,p,kj,Y,wy,hw];rfl
    ·exact⟨j+1,_,_,_,_,_,[]++[y],⟨XC,XC,XC,XC,qc,qb⟩,W,.inr ⟨_,rfl,Yo,Wl⟩,hL1,KY,WF,rfl⟩
   ·have N:(g=st.aJ 64)=False:=eq_false WF
    apply oN ((2+x9).toNat-(j+1))
    ·simp only[Z8,seval,D,u,N,k9,h9,w9,bB,p,kj,Y,wy,hw,Hf _ _ _ _ nL];rfl
    ·exact⟨j+1,_,_,_,_,_,b++[y],⟨XC,XC,XC,XC,qc,qb⟩,W,.inr ⟨_,rfl,Yo,Wl⟩,hL1,KY,WF,rfl⟩
  ·rcases G with ⟨rfl,rfl⟩|⟨g,rfl,hg,u⟩
   ·simp at hj;omega
   ·apply oT (.exit 0)
    ·simp only[Z8,seval,D,k9,h9,w9,bB];rfl
    ·exact⟨rfl,_,_,_,_,g,b,⟨XC,XC,XC,qc,np⟩,W,hb,WF,WF⟩
 case start=>exact⟨0,_,_,_,_,_,[],qz,⟨rfl,rfl,rfl⟩,.inl ⟨rfl,rfl⟩,qe,rfl,WF,WF⟩
 case rest =>
  rintro e st ⟨rfl,lim,sp,bq,tt,g,b,D,⟨rfl,rfl,rfl⟩,hb,KY,hl2⟩
  simp only[Z8,seval,D];exact⟨_,by apply jE;rfl;all_goals simp only[aI,Z8,seval,D,dC,FC,eG,zA,sB]<;>rfl,⟨⟨6+x0,x1,x2,1+x3,x4,1+x5⟩,1+x6,bq,tt,mkRoot 1,ov bD (some b)⟩,b,rfl,⟨rfl,WF,hb,ws,ws,ws,ws,ws,ws,ws,ws,rfl,ws⟩⟩
def x34 (l:List Int) (W:(l.length:Int)<=9223372036854775807):∃x,aA prog 34 [.sl l.length (aH l)]=some x/\∃(c:Config) (b:List Int),x=aq c/\sZ c b:=aVr (Pp l) rfl (rk l W)
def a2z (i:Int) (i0:0<=i) (i1:i<1000000):∃k:Int,aA prog 59 [af,aa i]=some (aa k)/\0<=k/\k<=17777215:=by
 rw[cL func59 rfl aVs rfl];simp only[Z8,seval];obtain⟨b1,b2⟩:=Mr i 65535 ZB
 exact⟨_,bE rfl Wl (.v _),b1,WF⟩
def a2A:∃x,aA prog 34 [af]=some x/\∃(c:Config) (b:List Int),x=aq c/\sZ c b :=
 aVr (f:=fun i=>if h:0<=i/\i<1000000 then Classical.choose (a2z i h.1 h.2) else 0) (.v _) rfl fun i h0 J=>by
  rw[dif_pos ⟨h0,J⟩];grind
structure SB (a r:List Node):Prop where
 KO:r.map (·.block)=a.map (·.block)
 up:r.map (·.up)=a.map (·.up)
theorem SB.refl (a:List Node):SB a a:=⟨rfl,rfl⟩
def SB.trans {a b c:List Node} (h:SB a b) (g:SB b c):SB a c:=⟨g.KO.trans h.KO,g.up.trans h.up⟩
theorem SB.len (h:SB a r):r.length=a.length:=by have:=congrArg List.length h.KO;simpa using this
theorem SB.block {a r:List Node} (h:SB a r) {j:Int} (J:j.toNat<a.length):(nd r j).block=(nd a j).block:=by
 have h2:j.toNat<r.length:=by rw[h.len];exact J
 have:=congrArg (fun l:List Block=>l[j.toNat]?) h.KO
 simpa [nd,J,h2] using this
theorem SB.L2 (h:SB a r) (J:j.toNat<a.length):(nd r j).up=(nd a j).up:=by
 have h2:j.toNat<r.length:=by rw[h.len];exact J
 have:=congrArg (fun l:List Int=>l[j.toNat]?) h.up
 simpa [nd,J,h2] using this
def OZ (l:List Node) (x:bU):aD l x=match (l.map (·.block)).findIdx? (fun b=>decide (b.root=x)) with
 | some k=>(k:Int)
 | none=>-1:=by
 unfold aD;rw[findIdx?_map];rfl
theorem SB.aD {a r:List Node} (h:SB a r) (x:bU):aD r x=aD a x:=by rw[OZ,OZ,h.KO]
def aF2 (ns:List Node) (i to:Int):SB ns (setAt ns i to):=by
 have key:∀ {β:Type} (f:Node->β),(∀n s,f (FD n s)=f n)->(setAt ns i to).map f=ns.map f:=by
  intro β f hf;unfold setAt;rw[map_set];apply ext_getElem qe
  grind [nd]
 exact⟨key _ fun _ _=>rfl,key _ fun _ _=>rfl⟩
def T3 {to never:Int}:∀(l:List Int) (ns r:List Node),Vu to never l ns=some r->SB ns r
 | [],ns,r,h=>by grind [Vu,SB.refl]
 | i :: l,ns,r,h=>by
   simp only[Vu] at h;split at h
   ·cases h
   ·exact (aF2 ns i to).trans (T3 l _ _ h)
def ju (ns:List Node) (x:AV):Prop:=(∃e:Int,e≠0/\x=.cY [.agg [af],aa e])\/∃r,SB ns r/\x=.cY [ak ⟨r⟩,aa 0]
theorem ju.err (ns:List Node) (h:e≠0):ju ns (Vw e):=.inl ⟨e,h,rfl⟩
def ju.of {b:List Node} (h:SB a b) {x:AV} (g:ju b x):ju a x:=g.imp id fun ⟨r,J,h2⟩=>⟨r,h.trans J,h2⟩
theorem GI.tree {s:aF} {v:SV} {q:Int} (h:GI s v q) {r:List Node} (hs:SB v.ns r):GI { s with tree:=⟨.sl r.length (bS r)⟩} { v with ns:=r } q:=by
 have W:=hs.len
 have hp:=h.pos
 refine⟨⟨h.sd.fL,h.sd.cJ,h.sd.dM,h.sd.early,h.sd.bL,rfl,h.sd.tables,h.sd.eV,h.sd.tB,h.sd.nB,h.sd.nL,h.sd.nQ,h.sd.nE,h.sd.nO,h.sd.nT,by rw[W];exact h.sd.nn⟩,fun i i0 i1=>?_, ?_,qg,by rw[W];exact h.nl,h.RE,h.iH,h.Wg,h.nB,h.nO,h.AH,h.nE,h.KU,h.nT,h.KV,h.nQ,h.N8, ?_⟩
 ·have i1:i<(r.length:Int):=i1
  show 0<=(nd r i).up/\(nd r i).up<i
  rw[hs.L2 WF];exact h.up i i0 WF
 ·grind [SB.L2,Nv]
 ·show 0<=aD r s.aL.dX.root
  rw[hs.aD];exact h.dX
structure JP (l:List Int) (a r:List Node):Prop where
 sb:SB a r
 Er:Ay r
 AI:XH r
 Yv:∀n∈r,n.block.eQ=bQ->n.status=1
 oM:∀k∈l,0<=k->k<a.length->(nd a k).status≠2->(nd r k).status≠2
 old:∀k:Int,0<=k->k<a.length->(nd a k).status≠0->(nd r k).status=(nd a k).status
theorem aF4 {x:Int} (h:Hc x=true):x=0\/x=1\/x=2:=by simp[Hc] at h;omega
def fk (l:List Int) (ns:List Node) (x:AV):Prop:=(∃e:Int,e≠0/\x=.cY [.agg [af],aa e])\/∃r,JP l ns r/\x=.cY [ak ⟨r⟩,aa 0]
theorem fk.err (l:List Int) (ns:List Node) (h:e≠0):fk l ns (Vw e):=.inl ⟨e,h,rfl⟩
theorem ZN (v:Ay ns) (c:XH ns) (p:∀n∈ns,n.block.eQ=bQ->n.status=1) (h:LN ns i=some r):JP l ns r:=by
 have R:=Vx v.up h
 refine⟨T3 _ _ _ h,R.c.Er v rfl,R.AI v c,fun n M hp=>?_,fun k _ G k1 hk=>?_,fun k G k1 hk=>?_⟩
 ·obtain⟨j,Y,rfl⟩:=YL M
  have J:j<(ns.length:Int):=by have:=R.c.len;omega
  rw[R.c.st Y.1 J];split
  ·rfl
  ·exact p _ (zB Y.1 J) (by rw[<- R.c.block Y.1 J];exact hp)
 ·rw[R.c.st G k1];omega
 ·rw[R.c.st G k1];grind [SG.ok,aF4,Ay.st]
def FE (v:Ay ns) (c:XH ns) (p:∀n∈ns,n.block.eQ=bQ->n.status=1) (hk:¬Rz ns i l) (h:fm ns i=some r):JP l ns r:=by
 have R:=SH h
 refine⟨T3 _ _ _ h,R.c.Er v rfl,R.AI v c,fun n M hp=>?_,fun k W G k1 hs=>?_,fun k G k1 hk=>?_⟩
 ·obtain⟨j,Y,rfl⟩:=YL M
  have J:j<(ns.length:Int):=by have:=R.c.len;omega
  have e:=p _ (zB Y.1 J) (by rw[<- R.c.block Y.1 J];exact hp)
  rw[R.c.st Y.1 J];grind [Fw.ok]
 ·rw[R.c.st G k1];split
  ·rename_i hm;exact absurd ⟨k,W,((CG ns i k _).1 hm).2⟩ hk
  ·exact hs
 ·rw[R.c.st G k1];grind [Fw.ok,aF4,Ay.st]
def JP.trans {l:List Int} {a b c:List Node} (h:JP l a b) (g:JP l b c):JP l a c:=⟨h.sb.trans g.sb,g.Er,g.AI,g.Yv,fun k W G k1 hs=>g.oM k W G (by have:=h.sb.len;omega) (h.oM k W G k1 hs),fun k G k1 R=>(g.old k G (by have:=h.sb.len;omega) (by grind [old])).trans (h.old k G k1 R)⟩
theorem aF5 {o:Option (List Node)} (h:∀r,o=some r->JP l ns r):fk l ns (j4 o):=by
 unfold j4;split
 ·exact .err _ _ ZB
 ·exact .inr ⟨_,h _ rfl,rfl⟩
def aF6 (v:Ay ns) (c:XH ns) (p:∀n∈ns,n.block.eQ=bQ->n.status=1) (i:Int) (w:fM) (l:List Int):fk l ns (DJ ns i w l):=by
 have co:∀ {b:List Node},(b=ns\/JP l ns b)->∀j,¬Rz ns j l->fk l ns (P3 b j):=by
  intro b hb j R;unfold P3;split
  ·refine aF5 fun r X=>?_
   rcases hb with rfl|hb
   ·exact FE v c p R X
   ·have su:Ef ns b:=⟨hb.sb.len.symm,fun x x0 x1=>(hb.sb.L2 WF).symm⟩
    refine hb.trans (FE hb.Er hb.AI hb.Yv (fun ⟨k,J,h2⟩=>R ⟨k,J, ?_⟩) X)
    rw[su.a2B v.up];exact h2
  ·exact .err _ _ ZB
 unfold DJ;split
 ·exact .err _ _ ZB
 split
 ·grind [P4,aF5,ZN]
 split
 ·grind [DI,fk.err,ZN]
 split
 ·exact .inr ⟨ns,⟨SB.refl ns,v,c,p,fun _ _ _ _ h=>h,fun _ _ _ _=>rfl⟩,rfl⟩
 ·exact .err _ _ ZB
theorem VS.tree {s:aF} {v:SV} {q:Int} (g:GI s v q) (h:VS s v) {l:List Int} {r:List Node} (j:JP l v.ns r) (W:aD v.ns s.aL.dX.root∈l) (x:Fc):VS { s with tree:=x } { v with ns:=r }:=by
 have b0:∀n∈r,∃a∈v.ns,n.block=a.block:=fun n M=>by
  have:n.block∈r.map (·.block):=mem_map.2 ⟨n,M,rfl⟩
  rw[j.sb.KO] at this;grind
 have hp:=g.pos
 refine⟨j.Er,j.AI,j.Yv, ?_, ?_, ?_,h.vo,h.eq, ?_,fun n M=>?_,h.ea,fun o p=>?_,h.on⟩
 ·show (nd r (aD r s.aL.dX.root)).status≠2
  rw[j.sb.aD];exact j.oM _ W g.dX (cB _ _).2 h.js
 ·grind [SB.block,JP.sb,r0]
 ·have:=h.e0
  unfold Pq at this ⊢
  show _\/(nd r 0).block.slot<=_
  rw[j.sb.block WF];exact this
 ·show s.dY=bQ\/0<=aD r s.dY
  rw[j.sb.aD];exact h.bo
 ·obtain⟨a,Y,e⟩:=b0 n M
  rw[e];exact h.od a Y
 ·show aD r o.root<0/\_
  rw[j.sb.aD];exact h.oi o p
theorem RG0.tree {s:aF} {v:SV} {q:Int} (g:GI s v q) (h:RG0 s v) {l:List Int} {r:List Node} (Y:JP l v.ns r) (W:aD v.ns s.aL.dX.root∈l) (x:Fc):RG0 { s with tree:=x } { v with ns:=r } :=
 ⟨h.now,h.j,h.f,fun n M=>by
  have:n.block∈r.map (·.block):=mem_map.2 ⟨n,M,rfl⟩
  rw[Y.sb.KO] at this;obtain⟨a,ha,e⟩:=mem_map.1 this
  rw[<- e];exact h.nd a ha,h.or,fun n M=>by
  have:n.block∈r.map (·.block):=mem_map.2 ⟨n,M,rfl⟩
  rw[Y.sb.KO] at this;grind [rt],h.fe,by
  have e:=congrArg (List.map fun b:Block=>b.root) Y.sb.KO
  rw[map_map,map_map] at e;show (r.map ((fun b:Block=>b.root) ∘ fun n=>n.block)).Nodup
  rw[e];exact h.ds,h.tb,⟨h.ne.q,h.ne.e,h.ne.t,h.ne.ea,h.ne.tb⟩,h.vs.tree g Y W x⟩
theorem RG.tree {s:aF} {v:SV} {q:Int} (g:GI s v q) (h:RG s v) {l:List Int} {r:List Node} (Y:JP l v.ns r) (W:aD v.ns s.aL.dX.root∈l) (x:Fc):RG { s with tree:=x } { v with ns:=r } :=
 ⟨h.toRG0.tree g Y W x,fun o p=>by
  show aD r o.parent<0
  rw[Y.sb.aD];exact h.op o p⟩
structure TQ (Q:List Request) (tag:Int):Prop where
 pos:1<=tag
 all:∀r∈Q,1<=r.tagged.tag/\r.tagged.tag<tag/\r.due=0
 fp:Q.Pairwise fun a b=>a.tagged.tag<b.tagged.tag
structure TR (R:List Request) (tag:Int):Prop where
 all:∀r∈R,r.tagged.tag<tag
 fp:R.Pairwise fun a b=>¬Bt b a
def T4 (ns:List Node) (l:List Request):Prop:=∀r∈l,0<=aD ns r.block
theorem TQ.sub {Q:List Request} (h:TQ Q tag) (s:P.Sublist Q):TQ P tag:=⟨h.pos,fun r X=>h.all r (s.subset X),h.fp.sublist s⟩
theorem TR.sub {Q:List Request} (h:TR Q tag) (s:P.Sublist Q):TR P tag:=⟨fun r X=>h.all r (s.subset X),h.fp.sublist s⟩
theorem TR.mono {Q:List Request} {t D:Int} (h:TR Q t) (l:t<=D):TR Q D:=⟨fun r X=>by have:=h.all r X;omega,h.fp⟩
theorem T4.sub {Q:List Request} (h:T4 ns Q) (s:P.Sublist Q):T4 ns P:=fun r X=>h r (s.subset X)
theorem TQ.app {Q:List Request} (h:TQ Q tag) (b:bU) (n:Int):TQ (Q++[⟨⟨tag⟩,b,n,0⟩]) (tag+1):=by
 refine⟨iz,fun r X=>?_,pairwise_append.2 ⟨h.fp,pairwise_singleton ..,fun a Y b hb=>?_⟩⟩
 ·rcases mem_append.1 X with X|X
  ·obtain⟨h1,h2,h3⟩:=h.all r X;omega
  ·rw[mem_singleton] at X;subst X;exact⟨h.pos,qg,rfl⟩
 ·rw[mem_singleton] at hb;subst hb;exact (h.all a Y).2.1
theorem T4.app {Q:List Request} (h:T4 ns Q) (hx:0<=aD ns x.block):T4 ns (Q++[x]):=fun r X=>by
 rcases mem_append.1 X with X|X
 ·exact h r X
 grind
def aVt {x:Int} (h1:1<=x) (h2:x<=1000000):u64.wrap (x+1)=x+1:=wrap_u64 _ WF WF
def Ta (ns:List Node) (now:Int):∀(l:List Request) (a:(Option (List Request) × Int) × List Request),TQ (ol a.1.1) a.1.2->T4 ns (ol a.1.1)->a.1.2+l.length<=1000000 ->
 TQ (ol (Hn ns now a l).1.1) (Hn ns now a l).1.2/\T4 ns (ol (Hn ns now a l).1.1)/\a.1.2<=(Hn ns now a l).1.2/\(Hn ns now a l).1.2<=a.1.2+l.length/\(Hn ns now a l).2=a.2++l.filter fun r=>decide (now<r.due)
 | [],a,h,hi,hb=>⟨h,hi,by show a.1.2<=a.1.2;omega,by show a.1.2<=a.1.2+((0:Nat):Int);omega,(append_nil _).symm⟩
 | r :: l,a,h,hi,hb=>by
   have hp:=h.pos
   rw[length_cons] at hb;have hw:=aVt hp WF
   have e0:Hn ns now a (r :: l)=Hn ns now (LA ns now a r) l:=rfl
   rw[e0,length_cons];by_cases g1:now<r.due
   ·have A:LA ns now a r=(a.1,a.2++[r]):=if_pos g1
    rw[A];obtain⟨J,h2,S,X,C⟩:=Ta ns now l (a.1,a.2++[r]) h hi ws
    grind
   ·rw[filter_cons,if_neg (by simpa using g1)]
    by_cases g2:wG ns r.block
    ·have A:LA ns now a r=((some (ol a.1.1++[⟨⟨a.1.2⟩,r.block,r.tries,0⟩]),u64.wrap (a.1.2+1)),a.2):=(if_neg g1).trans (if_pos g2)
     rw[A,hw];obtain⟨J,h2,S,X,C⟩:=Ta ns now l ((some (ol a.1.1++[(⟨⟨a.1.2⟩,r.block,r.tries,0⟩:Request)]),a.1.2+1),a.2) (h.app _ _) (hi.app g2.1) ws
     grind
    ·have A:LA ns now a r=a:=(if_neg g1).trans (if_neg g2)
     rw[A];obtain⟨J,h2,S,X,C⟩:=Ta ns now l a h hi WF
     grind
def SI (ns:List Node):∀(l:List bU) (a:Option (List Request) × Int),TQ (ol a.1) a.2->T4 ns (ol a.1)->a.2+l.length<=1000000 ->
 TQ (ol (CB ns a l).1) (CB ns a l).2/\T4 ns (ol (CB ns a l).1)/\a.2<=(CB ns a l).2/\(CB ns a l).2<=a.2+l.length
 | [],a,h,hi,hb=>⟨h,hi,by show a.2<=a.2;omega,by show a.2<=a.2+((0:Nat):Int);omega⟩
 | r :: l,a,h,hi,hb=>by
   have hp:=h.pos
   rw[length_cons] at hb;have hw:=aVt hp WF
   have e0:CB ns a (r :: l)=CB ns (L0 ns a r) l:=rfl
   rw[e0,length_cons];by_cases g2:wG ns r
   ·have A:L0 ns a r=(some (ol a.1++[⟨⟨a.2⟩,r,0,0⟩]),u64.wrap (a.2+1)):=if_pos g2
    rw[A,hw];obtain⟨J,h2,S,X⟩:=SI ns l (some (ol a.1++[(⟨⟨a.2⟩,r,0,0⟩:Request)]),a.2+1) (h.app _ _) (hi.app g2.1) ws
    grind
   ·have A:L0 ns a r=a:=if_neg g2
    rw[A];obtain⟨J,h2,S,X⟩:=SI ns l a h hi WF
    grind
def SJ:List Request->Request->List Request->List Request
 | [],x,B=>x :: B
 | y :: A,x,B=>if Bt x y then SJ A x (y :: B) else (y :: A).reverse++x :: B
theorem PA:∀(A:List Request) (x:Request) (B:List Request),Jd A.length (A.reverse++x :: B)=SJ A x B
 | [],x,B=>rfl
 | y :: A,x,B=>by
   have e1:gx cS ((y :: A).reverse++x :: B) ((A.length+1:Nat):Int)=x:=by
    simp_all [gx]
   have M:gx cS ((y :: A).reverse++x :: B) (A.length:Int)=y:=by
    simp_all [gx]
   have C:(((y :: A).reverse++x :: B).set (A.length+1) y).set A.length x=A.reverse++x :: y :: B:=by
    grind
   rw[length_cons];have e0:∀l,Jd (A.length+1) l=if Bt (gx cS l ((A.length+1:Nat):Int)) (gx cS l (A.length:Int)) then Jd A.length ((l.set (A.length+1) (gx cS l (A.length:Int))).set A.length (gx cS l ((A.length+1:Nat):Int))) else l:=fun l=>rfl
   rw[e0,e1,M,C];unfold SJ;split
   ·exact PA A x (y :: B)
   ·rfl
theorem FF {r:Request}:∀(A:List Request) (x:Request) (B:List Request),r∈SJ A x B↔r∈A\/r=x\/r∈B
 | [],x,B=>by simp[SJ]
 | y :: A,x,B=>by
   unfold SJ;split
   ·rw[FF A x (y :: B)];grind
   grind
def Za {a b:Request} (h:Bt a b):¬Bt b a:=by unfold Bt at *;omega
theorem aF7 {a b c:Request} (h1:¬Bt b a) (h2:¬Bt c b):¬Bt c a:=by unfold Bt at *;omega
theorem ZO:∀(A:List Request) (x:Request) (B:List Request),(A.reverse++B).Pairwise (fun a b=>¬Bt b a)->(∀b∈B,Bt x b)->(SJ A x B).Pairwise fun a b=>¬Bt b a
 | [],x,B,h,hb=>pairwise_cons.2 ⟨fun b m=>Za (hb b m),h⟩
 | y :: A,x,B,h,hb=>by
   unfold SJ;have h0:=h
   rw[reverse_cons,append_assoc] at h;split
   ·rename_i g;exact ZO A x (y :: B) h fun b m=>(mem_cons.1 m).elim (fun e=>by rw[e];exact g) (hb b)
   ·rename_i g;obtain⟨X,J,p3⟩:=pairwise_append.1 h0
    refine pairwise_append.2 ⟨X,pairwise_cons.2 ⟨fun b m=>Za (hb b m),J⟩,fun a ha b m=>?_⟩
    grind [aF7]
theorem aF8 (R:List Request) (x:Request):Jd R.length (R++[x])=SJ R.reverse x []:=by
 grind [PA,length_reverse]
def TR.bub {R:List Request} (h:TR R tag) (hx:x.tagged.tag<tag):TR (Jd R.length (R++[x])) tag:=by
 grind [aF8,mk,ZO,fp,FF,all]
def T4.bub {R:List Request} (h:T4 ns R) (N:0<=aD ns x.block):T4 ns (Jd R.length (R++[x])):=by
 rw[aF8];intro r X;rcases (FF _ _ _).1 X with X|rfl|X
 ·exact h r (mem_reverse.1 X)
 ·exact N
 ·cases X
structure TI0 (t:State) (v:SV) (Q R:Option (List Request)) (q m:Int):Prop where
 td:TD t v Q R
 gi:GI t.store v q
 rg:RG t.store v
 cfg:∃b,sZ t.store.cFg b
 tq:TQ (ol Q) t.cI
 tr:TR (ol R) t.cI
 nt:t.cI<=1+m
 lq:((ol Q).length:Int)<=m
 lr:((ol R).length:Int)<=t.store.cFg.lim.oV
 mB:m<=100000
structure TI (t:State) (v:SV) (Q R:Option (List Request)) (q m:Int):Prop extends TI0 t v Q R q m where
 Ot:T4 v.ns (ol Q)
 Pt:T4 v.ns (ol R)
theorem TI0.mono {t:State} {v:SV} {Q R:Option (List Request)} {q m q' m':Int} (h:TI0 t v Q R q m) (J:q<=q') (h2:q'<=900000) (h3:m<=m') (X:m'<=100000):TI0 t v Q R q' m' :=
 ⟨h.td,h.gi.mono J h2,h.rg,h.cfg,h.tq,h.tr,by have:=h.nt;omega,by have:=h.lq;omega,h.lr,X⟩
theorem TI.mono {t:State} {v:SV} {Q R:Option (List Request)} {q m q' m':Int} (h:TI t v Q R q m) (J:q<=q') (h2:q'<=900000) (S:m<=m') (X:m'<=100000):TI t v Q R q' m':=⟨h.toTI0.mono J h2 S X,h.Ot,h.Pt⟩
theorem TI0.store {t:State} {v:SV} {Q R:Option (List Request)} {q m:Int} (h:TI0 t v Q R q m) {D:aF} {S:SV} {q':Int} (g:GI D S q') (r:RG D S) (c:D.cFg=t.store.cFg):TI0 { t with store:=D } S Q R q' m :=
 ⟨⟨g.sd,h.td.Nx,h.td.ret,h.td.nQ,h.td.nR⟩,g,r,by grind [cfg],h.tq,h.tr,h.nt,h.lq,by show _<=D.cFg.lim.oV;rw[c];exact h.lr,h.mB⟩
def TI.emit (h:TI t v Q R q m) (b:Bool) (c:Command):TI { t with zH:=b,last:=c } v Q R q m :=
 ⟨⟨⟨h.td.sd,h.td.Nx,h.td.ret,h.td.nQ,h.td.nR⟩,h.gi,h.rg,h.cfg,h.tq,h.tr,h.nt,h.lq,h.lr,h.mB⟩,h.Ot,h.Pt⟩
def TI.halt (h:TI t v Q R q m) (b:Bool):TI { t with halted:=b } v Q R q m :=
 ⟨⟨⟨h.td.sd,h.td.Nx,h.td.ret,h.td.nQ,h.td.nR⟩,h.gi,h.rg,h.cfg,h.tq,h.tr,h.nt,h.lq,h.lr,h.mB⟩,h.Ot,h.Pt⟩
def TI.over (h:TI t v Q R q m) (b:Bool):TI { t with overflow:=b } v Q R q m :=
 ⟨⟨⟨h.td.sd,h.td.Nx,h.td.ret,h.td.nQ,h.td.nR⟩,h.gi,h.rg,h.cfg,h.tq,h.tr,h.nt,h.lq,h.lr,h.mB⟩,h.Ot,h.Pt⟩
def TI0.rm (h:TI0 t v Q R q m):t.store.cFg.lim.oV<=256:=by obtain⟨b,hb⟩:=h.cfg;exact hb.oV.2
theorem TI0.fL {t:State} {v:SV} {Q R:Option (List Request)} {q m:Int} (h:TI0 t v Q R q m):0<(ol v.B).length/\(ol v.B).length<=64:=by
 obtain⟨b,hb⟩:=h.cfg
 have e:=h.gi.sd.fL.symm.trans hb.fL
 have n:=hb.nb
 cases hB:v.B with
 | none=>rw[hB] at e;cases e
 | some l =>
   rw[hB] at e;have e:AV.sl l.length (bD l)=AV.sl b.length (bD b):=e
   injection e with e1 e2
   show 0<l.length/\l.length<=64
   omega
theorem TI0.drop (h:TI0 t v Q R q m):TI (S5 t v Q R) v (nz (kX v.ns (ol Q))) (nz (kX v.ns (ol R))) q m:=by
 have s1:(kX v.ns (ol Q)).Sublist (ol Q):=filter_sublist
 have s2:(kX v.ns (ol R)).Sublist (ol R):=filter_sublist
 have l1:=s1.length_le
 have l2:=s2.length_le
 have a1:=h.lq
 have a2:=h.lr
 refine⟨⟨h.td.drp,h.gi,h.rg,h.cfg, ?_, ?_,h.nt, ?_, ?_,h.mB⟩, ?_, ?_⟩
 ·rw[mE];exact h.tq.sub s1
 ·rw[mE];exact h.tr.sub s2
 ·rw[mE];omega
 ·rw[mE];show _<=t.store.cFg.lim.oV;omega
 ·rw[mE];intro r X;exact of_decide_eq_true (mem_filter.1 X).2
 ·rw[mE];intro r X;exact of_decide_eq_true (mem_filter.1 X).2
def TI.due (h:TI t v Q R q m) (hm:m+256<=100000):TI (rh t v.ns Q R) v (RZ t v.ns Q R).1.1 (nz (RZ t v.ns Q R).2) q (m+256):=by
 have a1:=h.lq
 have a2:=h.lr
 have a3:=h.rm
 have a4:=h.nt
 obtain⟨J,h2,S,X,C⟩:=Ta v.ns t.store.now (ol R) ((Q,t.cI),[]) h.tq h.Ot ws
 have W:=ZK v.ns t.store.now (ol R) ((Q,t.cI),[])
 rw[nil_append] at C;have A:Hn v.ns t.store.now ((Q,t.cI),[]) (ol R)=RZ t v.ns Q R:=rfl
 rw[A] at J h2 S X C W;dsimp only at S X W
 have s2:(RZ t v.ns Q R).2.Sublist (ol R):=vq
 have l2:=s2.length_le
 have KY:=W.1
 have:=h.mB
 refine⟨⟨⟨h.td.sd,rfl,rfl,WF,by rw[mE];omega⟩,h.gi,h.rg,h.cfg,J, ?_, ?_,WF, ?_,hm⟩,h2, ?_⟩
 ·rw[mE];exact (h.tr.sub s2).mono S
 ·show (RZ t v.ns Q R).1.2<=_;omega
 ·rw[mE];show _<=t.store.cFg.lim.oV;omega
 ·rw[mE];exact h.Pt.sub s2
def TI.open (h:TI t v Q R q m) (L:List bU) (hL:(L.length:Int)<=100) (hm:m+256<=100000):TI (kQ t (CB v.ns (Q,t.cI) L)) v (CB v.ns (Q,t.cI) L).1 R q (m+256):=by
 have a1:=h.lq
 have a4:=h.nt
 obtain⟨J,h2,S,X⟩:=SI v.ns L (Q,t.cI) h.tq h.Ot ws
 have W:=aBn v.ns (Q,t.cI) L
 dsimp only at S X W
 refine⟨⟨h.td.kQ _ WF,h.gi,h.rg,h.cfg,J,h.tr.mono S, ?_,WF,h.lr,hm⟩,h2,h.Pt⟩
 show (CB v.ns (Q,t.cI) L).2<=_;omega
def TI.YO (h:TI t v Q R q m) {r:Request} (X:r.tagged.tag<t.cI):∃A,TI (fi t v.ns (ol R) r) v Q A q m:=by
 unfold fi;split
 ·exact⟨R,h⟩
 split
 ·exact⟨R,h.over true⟩
 ·rename_i g1 g2;have g1:=Classical.not_not.1 g1
  have hl:(Jd (ol R).length (ol R++[fh t r])).length=(ol R).length+1:=by grind [ZL]
  have a3:=h.rm
  refine⟨some (Jd (ol R).length (ol R++[fh t r])),⟨⟨h.td.sd,h.td.Nx,rfl,h.td.nQ, ?_⟩,h.gi,h.rg,h.cfg,h.tq,h.tr.bub (x:=fh t r) X,h.nt,h.lq, ?_,h.mB⟩,h.Ot,h.Pt.bub (x:=fh t r) g1.1⟩
  all_goals grind [ol]
def TI.less (h:TI t v Q R q m) (k:Nat):TI { t with fX:=ov aC (nz ((ol Q).take k++(ol Q).drop (k+1)))} v (nz ((ol Q).take k++(ol Q).drop (k+1))) R q m:=by
 have s:((ol Q).take k++(ol Q).drop (k+1)).Sublist (ol Q):=by rw[<- eraseIdx_eq_take_drop_succ];grind
 have l1:=s.length_le
 have a1:=h.lq
 have:=h.td.nQ
 exact⟨⟨⟨h.td.sd,rfl,h.td.ret,by rw[mE];omega,h.td.nR⟩,h.gi,h.rg,h.cfg,by rw[mE];exact h.tq.sub s,h.tr,h.nt,by rw[mE];omega,h.lr,h.mB⟩,by rw[mE];exact h.Ot.sub s,h.Pt⟩
theorem TI.tree {t:State} {v:SV} {Q R:Option (List Request)} {q m:Int} (h:TI t v Q R q m) {l:List Int} {r:List Node} (Y:JP l v.ns r) (W:aD v.ns t.store.aL.dX.root∈l) (b:bU) (hb:b=bQ\/0<=aD r b):TI { t with store:={ t.store with tree:=⟨.sl r.length (bS r)⟩,dY:=b }} { v with ns:=r } Q R q m:=by
 have hs:=Y.sb
 have g:=(h.gi.tree hs).dY b
 have e:=(h.rg.tree h.gi Y W ⟨.sl r.length (bS r)⟩).dY b hb
 exact⟨h.toTI0.store g e rfl,fun x N=>by show 0<=aD r x.block;rw[hs.aD];exact h.Ot x N,fun x N=>by show 0<=aD r x.block;rw[hs.aD];exact h.Pt x N⟩
def Je (Q:List Request) (tag:Int) (k:Nat):Prop:=(gx cS Q (k:Int)).tagged.tag=tag
def a2D (h:TD t v Q R) (w:fM):∃x,aA prog 266 [bd t,am w]=some x /\
 (((∀j:Nat,j<(ol Q).length->¬Je (ol Q) w.tagged.tag j)/\x=.cY [ay cS,bd iS,aa 23]) \/
  ∃k:Nat,k<(ol Q).length/\Je (ol Q) w.tagged.tag k/\(∀j:Nat,j<k->¬Je (ol Q) w.tagged.tag j)/\x=.cY [ay (gx cS (ol Q) (k:Int)),bd ({ t with fX:=ov aC (nz ((ol Q).take k++(ol Q).drop (k+1)))}),aa 0]):=by
 have p:=h.fl
 have nQ:=h.nQ
 have nQ1:bg (ol Q).length:=WF
 have J:Flat (bd iS):=uv
 rw[cG func266 rfl aVu WP rfl]
 simp only[ZG,seval,Tb];refine jV (fun m st=>∃k:Nat,(st.env 2=.ptr 2 0 0/\st.heap 2 0=some (.cells (aE t))/\st.env 3=.ptr 3 0 0/\st.heap 3 0=some (.cells (cK w))/\st.env 4=.ptr 4 0 0/\st.heap 4 0=some (.cells (cE cS))/\st.env 5=.ptr 5 0 0/\st.heap 5 0=some (.cells (aE iS))/\st.env 7=aa k)/\(∀j:Nat,j<k->¬Je (ol Q) w.tagged.tag j)/\k<=(ol Q).length/\m=(ol Q).length-k)
  (fun e st=>(e=.ret/\∃(k:Nat) (X:AV),(st.env 4=.ptr 4 0 0/\st.heap 4 0=some (.cells (cE (gx cS (ol Q) (k:Int))))/\st.env 5=.ptr 5 0 0/\st.heap 5 0=some (.cells (aE { t with fX:=X }))/\st.env 6=aa 0)/\((X=af/\(ol Q).take k++(ol Q).drop (k+1)=[])\/∃g,X=.own 42 g/\(ol Q).take k++(ol Q).drop (k+1)≠[]/\st.heap 42 g=some (.row 102 35 ((ol Q).take k++(ol Q).drop (k+1)).length (aC ((ol Q).take k++(ol Q).drop (k+1)))))/\k<(ol Q).length/\Je (ol Q) w.tagged.tag k/\(∀j:Nat,j<k->¬Je (ol Q) w.tagged.tag j)) \/
   (e=.exit 0/\(st.env 4=.ptr 4 0 0/\st.heap 4 0=some (.cells (cE cS))/\st.env 5=.ptr 5 0 0/\st.heap 5 0=some (.cells (aE iS)))/\∀j:Nat,j<(ol Q).length->¬Je (ol Q) w.tagged.tag j)) (ol Q).length ?step ?start ?rest
 case step =>
  rintro m st ⟨k,D,Y,hk,hm⟩
  by_cases A:(k:Int)<(ol Q).length
  case neg =>
   apply BW (.exit 0)
   ·simp only[ZG,seval,Tb,D,h.Nx,A];rfl
   ·exact .inr ⟨rfl,XC,fun j r=>Y j WF⟩
  have q0:(0:Int)<=k:=WF
  have N:(k:Int)<=((ol Q).length:Int):=WF
  have q3:(0:Int)<=((k+1:Nat):Int):=WF
  have W:((k+1:Nat):Int)<=((ol Q).length:Int):=WF
  have hw := (yY k).2
  have n1:bg (((ol Q).take k).length:Nat):=qg
  have n2:bg (((ol Q).drop (k+1)).length:Nat):=qg
  have e1:ol (Q.map (·.take k))=(ol Q).take k:=by cases Q<;>simp[ol]
  have M:ol (Q.map (·.drop (k+1)))=(ol Q).drop (k+1):=by cases Q<;>simp[ol]
  by_cases u:Je (ol Q) w.tagged.tag k
  ·have hh':(gx cS (ol Q) (k:Int)).tagged.tag=w.tagged.tag:=u
   obtain⟨LL,C⟩:∃LL,(ol Q).take k++(ol Q).drop (k+1)=LL:=⟨_,rfl⟩
   by_cases hz:LL=[]
   ·have hT:((ol Q).take k).length=0:=by grind [length_nil]
    have l:((ol Q).drop (k+1)).length=0:=qg
    apply BW (.ret)
    ·simp only[ZG,seval,Tb,D,h.Nx,A,q0,N,q3,W,hw,bt hh',Int.toNat_natCast,Hl,Hm,Ho,Option.isSome_some,cR,cQ,hT,l,e1,M];rfl
    ·exact .inl ⟨rfl,k,af,qc,.inl ⟨rfl,C.trans hz⟩,WF,u,Y⟩
   have hLn:(LL.length=0)=False:=eq_false fun h=>hz (length_eq_zero_iff.1 h)
   have n3:bg (LL.length:Nat):=qg
   by_cases S:k=0
   ·have hT:((ol Q).take k).length=0:=by rw[S];rfl
    have l:(ol Q).drop (k+1)=LL:=qg
    apply BW (.ret)
    ·simp only[ZG,seval,Tb,D,h.Nx,A,q0,N,q3,W,hw,bt hh',Int.toNat_natCast,Hl,Hm,Ho,Option.isSome_some,cR,cQ,hT,l,hLn,rX _ n3,e1,M];rfl
    ·exact .inl ⟨rfl,k,_,qc,.inr ⟨_,rfl,by rw[C];exact hz,by rw[C];simp only[E8,seval]<;>rfl⟩,WF,u,Y⟩
   ·have hT:(((ol Q).take k).length=0)=False:=eq_false qg
    apply BW (.ret)
    ·simp only[ZG,seval,Tb,D,h.Nx,A,q0,N,q3,W,hw,bt hh',Int.toNat_natCast,Hl,Hm,Ho,Option.isSome_some,cR,cQ,hT,rX _ n1,Zb _ _ _ _ n1 n2,e1,M];rfl
    ·exact .inl ⟨rfl,k,_,qc,.inr ⟨_,rfl,by rw[C];exact hz,Wl⟩,WF,u,Y⟩
  ·have hh':¬(gx cS (ol Q) (k:Int)).tagged.tag=w.tagged.tag:=u
   apply Ka ((ol Q).length-(k+1))
   ·simp only[ZG,seval,Tb,D,h.Nx,A,q0,hw,bf hh'];rfl
   ·exact⟨k+1,XC,fun j r=>(Nat.lt_succ_iff_lt_or_eq.1 r).elim (Y j) fun e=>vg,WF,rfl⟩
 case start=>exact⟨0,Wl,fun j Y=>WF,WF,WF⟩
 case rest =>
  rintro e st (⟨rfl,k,X,D,G,hk,u,Y⟩|⟨rfl,D,Y⟩)
  ·rcases G with ⟨rfl,hz⟩|⟨g,rfl,hz,hg⟩
   ·have hfz:Flat (bd ({ t with fX:=af})):=(qM _).2 ⟨p.1,p.2.1,p.2.2.1,p.2.2.2.1,p.2.2.2.2.1,p.2.2.2.2.2.1,p.2.2.2.2.2.2.1,.v _,p.2.2.2.2.2.2.2.2⟩
    simp only[ZG,seval,Tb,D];exact⟨_,fF rfl xt xt yp (cV (.agg _ (eD _))) (cV hfz) qk,.inr ⟨k,hk,u,Y,by rw[hz,show nz ([]:List Request)=none from if_pos rfl];rfl⟩⟩
   ·simp only[ZG,seval,Tb,D,hg];exact⟨_,fF rfl xt xt yp (cV (.agg _ (eD _))) (by simp only[Z8,seval,D,hg,dC,xE,fV,eG,qJ,bY,sB,p]<;>rfl) qk,.inr ⟨k,hk,u,Y,by rw[show nz ((ol Q).take k++(ol Q).drop (k+1))=some _ from if_neg hz];rfl⟩⟩
  ·simp only[ZG,seval,Tb,D];exact⟨_,by apply fF;rfl;all_goals simp only[aI,bC,Z8,seval,D,J]<;>rfl,.inl ⟨Y,rfl⟩⟩
def a2F (ns:List Node) (hu:eK ns) (X:(nd ns 0).up=-1) (M:bg ns.length) (i:Int) (w:fM) (l:List Int) (W:bg l.length) (st:St) (a g:Nat) (d:Option Nat) (u:st.heap a g=some (.row 3 1 l.length (aH l))) :
 eH (aA prog) 268 [ak ⟨ns⟩,aa i,am w,.own a g] st d=some { dst:=d,val:=DJ ns i w l,dE:=some (a,g,none)}:=by
 rw[Hi (s:=a) (k:=g) Qag (by intro y Y;simp only[mem_cons,not_mem_nil,or_false] at Y;rcases Y with rfl|rfl|rfl|rfl;exact .inl (gZ _);exact .inl (.v _);exact .inl (.agg _ (fJ w));exact .inr (.inl ⟨a,g,rfl⟩)),
  map_cons,map_cons,map_cons,map_cons,map_nil,cV (gZ _),cV (.v _),cV (.agg _ (fJ w)),Mo u,aM,aM,aM,aM,dB]
 exact YU (a0y ns hu X M i w l W (.inl rfl)) (OC ns i w l)
def a2G (h:TI t v Q R q m) (w:fM) :
 ∃x,aA prog 183 [bd t,am w]=some x/\∃(D:State) (e:Int) (S:SV) (Q' A:Option (List Request)),x=.cY [bd D,aa e]/\TI D S Q' A q m:=by
 have W:=h.td.flat
 have nY:=h.td.fl
 have fw:Flat (am w):=.agg _ (fJ w)
 have Rl:Flat (bd iS):=uv
 obtain⟨y,Y,⟨hj,rfl⟩|⟨k,hk,u,hj,rfl⟩⟩:=a2D h.td w
 ·have ZP:=kx Y (aU W fw) (.cY _ (jC (.agg _ (eD _)) Rl (.v _)))
  rw[cL func183 rfl aNp rfl];simp only[Z8,seval,ZP,bW];exact⟨_,Qbw,t,23,v,Q,R,rfl,h⟩
 obtain⟨r,er⟩:∃r,gx cS (ol Q) (k:Int)=r:=⟨_,rfl⟩
 obtain⟨t1,et⟩:∃t1,({ t with fX:=ov aC (nz ((ol Q).take k++(ol Q).drop (k+1)))}:State)=t1:=⟨_,rfl⟩
 have X:r.tagged.tag<t.cI:=by rw[<- er];exact (h.tq.all _ (lB WF WF)).2.1
 have J:=h.less k
 rw[et] at J;rw[er,et] at Y;have nt1:t1.cI=t.cI:=by rw[<- et]
 have p:=J.td.flat
 have ZQ:=J.td.fl
 have ZP:=kx Y (aU W fw) (.cY _ (jC (.agg _ (eD _)) p (.v _)))
 have M:=J.gi.sd.nn
 rw[cL func183 rfl aNp rfl];by_cases g3:w.kind=3
 ·obtain⟨A,G⟩:=J.YO (r:=r) (by rw[nt1];exact X)
  have N:=G.td.flat
  have aOT:=kx (aVo J.td r) (aU p (.agg _ (eD _))) N
  simp only[Z8,seval,ZP,bW,bt g3,aOT];exact⟨_,Qbx,_,0,v,_,A,rfl,G⟩
 by_cases g4:w.kind=4
 ·obtain⟨A,G⟩:=J.YO (r:=r) (by rw[nt1];exact X)
  have N:=G.td.flat
  have aOT:=kx (aVo J.td r) (aU p (.agg _ (eD _))) N
  simp only[Z8,seval,ZP,bW,bf g3,bt g4,aOT];exact⟨_,Qbx,_,0,v,_,A,rfl,G⟩
 have PB:∀(st:St) (a g:Nat) (d:Option Nat),st.heap a g=some (.row 3 1 2 (aH [aD v.ns t1.store.aL.dX.root,aD v.ns t1.store.aL.fin.root]))->_:=fun st a g d u=>a2F v.ns J.gi.up J.gi.Nv M (aD v.ns r.block) w [aD v.ns t1.store.aL.dX.root,aD v.ns t1.store.aL.fin.root] qg st a g d u
 rcases aF6 J.rg.vs.Er J.rg.vs.AI J.rg.vs.Yv (aD v.ns r.block) w [aD v.ns t1.store.aL.dX.root,aD v.ns t1.store.aL.fin.root] with ⟨e,he,ej⟩|⟨l,hs,ej⟩
 ·rw[ej] at PB
  have hH:=h.halt true
  have fH:=hH.td.flat
  simp only[Z8,seval,ZP,bW,bf g3,bf g4,rY,J.gi.sd.tree,qL _ _ M,PB,bf he];exact⟨_,by apply bT;rfl;all_goals simp only[aI,bC,Z8,seval,fH]<;>rfl,_,21,v,Q,R,rfl,hH⟩
 rw[ej] at PB
 have Rj:bg l.length:=by rw[hs.sb.len];exact M
 have fr:=cB l t1.store.dY
 by_cases b0:0<=aD l t1.store.dY
 case neg =>
  have T:=J.tree hs (mem_cons_self ..) t1.store.dY (by rw[hs.sb.aD];exact J.rg.vs.bo)
  have C:=T.td.flat
  simp only[Z8,seval,ZP,bW,bf g3,bf g4,rY,J.gi.sd.tree,qL _ _ M,qL _ _ Rj,PB,b0];exact⟨_,qv,_,0,_,_,R,rfl,T⟩
 by_cases b1:(nd l (aD l t1.store.dY)).status=2
 case neg =>
  have T:=J.tree hs (mem_cons_self ..) t1.store.dY WF
  have C:=T.td.flat
  simp only[Z8,seval,ZP,bW,bf g3,bf g4,rY,J.gi.sd.tree,qL _ _ M,qL _ _ Rj,PB,b0,fr.2,bf b1];exact⟨_,qv,_,0,_,_,R,rfl,T⟩
 have T:=J.tree hs (mem_cons_self ..) bQ (.inl rfl)
 have C:=T.td.flat
 simp only[Z8,seval,ZP,bW,bf g3,bf g4,rY,J.gi.sd.tree,qL _ _ M,qL _ _ Rj,PB,b0,fr.2,bt b1];exact⟨_,qv,_,0,_,_,R,rfl,T⟩
def a2H (s:aF) (v:SV) (q:Int) (r:AV):Prop:=∃(D:aF) (R:Option (List bU)) (e:Int),r=.cY [bc D,ov fN R,aa e]/\Flat (bc D)/\((ol R).length:Int)<=70/\e≠21/\(e=0->∃S,GI D S q/\RG D S/\D.cFg=s.cFg)
def aJ8 {b:Block} (hb:sW s v b=10):aD v.ns b.parent<0:=by
 grind [sW]
def a2I (h:GI s v q) (r:RG s v) (b:Block) (rb:RB b/\Pr b.root):∃r,aA prog 178 [bc s,ah b]=some r/\a2H s v q r:=by
 have hf:=h.sd.flat
 have nY:=h.sd.fl
 have hz:=sI
 have FG:=aTB h.sd h.up h.sp
 have nO:=h.nO
 have AH:=h.AH
 have nn':=h.sd.nO
 rw[cL func178 rfl aVw rfl];by_cases g1:sW s v b=10
 ·by_cases g2:s.cFg.lim.vA<=((ol v.O).length:Int)
  ·simp only[Z8,seval,FG,bt g1,h.sd.bL,g2];exact⟨_,Qbq,eU,none,11,rfl,hz,zc,ZB,fun h=>wu⟩
  ·have hw:=h.Sp (some (ol v.O++[{ b with oU:=false }])) yw
   have O3:=r.wait rb g1 (aJ8 g1) (ov aK (some (ol v.O++[{ b with oU:=false }])))
   simp only[Z8,seval,FG,bt g1,h.sd.bL,g2,Mu _ nn',Wn _ _ _ _ nn'];exact⟨_,by apply fF;rfl;all_goals simp only[aI,bC,Z8,seval,dC,fV,eG,Fi,bY,sB,nY]<;>rfl,_,none,0,rfl,hw.sd.flat,zc,ZB,fun _=>⟨_,hw,O3,rfl⟩⟩
 by_cases g2:sW s v b=0
 case neg =>
  simp only[Z8,seval,FG,bf g1,bf g2];exact⟨_,Qbq,eU,none,_,rfl,hz,zc,aFt _ _ _,fun h=>absurd h g2⟩
 have aBs:=aVa h g2
 have T5:=h.ins g2
 have aJ9:=r.toRG0.ins h rb g2
 have hcf:=Kc s v b
 have hO1:=Q4 s v b
 cases g3:b.oU
 · -- not timely
  have p:GI (tR s v b) (sH s v b) q:=T5
  have l:RG0 (tR s v b) (sH s v b):=aJ9
  have W:((tR s v b)).cFg=s.cFg:=hcf.1
  have Fu:=P9 p.sd
  simp only[Z8,seval,FG,bf g1,bt g2,aBs,g3,Fu];refine yP (a:=Dm) (S8 s v q) (RU WF (m:=(ol (sH s v b).O).length) ⟨(tR s v b),sH s v b,_,[b.root],66,0, ?start,.inl ⟨rfl,rfl⟩,.inl rfl,p,l,W,qs,rfl⟩) ?rest
  case start =>
   rw[wH p.sd];simp only[E8,seval,fN,flatMap_cons,flatMap_nil,append_nil]<;>rfl
  case rest =>
   rintro e st ⟨rfl,A,w,X,R,a,g,D,Y,G,p,l,W,N⟩
   have J:(a=4)=False:=eq_false Y
   have aOU:=p.sd.fl
   have hfo:=p.sd.bL
   rcases G with rfl|⟨g',L,C,rfl,S⟩
   ·rw[wH p.sd] at D;have M:=p.sd.flat
    simp only[Z8,seval,D];exact⟨_,yd,A,some R,0,rfl,M,yw,ZB,fun _=>⟨w,p,l,W⟩⟩
   ·have hex:=fun st' u=>yL (O:=L) (a:=91) (g:=g') p.sd st' u
    have ZQ:lI A (ov aK (some L))=A:=nh
    rw[ZQ] at hex;simp only[Z8,seval,D];exact⟨_,xu,A,some R,0,rfl,p.sd.flat,yw,ZB,fun _=>⟨w,p,l,W⟩⟩
 by_cases g4:b.slot=s.now
 case neg =>
  have p:GI (tR s v b) (sH s v b) q:=T5
  have l:RG0 (tR s v b) (sH s v b):=aJ9
  have W:((tR s v b)).cFg=s.cFg:=hcf.1
  have Fu:=P9 p.sd
  simp only[Z8,seval,FG,bf g1,bt g2,aBs,g3,bf g4,Fu];refine yP (a:=Dm) (S8 s v q) (RU WF (m:=(ol (sH s v b).O).length) ⟨(tR s v b),sH s v b,_,[b.root],66,0, ?start,.inl ⟨rfl,rfl⟩,.inl rfl,p,l,W,qs,rfl⟩) ?rest
  case start =>
   rw[wH p.sd];simp only[E8,seval,fN,flatMap_cons,flatMap_nil,append_nil]<;>rfl
  case rest =>
   rintro e st ⟨rfl,A,w,X,R,a,g,D,Y,G,p,l,W,N⟩
   have J:(a=4)=False:=eq_false Y
   have aOU:=p.sd.fl
   have hfo:=p.sd.bL
   rcases G with rfl|⟨g',L,C,rfl,S⟩
   ·rw[wH p.sd] at D;have M:=p.sd.flat
    simp only[Z8,seval,D];exact⟨_,yd,A,some R,0,rfl,M,yw,ZB,fun _=>⟨w,p,l,W⟩⟩
   ·have hex:=fun st' u=>yL (O:=L) (a:=91) (g:=g') p.sd st' u
    have ZQ:lI A (ov aK (some L))=A:=nh
    rw[ZQ] at hex;simp only[Z8,seval,D];exact⟨_,xu,A,some R,0,rfl,p.sd.flat,yw,ZB,fun _=>⟨w,p,l,W⟩⟩
 by_cases g5:s.dY=bQ
 case neg =>
  have p:GI (tR s v b) (sH s v b) q:=T5
  have l:RG0 (tR s v b) (sH s v b):=aJ9
  have W:((tR s v b)).cFg=s.cFg:=hcf.1
  have Fu:=P9 p.sd
  simp only[Z8,seval,FG,bf g1,bt g2,aBs,g3,bt g4,g5,Fu];refine yP (a:=Dm) (S8 s v q) (RU WF (m:=(ol (sH s v b).O).length) ⟨(tR s v b),sH s v b,_,[b.root],66,0, ?start,.inl ⟨rfl,rfl⟩,.inl rfl,p,l,W,qs,rfl⟩) ?rest
  case start =>
   rw[wH p.sd];simp only[E8,seval,fN,flatMap_cons,flatMap_nil,append_nil]<;>rfl
  case rest =>
   rintro e st ⟨rfl,A,w,X,R,a,g,D,Y,G,p,l,W,N⟩
   have J:(a=4)=False:=eq_false Y
   have aOU:=p.sd.fl
   have hfo:=p.sd.bL
   rcases G with rfl|⟨g',L,C,rfl,S⟩
   ·rw[wH p.sd] at D;have M:=p.sd.flat
    simp only[Z8,seval,D];exact⟨_,yd,A,some R,0,rfl,M,yw,ZB,fun _=>⟨w,p,l,W⟩⟩
   ·have hex:=fun st' u=>yL (O:=L) (a:=91) (g:=g') p.sd st' u
    have ZQ:lI A (ov aK (some L))=A:=nh
    rw[ZQ] at hex;simp only[Z8,seval,D];exact⟨_,xu,A,some R,0,rfl,p.sd.flat,yw,ZB,fun _=>⟨w,p,l,W⟩⟩
 have p:GI { tR s v b with dY:=b.root } (sH s v b) q:=T5.dY b.root
 have l:RG0 { tR s v b with dY:=b.root } (sH s v b):=aJ9.dY b.root (.inr (YN h r.vs g2))
 have W:({ tR s v b with dY:=b.root }).cFg=s.cFg:=hcf.1
 have Fu:=P9 p.sd
 simp only[Z8,seval,FG,bf g1,bt g2,aBs,g3,bt g4,g5,Fu];refine yP (a:=Dm) (S8 s v q) (RU WF (m:=(ol (sH s v b).O).length) ⟨{ tR s v b with dY:=b.root },sH s v b,_,[b.root],66,0, ?start,.inl ⟨rfl,rfl⟩,.inl rfl,p,l,W,qs,rfl⟩) ?rest
 case start =>
  rw[wH p.sd];simp only[E8,seval,fN,flatMap_cons,flatMap_nil,append_nil]<;>rfl
 case rest =>
  rintro e st ⟨rfl,A,w,X,R,a,g,D,Y,G,p,l,W,N⟩
  have J:(a=4)=False:=eq_false Y
  have aOU:=p.sd.fl
  have hfo:=p.sd.bL
  rcases G with rfl|⟨g',L,C,rfl,S⟩
  ·rw[wH p.sd] at D;have M:=p.sd.flat
   simp only[Z8,seval,D];exact⟨_,yd,A,some R,0,rfl,M,yw,ZB,fun _=>⟨w,p,l,W⟩⟩
  ·have hex:=fun st' u=>yL (O:=L) (a:=91) (g:=g') p.sd st' u
   have ZQ:lI A (ov aK (some L))=A:=nh
   rw[ZQ] at hex;simp only[Z8,seval,D];exact⟨_,xu,A,some R,0,rfl,p.sd.flat,yw,ZB,fun _=>⟨w,p,l,W⟩⟩
def PfR (q m:Int) (r:AV):Prop:=∃(D:State) (e:Int),r=.cY [bd D,aa e]/\Flat (bd D)/\(e=0\/e=21->∃S u A,TI D S u A (q+1000) (m+256))
def Ko (h:Flat (bd t)) {D:aF} (hs:Flat (bc D)):Flat (bd ({ t with store:=D })):=by
 grind [qM,yE]
def a2J (h:TI t v Q R q m) (x:uI) (N:rW x) (hp:x.kind=2->Pr x.block.root) (hq:q+1000<=900000) (hm:m+256<=100000) :
 ∃r,aA prog 109 [bd t,be x]=some r/\PfR q m r:=by
 have hf:=h.td.flat
 have KF:=h.gi.sd.flat
 have KT:=N.flat
 have SK:=N.fl
 have up:∀ {t':State} {S:SV} {u A:Option (List Request)} {q' m':Int},TI t' S u A q' m'->q'<=q+1000->m'<=m+256->∃S u A,TI t' S u A (q+1000) (m+256):=fun g a b=>⟨_,_,_,g.mono a hq b hm⟩
 have nt:=h.nt
 have mB:=h.mB
 have lq:=h.lq
 have lr:=h.lr
 have rB:=h.rm
 rw[cL func109 rfl aVx rfl];by_cases k1:x.kind=1
 ·obtain⟨y,Y,D,e,rfl,M,ne,p⟩:=a2s h.gi h.rg
  have k175:=kx Y (bZ KF) (.cY _ (aU M (.v _)))
  have C:=Ko hf M
  by_cases e0:e=0
  ·obtain⟨S,g,r,c⟩:=p e0
   have T0:=h.toTI0.store g r c
   have T1:=T0.drop
   have T2:=T1.due hm
   have aOV:=kx (aU5 T0.td) (bZ C) T1.td.flat
   have k176:=kx (a2t T1.td (by have:=T1.lq;have:=T1.lr;have:=T1.rm;omega)) (bZ T1.td.flat) T2.td.flat
   have ft2:=T2.td.flat
   simp only[Z8,seval,bt k1,k175,bW,bt e0,aOV,k176];exact⟨_,Qbi,_,e,rfl,ft2,fun _=>up T2 WF WF⟩
  ·simp only[Z8,seval,bt k1,k175,bW,bf e0];exact⟨_,qv,_,e,rfl,C,fun h=>absurd h WF⟩
 by_cases l:x.kind=2
 ·obtain⟨y,Y,D,L,e,rfl,M,nL,ne,p⟩:=a2I h.gi h.rg x.block ⟨N.rb,hp l⟩
  have k178:=kx Y (aU KF (lF _)) (.cY _ (jC M (yM L) (.v _)))
  have C:=Ko hf M
  by_cases e0:e=0
  ·obtain⟨S,g,r,c⟩:=p e0
   have T0:=h.toTI0.store g r c
   have T1:=T0.drop
   have T2:=T1.open (ol L) WF hm
   have aOV:=kx (aU5 T0.td) (bZ C) T1.td.flat
   have k179:∀(st:St) (d:Option Nat),eH (aA prog) 179 _ st d=_:=fun st d=>Kf (aU T1.td.flat (yM L)) (a2g T1.td L (by have:=T1.lq;omega)) T2.td.flat
   have ft2:=T2.td.flat
   simp only[Z8,seval,bf k1,bt l,k178,bW,bt e0,aOV,k179];exact⟨_,Qbi,_,e,rfl,ft2,fun _=>up T2 WF WF⟩
  ·simp only[Z8,seval,bf k1,bt l,k178,bW,bf e0];exact⟨_,qv,_,e,rfl,C,fun h=>absurd h WF⟩
 by_cases G:x.kind=3
 ·obtain⟨V,hV,nV⟩:=N.Dy
  obtain⟨y,Y,D,e,rfl,M,ne,p⟩:=a1H h.gi h.rg x.Dy V hV WF
  have k180:=kx Y (aU KF ((rS _).2 SK.1)) (.cY _ (aU M (.v _)))
  have C:=Ko hf M
  have fin:e=0\/e=21->∃S u A,TI { t with store:=D } S u A (q+1000) (m+256):=fun he=>by
   obtain⟨S,g,r,c,X⟩:=p WF
   exact up ⟨h.toTI0.store g r c,by rw[X];exact h.Ot,by rw[X];exact h.Pt⟩ WF WF
  simp only[Z8,seval,bf k1,bf l,bt G,k180,bW];exact⟨_,qv,_,e,rfl,C,fin⟩
 by_cases k4:x.kind=4
 ·obtain⟨V,hV,nV⟩:=N.c1
  obtain⟨W,hW,nW⟩:=N.c2
  obtain⟨y,Y,D,e,rfl,M,ne,p⟩:=a1G h.gi h.rg x.mQ V W hV hW nV nW hq
  have k181:=kx Y (aU KF ((jT _).2 ⟨SK.2.1,SK.2.2.1⟩)) (.cY _ (aU M (.v _)))
  have C:=Ko hf M
  have fin:e=0\/e=21->∃S u A,TI { t with store:=D } S u A (q+1000) (m+256):=fun he=>by
   obtain⟨S,g,r,c,X⟩:=p WF
   exact up ⟨h.toTI0.store g r c,by rw[X];exact h.Ot,by rw[X];exact h.Pt⟩ WF WF
  simp only[Z8,seval,bf k1,bf l,bf G,bt k4,k181,bW];exact⟨_,qv,_,e,rfl,C,fin⟩
 by_cases k5:x.kind=5
 ·have nT:=h.gi.nT
  have KV:=h.gi.KV
  obtain⟨y,Y,D,e,rfl,M,ne,p⟩:=a07 h.gi.sd WF x.table N.aFN
  have k182:=kx Y (aU KF ((iQ _).2 SK.2.2.2)) (.cY _ (aU M (.v _)))
  have C:=Ko hf M
  have fin:e=0\/e=21->∃S u A,TI { t with store:=D } S u A (q+1000) (m+256):=fun he=>by
   obtain⟨o',rfl,nl,tb,sub,⟨ne1,srt⟩,ne2⟩:=p WF
   have g:GI { t.store with tables:=ov bG o' } { v with T:=o' } q :=
    ⟨⟨h.gi.sd.fL,h.gi.sd.cJ,h.gi.sd.dM,h.gi.sd.early,h.gi.sd.bL,h.gi.sd.tree,rfl,h.gi.sd.eV,tb,h.gi.sd.nB,h.gi.sd.nL,h.gi.sd.nQ,h.gi.sd.nE,h.gi.sd.nO,qg,h.gi.sd.nn⟩,h.gi.up,h.gi.Nv,h.gi.pos,h.gi.nl,h.gi.RE,h.gi.iH,h.gi.Wg,h.gi.nB,h.gi.nO,h.gi.AH,h.gi.nE,h.gi.KU,qg,h.gi.KV,h.gi.nQ,h.gi.N8,h.gi.dX⟩
   have r:RG { t.store with tables:=ov bG o' } { v with T:=o' }:=⟨⟨h.rg.now,h.rg.j,h.rg.f,h.rg.nd,h.rg.or,h.rg.rt,h.rg.fe,h.rg.ds,by obtain⟨tb,J,h2⟩:=h.rg.tb;grind,⟨h.rg.ne.q,h.rg.ne.e,ne1,h.rg.ne.ea,fun x N=>(ne2 x N).elim (h.rg.ne.tb x) fun ⟨_,B,J,h2⟩=>⟨B,J,fun e=>by have h3:=h.fL.1;grind⟩⟩,h.rg.vs.EE o' _⟩,h.rg.op⟩
   exact up ⟨h.toTI0.store g r rfl,h.Ot,h.Pt⟩ WF WF
  simp only[Z8,seval,bf k1,bf l,bf G,bf k4,bt k5,k182,bW];exact⟨_,qv,_,e,rfl,C,fin⟩
 by_cases k6:x.kind=6
 ·obtain⟨y,Y,t',e,S,u,A,rfl,g⟩:=a2G h x.verdict
  have k183:=kx Y (aU hf (.agg _ (fJ _))) (.cY _ (aU g.td.flat (.v _)))
  have C:=g.td.flat
  simp only[Z8,seval,bf k1,bf l,bf G,bf k4,bf k5,bt k6,k183,bW];exact⟨_,qv,_,e,rfl,C,fun _=>up g WF WF⟩
 simp only[Z8,seval,bf k1,bf l,bf G,bf k4,bf k5,bf k6];exact⟨_,by apply bT;rfl;all_goals simp only[aI,bC,Z8,seval,hf]<;>rfl,t,2,rfl,hf,fun h=>absurd h WF⟩
def x60 (h:TI t v Q R q m) (x:uI) (N:rW x) (hp:x.kind=2->Pr x.block.root) (hq:q+1000<=900000) (hm:m+256<=100000) :
 ∃r,aA prog 60 [bd t,be x]=some r/\∃(D:State) (y:AV) (e:Int) (S:SV) (u R':Option (List Request)),r=.cY [bd D,y,aa e]/\Flat y/\TI D S u R' (q+1000) (m+256):=by
 have W:=h.td.flat
 have KT:=N.flat
 have G:=h.mono (q':=q+1000) (m':=m+256) WF hq WF hm
 obtain⟨y1,J,A,rfl⟩:=a15 x N
 have l:=kx J (bZ KT) (.v _)
 obtain⟨y2,X,t2,M,rfl,C,p⟩:=a2J h x N hp hq hm
 have aOW:=kx X (aU W KT) (.cY _ (aU C (.v _)))
 rw[cL func60 rfl a2M rfl];cases g0:t.halted
 case true =>
  simp only[Z8,seval,g0];exact⟨_,zm,t,_,22,v,Q,R,rfl,.v _,G⟩
 by_cases g1:A=0
 case neg =>
  simp only[Z8,seval,g0,l,bf g1];exact⟨_,zm,t,_,A,v,Q,R,rfl,.v _,G⟩
 by_cases g2:M=21
 ·obtain⟨S,u,R',T⟩:=p (.inr g2)
  simp only[Z8,seval,g0,l,bt g1,aOW,bW,bt g2];exact⟨_,qo,t2,_,M,S,u,R',rfl,.v _,T⟩
 by_cases g3:M=0
 case neg =>
  simp only[Z8,seval,g0,l,bt g1,aOW,bW,bf g2,bf g3];exact⟨_,zm,t,_,M,v,Q,R,rfl,.v _,G⟩
 obtain⟨S,u,R',T⟩:=p (.inl g3)
 obtain⟨y3,Y,b,c,y,rfl,fy⟩:=aUw t2 C T.gi
 have T':=T.emit b c
 have ft3:=T'.td.flat
 have aOX:=kx Y (bZ C) (.cY _ (aU ft3 fy))
 simp only[Z8,seval,g0,l,bt g1,aOW,bW,bf g2,bt g3,aOX];exact⟨_,fF rfl zk zk qn (cV ft3) (cV fy) (cV (.v _)),_,y,0,S,u,R',rfl,fy,T'⟩
theorem Zc (n:Int):(mkRoot n)[0]=u8.wrap n:=by
 simp[mkRoot]
theorem ZR (h0:0<=n) (h1:n<256):u8.wrap n=n:=by
 grind [IntKind.wrap,IntKind.bits,IntKind.signed]
theorem aNq (h0:1<=n) (h1:n<=98):Pr (mkRoot n):=by
 refine⟨fun e=>?_,fun e=>?_⟩
 ·have e1:u8.wrap n=bQ[0]:=by rw[<- Zc,e]
  grind [ZR,bQ]
 grind [Zc,ZR]
theorem VS.new (h:sZ c b):VS (Cq c b) (zI c b):=by
 have C:Ay (zI c b).ns:=⟨by show 0<1;omega,by show 1<=4096;omega,rfl,fun i h0 J=>vi,fun i h0 J=>vi,fun i h0 J=>vi,fun i j h0 J h2=>by have h2:j<((1:Nat):Int):=h2;omega,fun i h0 J=>by
  have J:i<((1:Nat):Int):=J
  obtain rfl:i=0:=WF
  rfl⟩
 have hf:aD (zI c b).ns c.fR=0:=C.find (Int.le_refl 0) QaY rfl
 refine⟨C,fun i h0 J=>vi,fun n M _=>?_, ?_,rfl,.inr ?_,fun x N _=>eq_of_mem_replicate N,.inl rfl,.inl rfl,fun n M=>?_,(fun a Y=>bk),(fun o p=>by cases p),.nil⟩
 ·rw[show n=⟨YX c,-1,1⟩ from mem_singleton.1 M]
 ·grind [nd,zI,aD]
 ·show (0:Int)<=(Nt 0 c.iH).1
  unfold Nt EF;rw[if_pos h.iH];split
  ·exact Int.le_refl 0
  ·rw[Int.zero_mul];decide
 ·rw[show n=⟨YX c,-1,1⟩ from mem_singleton.1 M];refine⟨Int.le_refl 0,Int.le_refl 0,Int.le_refl 0,Int.le_refl 0, ?_⟩
  show (0:Int)<=u64.wrap (Int.tdiv 0 c.iH)
  rw[Int.zero_tdiv];decide
theorem RG.new {c:Config} {b:List Int} (h:sZ c b):RG (Cq c b) (zI c b):=by
 have hg:Pr c.fR:=by grind [sZ.gen,aNq]
 have z:Rg 0:=S4
 refine⟨⟨⟨v9,by show (0:Int)<=_;omega⟩,z,z,fun n M=>?_,(fun o p=>by cases p),fun n M=>?_,⟨v9, ?_⟩, ?_, ?_, ?_,VS.new h⟩,fun o p=>by cases p⟩
 ·rw[show n=⟨YX c,-1,1⟩ from mem_singleton.1 M];exact⟨⟨z,z,z,z,z⟩,v9⟩
 ·rw[show n=⟨YX c,-1,1⟩ from mem_singleton.1 M];exact hg
 ·show (0:Int)<=u64.wrap (Int.tdiv 0 c.iH)
  rw[Int.zero_tdiv];decide
 ·show ([c.fR]:List bU).Nodup
  simp
 ·exact⟨⟨⟨0,c.fR⟩,ov bD (some b)⟩,mem_singleton.2 rfl,rfl⟩
 ·exact⟨nofun,nofun,by simp[zI],(fun a Y=>bk),fun t D=>⟨b,by rw[show t=⟨⟨0,c.fR⟩,ov bD (some b)⟩ from mem_singleton.1 D],fun e=>by have:=h.nb.1;grind⟩⟩
def LB (c:Config) (b:List Int):State:={ iS with store:=Cq c b,cI:=1 }
theorem TI.new {c:Config} {b:List Int} (h:sZ c b):TI (LB c b) (zI c b) none none 0 0:=by
 have g:=GI.new h
 have r:=RG.new h
 have X:=h.oV
 exact⟨⟨⟨g.sd,rfl,rfl,by show ((0:Nat):Int)<_;omega,by show ((0:Nat):Int)<_;omega⟩,g,r,⟨b,h⟩,⟨by show (1:Int)<=1;omega,(fun r X=>by cases X),List.Pairwise.nil⟩,⟨(fun r X=>by cases X),List.Pairwise.nil⟩,by show (1:Int)<=1+0;omega,by show ((0:Nat):Int)<=0;omega,by show ((0:Nat):Int)<=c.lim.oV;omega,WF⟩,(fun r X=>by cases X),(fun r X=>by cases X)⟩
def x58 (h:sZ c b):∃r,aA prog 58 [aq c]=some r/\∃(zH:Bool) (last:Command) (y:AV),r=.cY [bd ({ LB c b with zH:=zH,last:=last }),y,aa 0]/\Flat y:=by
 have T:=TI.new h
 have A:Flat (aq c):=(mT c).2 (by rw[h.fL];exact cP _)
 have M:=T.gi.sd.flat
 have N:=kx (c35 h) (bZ A) (.cY _ (aU M (.v _)))
 obtain⟨y3,Y,s,l,y,rfl,D⟩:=aUw (LB c b) T.td.flat T.gi
 have C:=(T.emit s l).td.flat
 have J:=kx Y (bZ T.td.flat) (.cY _ (aU C D))
 have G:({ iS with store:=Cq c b,cI:=1 }:State)=LB c b:=rfl
 rw[cL func58 rfl a2N rfl];simp only[Z8,seval,N,bW,G,J];exact⟨_,fF rfl zk zk qn (cV C) (cV D) (cV (.v _)),s,l,y,rfl,D⟩
def N7 (x:uI):Prop:=rW x/\(x.kind=2->Pr x.block.root)
def zJ (l:List uI):List AV:=l.flatMap jJ
def aOY (x:uI):My 80 446 720 (some (1,jJ x))=some (none,.row 80 446 [x].length (zJ [x])):=by simp[My,maxLen,zJ]
def aOZ (l:List uI) (x:uI) (s g:Nat) (h:bg l.length):Mz 80 446 720 (some (.row 80 446 l.length (zJ l))) s g (some (1,jJ x))=some (some (s,g),.row 80 446 (l++[x]).length (zJ (l++[x]))):=by
 simp only[Mz];rw[if_pos ⟨qe,trivial,trivial,WF,xm⟩]
 grind [zJ]
theorem Wo (l:List uI) (h:∀y∈l,N7 y):∀x∈zJ l,Flat x:=by
 intro x N;obtain⟨y,hm,hy⟩:=mem_flatMap.1 N
 have W:=(h y hm).1.flat
 cases W<;>grind
def aVB (n:Nat) (l:List uI) (h:∀y∈l,N7 y):lG (some (.row 80 446 n (zJ l)))=some (.sl n (zJ l)):=by
 grind [lG,Wo]
def QU (c:Config) (e:Ex) (st':St):Prop:=e=.exit 0/\∃(t:State) (v:SV) (Q R:Option (List Request)),(st'.env 2=.ptr 2 0 0/\st'.heap 2 0=some (.cells (bX sG))/\st'.env 4=.ptr 4 0 0/\st'.heap 4 0=some (.cells (aE iS))/\st'.env 5=.ptr 5 0 0/\st'.heap 5 0=some (.cells (bX c))/\st'.env 6=.ptr 6 0 0/\st'.heap 6 0=some (.cells (aE t)))/\(st'.env 9=af\/∃(L:List uI) (g:Nat),st'.env 9=.own 48 g/\st'.heap 48 g=some (.row 80 446 L.length (zJ L))/\(∀y∈L,N7 y)/\L.length<=24)/\TI t v Q R 24000 6144
def x27 (l:List Int) (W:(l.length:Int)<=9223372036854775807):∃r,aA prog 27 [.sl l.length (aH l)]=some r/\∃(c:Config) (b:List Int) (O:Option (List uI)) (t:State),r=.cY [aq c,ov zJ O,bd t]/\sZ c b/\Flat (bd t)/\(∀y∈ol O,N7 y)/\(ol O).length<=24:=by
 obtain⟨y1,hy1,c,b,rfl,G⟩:=x34 l W
 have fc:Flat (aq c):=(mT c).2 oc
 have k34:∀(st:St) (d:Option Nat),eH (aA prog) 34 _ st d=_:=fun st d=>Kf (bZ (Pp l)) hy1 fc
 obtain⟨y2,hy2,zH,last,y,rfl,fy⟩:=x58 G
 have T0:=(TI.new G).emit zH last
 have k58:=kx hy2 (bZ fc) (.cY _ (jC T0.td.flat fy (.v _)))
 have k16:=k59 l W 16 WF WF
 have k17:=k59 l W 17 WF WF
 have n0:=(rk l W 16 WF WF).2.1
 obtain⟨n1,n2⟩:=fU (n:=25) n0 WF
 obtain⟨N,hN⟩:∃N,(cg l 16).tmod 25=N:=⟨_,rfl⟩
 rw[hN] at n1 n2;rw[cG func27 rfl a2Q WP rfl]
 have body:∀(M:Int),0<=M->M<=24->∀st:St,(st.env 0=.sl l.length (aH l)/\st.env 2=.ptr 2 0 0/\st.heap 2 0=some (.cells (bX sG))/\st.env 4=.ptr 4 0 0/\st.heap 4 0=some (.cells (aE iS))/\st.env 5=.ptr 5 0 0/\st.heap 5 0=some (.cells (bX c))/\st.env 6=.ptr 6 0 0/\st.heap 6 0=some (.cells (aE { LB c b with zH:=zH,last:=last }))/\st.env 9=af/\st.env 10=aa M/\st.env 11=aa 0)->∃e st',vN prog true (iP (Tryz.f27.body.getD .skip)) st=some (e,st')/\QU c e st':=by
  intro M hM0 hM1 st hs;suffices key:∃r,cT (vN prog true (iP (Tryz.f27.body.getD .skip)) st) some=some r/\QU c r.1 r.2 by
   obtain⟨r,h,hq⟩:=key
   cases hx:vN prog true (iP (Tryz.f27.body.getD .skip)) st with
   | none=>rw[hx] at h;cases h
   | some y=>rw[hx] at h;simp only[cC,cQ] at h;subst h;exact⟨y.1,y.2,rfl,hq⟩
  simp only[Tryz.f27,Option.getD_some,iP];refine jV (fun m st=>∃(k:Nat) (t:State) (v:SV) (Q R:Option (List Request)),(st.env 0=.sl l.length (aH l)/\st.env 2=.ptr 2 0 0/\st.heap 2 0=some (.cells (bX sG))/\st.env 4=.ptr 4 0 0/\st.heap 4 0=some (.cells (aE iS))/\st.env 5=.ptr 5 0 0/\st.heap 5 0=some (.cells (bX c))/\st.env 6=.ptr 6 0 0/\st.heap 6 0=some (.cells (aE t))/\st.env 10=aa M/\st.env 11=aa k)/\(st.env 9=af\/∃(L:List uI) (g:Nat),(st.env 9=.own 48 g/\st.heap 48 g=some (.row 80 446 L.length (zJ L)))/\g<st.aJ 48/\(∀y∈L,N7 y)/\L.length<=k)/\TI t v Q R (1000 * k) (256 * k)/\(k:Int)<=M/\m=(M-k).toNat)
   (QU c) M.toNat ?step ?start ?rest
  case start=>exact⟨0,_,_,_,_,⟨hs.1,hs.2.1,hs.2.2.1,hs.2.2.2.1,hs.2.2.2.2.1,hs.2.2.2.2.2.1,hs.2.2.2.2.2.2.1,hs.2.2.2.2.2.2.2.1,hs.2.2.2.2.2.2.2.2.1,hs.2.2.2.2.2.2.2.2.2.2.1,hs.2.2.2.2.2.2.2.2.2.2.2⟩,.inl hs.2.2.2.2.2.2.2.2.2.1,T0,WF,WF⟩
  case rest=>grind
  case step =>
   clear hs
   rintro m st ⟨k,t,v,Q,R,D,hX,T,hk,hm⟩
   by_cases A:(k:Int)<M
   case neg =>
    have hX':st.env 9=af\/∃(L:List uI) (g:Nat),st.env 9=.own 48 g/\st.heap 48 g=some (.row 80 446 L.length (zJ L))/\(∀y∈L,N7 y)/\L.length<=24:=hX.imp id fun ⟨L,g,J,_,S,h4⟩=>⟨L,g,J.1,J.2,S,WF⟩
    apply BW (.exit 0)
    ·simp only[ZG,seval,fq,D,A];rfl
    ·exact⟨rfl,t,v,Q,R,XC,Qa8,T.mono WF WF WF WF⟩
   have hw := (yY k).2
   obtain⟨j,hj⟩:∃j:Int,j=18+(k:Int):=⟨_,rfl⟩
   have hwj:i64.wrap (18+(k:Int))=j:=by rw[Dz _ WF WF,hj]
   obtain⟨n,hn⟩:∃n:Int,n=10+(k:Int):=⟨_,rfl⟩
   have hwn:i64.wrap (10+(k:Int))=n:=by rw[Dz _ WF WF,hn]
   have kj:=k59 l W j WF WF
   have j0:=(rk l W j WF WF).2.1
   have op:∀z:Int,0<=z->∃(y:uI) (t':State) (w:AV) (e:Int) (v':SV) (Q' R':Option (List Request)),(∀(st:St) (d:Option Nat),aO (aA prog) 19 [bd t,aa n,aa z] st d=some { dst:=d,val:=be y})/\(∀(st:St) (d:Option Nat),aO (aA prog) 60 [bd t,be y] st d=some { dst:=d,val:=.cY [bd t',w,aa e]})/\N7 y/\TI t' v' Q' R' (1000 * ((k+1:Nat):Int)) (256 * ((k+1:Nat):Int)):=by
    intro z hz;obtain⟨y3,hy3,o,rfl,p,X⟩:=x19 T.td T.gi T.rg T.fL (fun r X=>by obtain⟨J,h2,_⟩:=T.tq.all r X;have:=T.nt;exact⟨WF,WF⟩) n z hz
    have hp:o.kind=2->Pr o.block.root:=fun h2=>by
     rcases X h2 with h|⟨a,ha,h⟩
     ·grind [aNq]
     ·rw[h];exact T.rg.rt a ha
    obtain⟨y4,hy4,t',w,e,v',Q',R',rfl,fw,T'⟩:=x60 T o p hp WF WF
    exact⟨o,t',w,e,v',Q',R',kx hy3 (jC T.td.flat (.v _) (.v _)) p.flat,kx hy4 (aU T.td.flat p.flat) (.cY _ (jC T'.td.flat fw (.v _))),⟨p,hp⟩,T'.mono WF WF WF WF⟩
   by_cases k0:(k:Int)=0
   case' pos =>
    obtain⟨o,t',w,e,v',Q',R',k19,k60,p,T'⟩:=op 0 WF
    replace k0:=bt k0
   case' neg =>
    obtain⟨o,t',w,e,v',Q',R',k19,k60,p,T'⟩:=op (cg l j) j0
    replace k0:=bf k0
   all_goals
    rcases hX with hX|⟨L,g,hX,hg,C,hLk⟩
    ·apply Ka ((M-((k+1:Nat):Int)).toNat)
     ·simp only[ZG,seval,fq,D,hX,A,hwj,kj,k0,hwn,k19,aOY,k60,bW,hw];rfl
     ·exact⟨k+1,t',v',Q',R',XC,.inr ⟨[o],_,⟨Wl,Wl⟩,Yo,(fun y Y=>qg),qe⟩,T',WF,rfl⟩
    ·have nL:bg L.length:=WF
     have vO:(g=st.aJ 48)=False:=eq_false WF
     apply Ka ((M-((k+1:Nat):Int)).toNat)
     ·simp only[ZG,seval,fq,D,hX,vO,A,hwj,kj,k0,hwn,k19,aOZ _ _ _ _ nL,k60,bW,hw];rfl
     ·exact⟨k+1,t',v',Q',R',XC,.inr ⟨L++[o],_,⟨Wl,Wl⟩,Yo,(fun y Y=>(mem_append.1 Y).elim (C y) fun h=>qg),qg⟩,T',WF,rfl⟩
 by_cases g1:0<(cg l 17).tmod 4
 case' pos=>have body:=body 24 WF WF
 case' neg=>have body:=body N WF WF
 all_goals
  simp only[ZG,seval,fq,k34,k58,bW,k16,hN,k17,g1];refine Mx (a:=iP (Tryz.f27.body.getD .skip)) (QU c) (body _ Wl) ?_
  rintro e st ⟨rfl,t,v,Q,R,D,hX|⟨L,g,hX,u,C⟩,T⟩
  ·have ft:=T.td.flat
   simp only[ZG,seval,fq,D,hX];exact⟨_,fF rfl xt (by simp only[bC,Z8,seval,hX]<;>rfl) xt (cV fc) (cV (.v _)) (cV ft),c,b,none,t,rfl,G,ft,(fun y Y=>bk),by show (0:Nat)<=24;omega⟩
  ·have ft:=T.td.flat
   have ex:=aVB L.length L C.1
   simp only[ZG,seval,fq,D,hX,u];exact⟨_,fF rfl xt (by simp only[bC,Z8,seval,hX]<;>rfl) xt (cV fc) (by simp only[Z8,seval,u,ex]<;>rfl) (cV ft),c,b,some L,t,rfl,G,ft,C.1,C.2⟩
def x7 (l:List Int) (W:(l.length:Int)<=9223372036854775807):∃(c:Config) (b:List Int) (O:Option (List uI)),aA prog 7 [.sl l.length (aH l)]=some (.cY [aq c,ov zJ O])/\sZ c b/\(∀y∈ol O,N7 y)/\(ol O).length<=24:=by
 suffices h:∃r,aA prog 7 [.sl l.length (aH l)]=some r/\∃(c:Config) (b:List Int) (O:Option (List uI)),r=.cY [aq c,ov zJ O]/\sZ c b/\(∀y∈ol O,N7 y)/\(ol O).length<=24 by
  grind
 obtain⟨y,Y,c,b,O,t,rfl,G,C,hO,nO⟩:=x27 l W
 have A:Flat (aq c):=(mT c).2 oc
 have J:Flat (ov zJ O):=by
  cases O with
  | none=>exact .v _
  | some L=>exact .sl _ _ (Wo L hO)
 have D:=kx Y (bZ (Pp l)) (.cY _ (jC A J C))
 rw[cL func7 rfl ok7 rfl];simp only[Z8,seval,D,bW];exact⟨_,by apply bT;rfl;all_goals simp only[aI,bC,Z8,seval,cV A,cV J]<;>rfl,c,b,O,rfl,G,hO,nO⟩
def a2T (b:Block) (r:bU):aA prog 277 [ah b,.ip (aW r) 0]=some (ae (decide (b.root=r))):=by
 rw[cL func277 rfl aVD rfl];simp only[Z8,seval];exact bE rfl qb (.v _)
def a2U (b:Block) (r:bU) (st:St) (d:Option Nat):aO (aA prog) 277 ([ah b]++[.ip (aW r) 0]) st d=some { dst:=d,val:=ae (decide (b.root=r))}:=aX (aU (lF b) (SL r)) (a2T b r) (.v _)
def a2V (o:Option (List Block)) (M:bg (ol o).length) (r:bU):aA prog 141 [ov aK o,.rL 277 [.ip (aW r) 0]]=some (aa (qP (fun k=>(gx gQ (ol o) k).root=r) (ol o).length)):=by
 have h:=aFw o M 277 [.ip (aW r) 0] (fun b=>decide (b.root=r)) fun x _ st d=>a2U x r st d
 grind
def a2W (o:Option (List Block)) (M:bg (ol o).length) (r:bU):aA prog 276 [ov aK o,.rL 277 [.ip (aW r) 0]]=some (ae (decide (∃j:Nat,j<(ol o).length/\(gx gQ (ol o) j).root=r))):=by
 have D:Flat (.rL 277 [.ip (aW r) 0]):=.rL _ _ (bZ (SL r))
 have A:=kx (a2V o M r) (aU (vX o) D) (.v _)
 rw[cL func276 rfl aVE wa]
 refine eM ?_
 rcases lA (fun k=>(gx gQ (ol o) k).root=r) (ol o).length with ⟨e,Y⟩|⟨k,R,u,Y,e⟩
 ·have C:decide (∃j:Nat,j<(ol o).length/\(gx gQ (ol o) j).root=r)=false:=decide_eq_false fun ⟨j,J,h2⟩=>Y j J h2
  rw[e] at A;simp only[Z8,seval,A];exact⟨_,bE rfl Wl XG,wm⟩
 ·have C:decide (∃j:Nat,j<(ol o).length/\(gx gQ (ol o) j).root=r)=true:=decide_eq_true ⟨k,R,u⟩
  have q0:(0:Int)<=k:=WF
  rw[e] at A;simp only[Z8,seval,A,q0];exact⟨_,bE rfl Wl XG,wm⟩
def a2X (hs:SD s v) (r:bU):aA prog 206 [bc s,.agg (aW r)]=some (ae (decide (P7 v r))):=by
 have A:∀(args:List AV) (st:St) (d:Option Nat),aO (aA prog) 276 args st d=oK (aA prog) 276 (bM (args.map (eE st))) (decide (∀x∈args,Flat x)) st d:=fun args st d=>dZ _ _ _ _ _
 have D:∀(fl:Bool) (st:St) (d:Option Nat),oK (aA prog) 276 (some [ov aK v.O,.rL 277 [.ip (aW r) 0]]) fl st d=some { dst:=d,val:=ae (decide (∃j:Nat,j<(ol v.O).length/\(gx gQ (ol v.O) j).root=r))}:=fun fl st d=>Ee (a2W v.O hs.nO r)
 rw[cL func206 rfl aVF rfl];refine eM ?_
 by_cases g:0<=aD v.ns r
 ·have C:decide (P7 v r)=true:=decide_eq_true (.inr g)
  simp only[Z8,seval,hs.tree,lX _ _ hs.nn,g];exact⟨_,bE rfl Wl XG,wm⟩
 ·have C:decide (P7 v r)=decide (∃j:Nat,j<(ol v.O).length/\(gx gQ (ol v.O) j).root=r):=decide_eq_decide.2 ⟨fun h=>h.resolve_right g,.inl⟩
  simp only[Z8,seval,hs.tree,lX _ _ hs.nn,g,hs.bL,A,kM,FH,D];exact⟨_,bE rfl Wl XG,wm⟩
def FI (hs:SD s v) (r:bU):KC 206 [bc s,.agg (aW r)] (ae (decide (P7 v r))):=fun _ _=>aX (aU hs.flat (oE r)) (a2X hs r) (.v _)
def a2Y (h:1<=s.cFg.iH/\s.cFg.iH<=64) (hf:Flat (bc s)) (b:Block):aA prog 278 [bc s,ah b]=some (ae (decide (KQ s b))):=by
 rw[cL func278 rfl aVG rfl];have h94:=Sq h b.slot
 unfold KQ;by_cases h1:b.fin.aG<=b.dX.aG
 by_cases h2:b.dX.aG<=b.dA.pj.aG
 by_cases h3:b.fin.aG<=b.dA.pf.aG
 by_cases h4:b.dA.pf.aG<=b.dA.pj.aG
 by_cases h5:b.dA.pj.aG<=pY s b.slot
 all_goals
  simp only[*,true_and,false_and,and_true,and_false,decide_true,decide_false];simp only[Z8,seval,bW, *];exact bE rfl (by simp only[E8,seval, *]<;>rfl) (.v _)
def aVH (h:1<=s.cFg.iH/\s.cFg.iH<=64) (W:Flat (bc s)) (b:Block):KC 278 [bc s,ah b] (ae (decide (KQ s b))):=fun _ _=>aX (aU W (lF _)) (a2Y h W b) (.v _)
def aF9 (h:1<=s.cFg.iH/\s.cFg.iH<=64) {x:Int} (e0:0<=e) (he:e<=pY s x) (N:Rg x):sF s e=(e * s.cFg.iH,0)/\e * s.cFg.iH<=x:=by
 have J:pY s x=x / s.cFg.iH:=by
  unfold pY;rw[Int.tdiv_eq_ediv_of_nonneg N.1];have:=Int.ediv_le_self s.cFg.iH N.1
  have:=N.2
  exact zC _ (Int.ediv_nonneg N.1 WF) WF
 rw[J] at he;have hm:e * s.cFg.iH<=x:=(Int.le_ediv_iff_mul_le WF).1 he
 have h0:0<=e * s.cFg.iH:=Int.mul_nonneg e0 WF
 have hb:=N.2
 refine⟨?_,hm⟩
 unfold sF Nt EF;rw[if_pos h];have ht:Int.tdiv 18446744073709551615 s.cFg.iH=18446744073709551615 / s.cFg.iH:=Int.tdiv_eq_ediv_of_nonneg WF
 have hq:=Int.ediv_le_self s.cFg.iH (show (0:Int)<=18446744073709551615 from WF)
 grind [Int.ediv_nonneg,zC,Int.ediv_lt_iff_lt_mul]
def nA (s:aF) (v:SV) (b:Block) (c:dH):Prop:=if (sF s c.aG).1<b.slot then 0<=Gu v.ns (aD v.ns b.parent) (sF s c.aG).1/\(nd v.ns (Gu v.ns (aD v.ns b.parent) (sF s c.aG).1)).block.root=c.root else b.root=c.root
theorem a2Z (h:GI s v q) (b:Block) (c:dH) (p:Rg c.aG) (c1:(sF s c.aG).2=0):aA prog 279 [bc s,ah b,aa (aD v.ns b.parent),ag c]=some (ae (decide (nA s v b c))):=by
 have hs:=h.sd
 have W:∀(st:St) (d:Option Nat),aO (aA prog) 200 [ac c.aG,ac s.cFg.iH] st d=some { dst:=d,val:=.cY [ac ((sF s c.aG).1),aa 0]}:=fun st d=>by rw[<- c1];exact eu p st d
 have ra:=Wb h.up (aD v.ns b.parent) (sF s c.aG).1
 rw[cL func279 rfl aVI rfl];refine eM ?_
 by_cases g1:(sF s c.aG).1<b.slot
 case neg =>
  have A:b.slot<=(sF s c.aG).1:=WF
  by_cases g2:c.root=b.root
  ·simp only[Z8,seval,W,bW,A,g2,decide_true];exact⟨_,bE rfl (by simp only[E8,seval,g2]<;>rfl) XG,by rw[decide_eq_true (show nA s v b c by unfold nA;rw[if_neg g1];exact g2.symm)]⟩
  ·simp only[Z8,seval,W,bW,A,g2,decide_false];exact⟨_,bE rfl (by simp only[E8,seval,g2]<;>rfl) XG,by rw[decide_eq_false (show ¬nA s v b c by unfold nA;rw[if_neg g1];exact fun e=>g2 e.symm)]⟩
 have A:¬b.slot<=(sF s c.aG).1:=WF
 by_cases g3:0<=Gu v.ns (aD v.ns b.parent) (sF s c.aG).1
 case neg =>
  simp only[Z8,seval,W,bW,A,hs.tree,jv _ h.up h.Nv,g3];exact⟨_,bE rfl Wl XG,by rw[decide_eq_false (show ¬nA s v b c by unfold nA;rw[if_pos g1];exact fun e=>g3 e.1)]⟩
 by_cases g4:(nd v.ns (Gu v.ns (aD v.ns b.parent) (sF s c.aG).1)).block.root=c.root
 ·simp only[Z8,seval,W,bW,A,hs.tree,jv _ h.up h.Nv,g3,ra,g4,decide_true];exact⟨_,bE rfl Wl XG,by rw[decide_eq_true (show nA s v b c by unfold nA;rw[if_pos g1];exact⟨g3,g4⟩)]⟩
 ·simp only[Z8,seval,W,bW,A,hs.tree,jv _ h.up h.Nv,g3,ra,g4,decide_false];exact⟨_,bE rfl Wl XG,by rw[decide_eq_false (show ¬nA s v b c by unfold nA;rw[if_pos g1];exact fun e=>g4 e.2)]⟩
def a3a (h:GI s v q) (r:RG0 s v) (b:Block) (hb:Rg b.slot):aA prog 207 [bc s,ah b]=some (ae (decide (Jz s v b))):=by
 have hs:=h.sd
 have W:=hs.flat
 rw[cL func207 rfl aVJ rfl];refine eM ?_
 have r1:=cB v.ns b.parent
 by_cases g1:aD v.ns b.parent<0
 ·have C:decide (Jz s v b)=false:=decide_eq_false (fun h=>by have:=h.1;omega)
  simp only[Z8,seval,hs.tree,lX _ _ hs.nn,g1];exact⟨_,bE rfl Wl XG,wm⟩
 by_cases g2:KQ s b
 case neg =>
  have C:decide (Jz s v b)=false:=decide_eq_false (fun h=>g2 h.2.1)
  simp only[Z8,seval,hs.tree,lX _ _ hs.nn,g1,aVH h.iH W,g2,decide_false];exact⟨_,bE rfl Wl XG,wm⟩
 have k279:∀c∈tN b,s.aL.fin.aG<c.aG->∀(st:St) (d:Option Nat),aO (aA prog) 279 [bc s,ah b,aa (aD v.ns b.parent),ag c] st d=some { dst:=d,val:=ae (decide (nA s v b c))}:=by
  intro c G A;have h0:0<=c.aG:=by have:=r.f.1;omega
  have hle:c.aG<=pY s b.slot:=by
   obtain⟨o1,o2,o3,o4,o5⟩:=g2
   grind [tN]
  have hsof:=aF9 h.iH h0 hle hb
  grind [Rg,pY,jF,kx,a2Z,lF,Flat.v,Flat.agg,cM]
 simp only[Z8,seval,hs.tree,lX _ _ hs.nn,g1,aVH h.iH W,g2,decide_true,aFd,aM1];have X:(tN b).length=4:=rfl
 refine bP (fun m st=>∃k:Nat,(st.env 2=.ptr 2 0 0/\st.heap 2 0=some (.cells (aB s))/\st.env 3=.ptr 3 0 0/\st.heap 3 0=some (.cells (aY b))/\st.env 5=aa (aD v.ns b.parent)/\st.env 31=.own 31 0/\st.heap 31 0=some (.row 40 33 (tN b).length (mJ (tN b)))/\st.env 32=aa ((tN b).length)/\st.env 33=aa k)/\(∀j:Nat,j<k->AF s v b (gx dO (tN b) j))/\k<=4/\m=4-k)
  (fun e st=>(e=.ret/\st.env 4=ae false/\∃j:Nat,j<4/\¬AF s v b (gx dO (tN b) j))\/(e=.exit 0/\∀j:Nat,j<4->AF s v b (gx dO (tN b) j))) 4 ?step ?start ?rest
 case step =>
  rintro m st ⟨k,D,Y,hk,hm⟩
  by_cases l:k<4
  ·have A:(k:Int)<(tN b).length:=by rw[X];omega
   obtain ⟨q0,hw⟩ := yY k
   obtain⟨c,G⟩:∃c,gx dO (tN b) k=c:=⟨_,rfl⟩
   have N:c∈tN b:=by rw[<- G];exact lB q0 A
   have cw:∀T kk,rK prog T=some kk->0<kk->kk<=33->pB prog T (some (.row 40 33 (tN b).length (mJ (tN b)))) ((k:Int).toNat * 33)=gI prog T (bI c) 0:=fun T kk J h2 S=>by rw[BV q0 A J h2 S,G]
   have R:AF s v b c->∀j:Nat,j<k+1->AF s v b (gx dO (tN b) j):=fun h j hj'=>(Nat.lt_succ_iff_lt_or_eq.1 hj').elim (Y j) fun e=>by grind
   have u:=cw 40 33 aO0 ZB ZB
   by_cases J:s.aL.fin.aG<c.aG
   case neg =>
    apply oN (4-(k+1))
    ·simp only[Z8,seval,D,A,q0,u,J,hw];rfl
    ·exact⟨k+1,XC,R (.inl WF),WF,rfl⟩
   have p:=k279 c N J
   by_cases h2:nA s v b c
   ·apply oN (4-(k+1))
    ·simp only[Z8,seval,D,A,q0,u,J,p,h2,decide_true,hw];rfl
    ·exact⟨k+1,XC,R (.inr h2),WF,rfl⟩
   ·apply oT (.ret)
    ·simp only[Z8,seval,D,A,q0,u,J,p,h2,decide_false];rfl
    ·exact .inl ⟨rfl,qb,k,l,by rw[G];exact fun h=>h.elim (fun h=>WF) h2⟩
  ·have A:¬((k:Int)<(tN b).length):=by rw[X];omega
   apply oT (.exit 0)
   ·simp only[Z8,seval,D,A];rfl
   grind
 case start=>exact⟨0,yj,fun j h=>WF,WF,WF⟩
 case rest =>
  rintro e st (⟨rfl,h,j,Y,M⟩|⟨rfl,h⟩)
  ·have C:decide (Jz s v b)=false:=decide_eq_false (fun h=>M (h.2.2 j Y))
   simp only[Z8,seval];exact⟨_,bE rfl qm XG,wm⟩
  ·have C:decide (Jz s v b)=true:=decide_eq_true ⟨WF,g2,h⟩
   simp only[Z8,seval];exact⟨_,bE rfl Wl XG,wm⟩
def FJ (h:GI s v q) (r:RG0 s v) (b:Block) (hb:Rg b.slot):KC 207 [bc s,ah b] (ae (decide (Jz s v b))):=fun _ _=>aX (aU h.sd.flat (lF b)) (a3a h r b hb) (.v _)
def aVK (h:GI s v q) (r:RG0 s v) (b:Block) (hb:Rg b.slot):aA prog 139 [bc s,ah b]=some (aa (sW s v b)):=by
 have hs:=h.sd
 have hf:=hs.flat
 have W:∀(st:St) (d:Option Nat),aO (aA prog) 200 [ac s.aL.fin.aG,ac s.cFg.iH] st d=some { dst:=d,val:=.cY [ac ((sF s s.aL.fin.aG).1),aa ((sF s s.aL.fin.aG).2)]}:=fun st d=>eu r.f st d
 rw[cL func139 rfl aVL rfl];refine eM ?_
 have G:=cB v.ns b.parent
 by_cases g1:b.root=bQ
 ·simp only[Z8,seval,W,bW,vH,FI hs,hs.tree,lX _ _ hs.nn,FJ h r b hb,EG,decide_true,decide_false,g1];exact⟨_,bE rfl Wl XG,xp⟩
 by_cases g2:P7 v b.root
 ·simp only[Z8,seval,W,bW,vH,FI hs,hs.tree,lX _ _ hs.nn,FJ h r b hb,EG,decide_true,decide_false,g1,g2];exact⟨_,bE rfl Wl XG,xp⟩
 by_cases g3:s.now<b.slot
 ·simp only[Z8,seval,W,bW,vH,FI hs,hs.tree,lX _ _ hs.nn,FJ h r b hb,EG,decide_true,decide_false,g1,g2,g3];exact⟨_,bE rfl Wl XG,xp⟩
 by_cases g4:b.slot<=(sF s s.aL.fin.aG).1
 ·simp only[Z8,seval,W,bW,vH,FI hs,hs.tree,lX _ _ hs.nn,FJ h r b hb,EG,decide_true,decide_false,g1,g2,g3,g4];exact⟨_,bE rfl Wl XG,xp⟩
 by_cases g5:aD v.ns b.parent<0
 ·simp only[Z8,seval,W,bW,vH,FI hs,hs.tree,lX _ _ hs.nn,FJ h r b hb,EG,decide_true,decide_false,g1,g2,g3,g4,g5];exact⟨_,bE rfl Wl XG,xp⟩
 have q0:0<=aD v.ns b.parent:=WF
 by_cases g6:b.slot<=(nd v.ns (aD v.ns b.parent)).block.slot
 ·simp only[Z8,seval,W,bW,vH,FI hs,hs.tree,lX _ _ hs.nn,FJ h r b hb,EG,decide_true,decide_false,g1,g2,g3,g4,g5,q0,G,g6];exact⟨_,bE rfl Wl XG,xp⟩
 by_cases g7:(nd v.ns (aD v.ns b.parent)).status=2
 ·simp only[Z8,seval,W,bW,vH,FI hs,hs.tree,lX _ _ hs.nn,FJ h r b hb,EG,decide_true,decide_false,g1,g2,g3,g4,g5,q0,G,g6,bt g7];exact⟨_,bE rfl Wl XG,xp⟩
 by_cases g8:¬Jz s v b
 ·simp only[Z8,seval,W,bW,vH,FI hs,hs.tree,lX _ _ hs.nn,FJ h r b hb,EG,decide_true,decide_false,g1,g2,g3,g4,g5,q0,G,g6,bf g7,g8];exact⟨_,bE rfl Wl XG,xp⟩
 replace g8:=Classical.not_not.1 g8
 by_cases g9:¬DT s.cFg.Ps (nd v.ns (aD v.ns b.parent)).block b
 ·simp only[Z8,seval,W,bW,vH,FI hs,hs.tree,lX _ _ hs.nn,FJ h r b hb,EG,decide_true,decide_false,g1,g2,g3,g4,g5,q0,G,g6,bf g7,g8,g9];exact⟨_,bE rfl Wl XG,xp⟩
 replace g9:=Classical.not_not.1 g9
 by_cases g10:s.cFg.lim.tO<=(v.ns.length:Int)
 ·simp only[Z8,seval,W,bW,vH,FI hs,hs.tree,lX _ _ hs.nn,FJ h r b hb,EG,decide_true,decide_false,g1,g2,g3,g4,g5,q0,G,g6,bf g7,g8,g9,g10];exact⟨_,bE rfl Wl XG,xp⟩
 simp only[Z8,seval,W,bW,vH,FI hs,hs.tree,lX _ _ hs.nn,FJ h r b hb,EG,decide_true,decide_false,g1,g2,g3,g4,g5,q0,G,g6,bf g7,g8,g9,g10];exact⟨_,bE rfl Wl XG,xp⟩
def aVM (h:GI s v q) (r:RG0 s v) (b:Block) (hb:Rg b.slot):KC 139 [bc s,ah b] (aa (sW s v b)):=fun _ _=>aX (aU h.sd.flat (lF b)) (aVK h r b hb) (.v _)
def aVN {c:List α->List AV} {z:Nat} (hc:∀l,(c l).length=l.length * z) (hz:0<z) {l:List α} (h:l≠[]):c l≠[]:=by
 grind [length_pos_iff,Nat.mul_pos]
def fu (T:Nat):Code:=Wh (fun n=>if n=30 then T else n) id (Tryz.f113.body.getD .skip)
def clone {c:List α->List AV} {f T e sz b:Nat} {fn:Func} {z:List Value} (W:prog.funcs[f]? = some fn) (hb:fn.body=some (fu T)) (nU:aZ fn=true) (X:fn.results.toList=[.tmp 2]) (hs:dD prog T=some (e,sz,b)) (hz:eC prog e=some z)
 (hu:prog.underlying T=some (.slice e)) (C:(To T 7 || pC T 7)=false) (R:Sr f=false) (m:b<=1000) (G:∀l,(c l).length=l.length * sz) (p:∀l,∀x∈c l,Flat x) (h0:0<sz) (L:Option (List α)) (h:L≠some []) (N:Ext.ext f [ov c L]=none) (M:bg (ol L).length) :
 aA prog f [ov c L]=some (uo e sz c L):=by
 have A:jS prog .eql T af af=some (ae true):=by simp[jS,Gv,hu]
 cases L with
 | none =>
   show aA prog f [af]=some af
   have N:Ext.ext f [af]=none:=N
   rw[dJ prog W hb nU _ N rfl];simp only[fu,Tryz.f113,Option.getD_some,Wh,O0,N9,List.map_toArray,id,E8,seval,A];exact bE X qb (.v _) (aI R)
 | some l =>
   have mC:c l≠[]:=aVN G h0 fun h2=>h (by rw[h2])
   have D:jS prog .eql T (.sl l.length (c l)) af=some (ae false):=by
    cases e:c l<;>grind [jS,Gv]
   have M:bg l.length:=M
   have NX:l.length * b<=140737488355328:=Nat.le_trans (Nat.mul_le_mul (show l.length<=1000000 from WF) m) ZB
   have Y:=fun s g=>SM (e:=e) (sz:=sz) (by_:=b) (s:=s) (g:=g) (n:=l.length) (cs:=c l) (G l) WF zy
   show aA prog f [.sl l.length (c l)]=some (.uniq e sz l.length (c l))
   have N:Ext.ext f [.sl l.length (c l)]=none:=N
   rw[dJ prog W hb nU _ N rfl];simp only[fu,Tryz.f113,Option.getD_some,Wh,O0,N9,List.map_toArray,id,E8,seval,D,T7 hs hz 5 (show Ext.im T 5=false from rfl),CH _ _ T 7 C,rG hs,Y];exact oH (s:=7) (g:=0) X Wl Wl (p l) (aI R)
def a3b (L:Option (List Int)) (h:L≠some []) (M:bg (ol L).length):aA prog 113 [ov bD L]=some (uo 23 1 bD L):=clone func113 WP aVO rfl ZS aO2 WP rfl rfl ZB PC fB ZB L h (cF _ _) M
def rr (L:Option (List Int)) (h:L≠some []) (M:bg (ol L).length) (st:St) (d:Nat):aO (aA prog) 113 [ov bD L] st (some d)=some { dst:=some d,val:=rv d (st.aJ d) L,new:=Sl d (rl 23 1 bD L)}:=tZ (bZ (cP L)) (a3b L h M)
def a3c (L:Option (List lO)) (h:L≠some []) (M:bg (ol L).length):aA prog 185 [ov dF L]=some (uo 167 34 dF L):=clone func185 WP aVP rfl T8 aGb WP rfl rfl ZB FK mR ZB L h (cF _ _) M
def a3d (L:Option (List lO)) (h:L≠some []) (M:bg (ol L).length) (st:St) (d:Nat):aO (aA prog) 185 [ov dF L] st (some d)=some { dst:=some d,val:=rv d (st.aJ d) L,new:=Sl d (rl 167 34 dF L)}:=tZ (bZ (uW L)) (a3c L h M)
def a3e (L:Option (List Int)) (h:L≠some []) (M:bg (ol L).length):aA prog 186 [ov aH L]=some (uo 3 1 aH L):=clone func186 WP aVQ rfl Ny cd WP rfl rfl ZB Bb eP ZB L h (cF _ _) M
def aVR (L:Option (List Int)) (h:L≠some []) (M:bg (ol L).length) (st:St) (d:Nat):aO (aA prog) 186 [ov aH L] st (some d)=some { dst:=some d,val:=rv d (st.aJ d) L,new:=Sl d (rl 3 1 aH L)}:=tZ (bZ (bR L)) (a3e L h M)
def aKd {l:List Block} (h:l≠[]):Ext.ext 117 [.sl l.length (aK l)]=none:=by
 cases l with
 | nil=>exact absurd rfl h
 | cons x r=>rfl
def aKe {l:List Request} (h:l≠[]):Ext.ext 65 [.sl l.length (aC l)]=none:=by
 cases l with
 | nil=>exact absurd rfl h
 | cons x r=>rfl
def a3f (L:Option (List Block)) (M:bg (ol L).length):aA prog 117 [ov aK L]=some (uo 66 238 aK L):=by
 by_cases h:L=some []
 ·subst h;exact (oC _).2 ⟨0,rfl⟩
 ·exact clone func117 WP aVS rfl Fm jo WP rfl rfl ZB yK jA ZB L h (by cases L with|none=>rfl|some l=>exact aKd fun e=>h (by rw[e])) M
def a3g (L:Option (List Block)) (M:bg (ol L).length) (st:St) (d:Nat):aO (aA prog) 117 [ov aK L] st (some d)=some { dst:=some d,val:=rv d (st.aJ d) L,new:=Sl d (rl 66 238 aK L)}:=tZ (bZ (vX L)) (a3f L M)
def c65 (L:Option (List Request)) (M:bg (ol L).length):aA prog 65 [ov aC L]=some (uo 102 35 aC L):=by
 by_cases h:L=some []
 ·subst h;exact (oC _).2 ⟨0,rfl⟩
 ·exact clone func65 WP a3h rfl Ho ZT WP rfl rfl ZB Eg dG ZB L h (by cases L with|none=>rfl|some l=>exact aKe fun e=>h (by rw[e])) M
def k65 (L:Option (List Request)) (M:bg (ol L).length) (st:St) (d:Nat):aO (aA prog) 65 [ov aC L] st (some d)=some { dst:=some d,val:=rv d (st.aJ d) L,new:=Sl d (rl 102 35 aC L)}:=tZ (bZ (fS L)) (c65 L M)
def aVT (a:qX) (V:Option (List Int)) (Y:a.dL=ov aH V) (h:V≠some []) (M:bg (ol V).length):aA prog 116 [au a]=some (au a):=by
 rw[cL func116 rfl aVU rfl];simp only[Z8,seval,Y,aVR V h M,NW];refine jE rfl qq (cs:=iE { a with dL:=rv 5 0 V }) Qbl ?_
 rw[dC,Hk,jU (e:=3) (sz:=1) (c:=aH) (L:=V) ?h (fun l _=>eP l),cC,cC,<- Y]
 case h =>
  intro l W;subst W;simp only[E8,seval,uZ,rl,length_cons,Nat.lt_add_left_iff_pos,Nat.zero_lt_succ,if_true]
end Go.Ab.Tryz
namespace Go.Ab
open Classical
def Bv [Ext] {P:Program} {call:Nat->List AV->Option AV} {ops:Array Oper} {d:Option Nat} {T:Nat} {pos:String} {aft:Array Edge} {st:St} (t:Nat) (args:Array Operand) (A:Array Nat) (g:Nat) (h:st.env t=.v (.func (.func g) #[] #[])):cU P call ops ⟨d,.call ⟨.value (.tmp t),args,A⟩,T,pos,aft,none⟩ st=cT (aO call g (args.toList.map st.ev) st d) fun e=>some (e.apply st):=by
 rw[eB];simp only[dU,iZ,pE,St.ev,h,XM,and_self,if_true,append_nil];cases aO call g (args.toList.map st.ev) st d<;>rfl
end Go.Ab
