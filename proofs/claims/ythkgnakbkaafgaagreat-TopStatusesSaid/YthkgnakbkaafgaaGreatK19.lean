/-
  Part 19 of the proof: an evaluator of programs, its soundness, and what functions of this program compute.
-/
import Derived.Test.YthkgnakbkaafgaaGreatK18
import Derived.Test.YthkgnakbkaafgaaGreatK16
import Derived.Test.YthkgnakbkaafgaaGreatK17
import Derived.Test.YthkgnakbkaafgaaGreatK13
import Derived.Test.YthkgnakbkaafgaaGreatK9
import Derived.Test.YthkgnakbkaafgaaGreatK6
import Derived.Test.YthkgnakbkaafgaaGreatK7
import Derived.WalkKit
import Derived.Lib.Bytealg
import Derived.Lib.BytesEntry
import Derived.Laws.Externs
import Derived.Deep.RegionLaw
import Derived.Deep.RegionWith
import Derived.Shelf.Small.Bits
set_option linter.all false
set_option maxRecDepth 20000
set_option maxHeartbeats 40000000
open Go.IntKind (u64)
open List Go.Proofs.Tryz
noncomputable section
namespace Go.Ab.Tryz
open Classical Go.Proofs Go.Ab
variable {call:Nat->List AV->Option AV} {ops:Array Oper} {st:St} {T g f:Nat} {pos:String} {aft:Array Edge} {c:Config} {b:List Int} {args:List AV} {d:Option Nat} {t:State} {v w:SV} {Q R:Option (List Request)} {ns:List Node} {q m i:Int} {s S:aF} {Y x1 x2 y1:AV} {α β:Type} {fn:Func} {G:ResultVar} {inl:Nat->List AV->St->Option (AV × St)} {kk:IntKind} {P:Program}
structure KZ where
 kind:Int
 zero:Bool
def Tu (s:KZ):List AV:=oF s.kind++rZ s.zero
def Nf (s:KZ):(Tu s).length=2:=rfl
def Jf (l:List KZ):List AV:=l.flatMap Tu
def aGU (l:List KZ):(Jf l).length=l.length * 2:=mL Nf l
def Cb:KZ:=⟨0,false⟩
def tf:List Value:=[.int .i64 0,.bool false]
def tg:tf.map AV.v=Tu Cb:=rfl
def aBP (s:KZ):(Tu s)[0]? = some (aa s.kind):=rfl
def aBQ (s:KZ):(Tu s)[1]? = some (ae s.zero):=rfl
def aPM (s:KZ) (x:Int):dE (Tu s) 0 ([aa x]) 1=Tu { s with kind:=x }:=rfl
def aPN (s:KZ) (x:Bool):dE (Tu s) 1 ([ae x]) 2=Tu { s with zero:=x }:=rfl
def aNM (s:KZ):rd (Tu s) 0 2=Tu s:=rfl
def aNN (s x:KZ):dE (Tu s) 0 (Tu x) 2=Tu x:=rfl
def aGV (cs:List AV) (o:Nat) (h:2<=cs.length-o):gI prog 201 cs o=some (.agg (rd cs o 2)):=by
 have:lJ prog 201=some (true,2):=WP
 simp[gI,this,h]
def th:rK prog 201=some 2:=WP
def TC:bF prog 201 0=some 0:=WP
def TE:bF prog 201 1=some 1:=WP
def tj:eC prog 201=some tf:=WP
def aXv (st:St) (parts:List (Nat × Operand)):wU prog st 201 parts=if (parts.all fun p=>(st.ev p.2).lL)=true then (mP (fun i=>([(0,1),(1,1)]:List (Nat × Nat))[i]?) (Tu Cb) (parts.map fun p=>(p.1,st.ev p.2))).map .agg else none:=iA (z:=tf) WP tg (fC WP)
def toKZ:AV->KZ
 | .agg [.v (.int _ k),.v (.bool z)]=>⟨k,z⟩
 | _=>Cb
def aPO (y:KZ):toKZ (.agg (Tu y))=y:=rfl
def aPP (d:Nat) (a b c e f g:Operand) (h0:st.ev a=.agg (Tu (toKZ (st.ev a)))) (J:st.ev b=.agg (Tu (toKZ (st.ev b)))) (h2:st.ev c=.agg (Tu (toKZ (st.ev c)))) (S:st.ev e=.agg (Tu (toKZ (st.ev e)))) (X:st.ev f=.agg (Tu (toKZ (st.ev f)))) (C:st.ev g=.agg (Tu (toKZ (st.ev g)))) :
 cU prog call ops ⟨some d,.buildSlice 204 6 #[(0,a),(1,b),(2,c),(3,e),(4,f),(5,g)],T,pos,aft,none⟩ st=some ((st.new d (.row 201 2 6 (Jf [toKZ (st.ev a),toKZ (st.ev b),toKZ (st.ev c),toKZ (st.ev e),toKZ (st.ev f),toKZ (st.ev g)]))).put (some d) (.own d (st.aJ d))):=by
 generalize toKZ (st.ev a)=x0 at *
 generalize toKZ (st.ev b)=x1 at *
 generalize toKZ (st.ev c)=x2 at *
 generalize toKZ (st.ev e)=x3 at *
 generalize toKZ (st.ev f)=A at *
 generalize toKZ (st.ev g)=p at *
 rw[gF 204 _ _ _ KH,aGW];have R:((List.range 6).flatMap fun _=>tf.map AV.v)=Jf [Cb,Cb,Cb,Cb,Cb,Cb]:=rfl
 have m:dE (Jf [Cb,Cb,Cb,Cb,Cb,Cb]) 0 (Tu x0) 2=Jf [x0,Cb,Cb,Cb,Cb,Cb]:=rfl
 have W:dE (Jf [x0,Cb,Cb,Cb,Cb,Cb]) 2 (Tu x1) 4=Jf [x0,x1,Cb,Cb,Cb,Cb]:=rfl
 have r:dE (Jf [x0,x1,Cb,Cb,Cb,Cb]) 4 (Tu x2) 6=Jf [x0,x1,x2,Cb,Cb,Cb]:=rfl
 have G:dE (Jf [x0,x1,x2,Cb,Cb,Cb]) 6 (Tu x3) 8=Jf [x0,x1,x2,x3,Cb,Cb]:=rfl
 have u:dE (Jf [x0,x1,x2,x3,Cb,Cb]) 8 (Tu A) 10=Jf [x0,x1,x2,x3,A,Cb]:=rfl
 have D:dE (Jf [x0,x1,x2,x3,A,Cb]) 10 (Tu p) 12=Jf [x0,x1,x2,x3,A,p]:=rfl
 simp only[cC,tj,toList_toArray,map_cons,map_nil,all_cons,all_nil,h0,J,h2,S,X,C,AV.lL,Bool.and_self,uY,yH,AV.cells,Nf,aGU,length_cons,length_nil,R,Nat.reduceMul,Nat.reduceAdd,Nat.reducePow,Nat.reduceLeDiff,Nat.reduceLT,true_or,true_and,and_true,and_self,if_true,↓reduceIte,m,W,r,G,u,D,Nat.zero_le,Nat.le_refl]
def aXw (l:List KZ) (s g:Nat) (i:Int) (h0:0<=i) (J:i<6):Vs 201 2 (some (.row 201 2 6 (Jf l))) s g i=some (.ptr s g (i.toNat * 2)):=by simp[Vs,h0,J]
def x67 (x:uI) (h:rW x):∃r,aA prog 67 [be x]=some r/\∃b:Bool,r=ae b:=by
 have p:=h.fl
 obtain⟨V,hV,nV⟩:=h.Dy
 obtain⟨b,hb,nb,rb⟩:=h.EE
 obtain⟨V1,S,_⟩:=id h.c1
 obtain⟨V2,hV2,_⟩:=id h.c2
 obtain⟨r2,M,p2,rfl⟩:=a5u x.Dy V hV
 obtain⟨r3,C,N,rfl⟩:=aXu x.mQ.first V1 S
 obtain⟨r4,G,p4,rfl⟩:=aXu x.mQ.second V2 hV2
 have k2:=kx M (bZ ((rS _).2 p.1)) (.v _)
 have k3:=kx C (bZ h.c1.fl) (.v _)
 have J:=kx G (bZ h.c2.fl) (.v _)
 rw[dJ prog func67 rfl WP _ (cF _ _) rfl]
 obtain⟨q5,X⟩:∃q,decide (x.table.ck=dO)=q:=⟨_,rfl⟩
 obtain⟨q8,hq8⟩:∃q,(x.write == 0)=q:=⟨_,rfl⟩
 cases N
 all_goals cases q5
 all_goals cases q8
 all_goals
  simp only[Z8,seval,k2,k3,J,X,hq8,hb,aGV,th,TC,TE,tj,aXv,tg,aPM,aPN,Nf,aPP,aPO];refine bP (fun m st=>∃(k:Nat) (l:List KZ),(st.env 1=.ptr 1 0 0/\st.heap 1 0=some (.cells (jJ x))/\st.env 54=.own 53 0/\st.heap 53 0=some (.row 201 2 6 (Jf l))/\st.env 55=aa 6/\st.env 56=aa k)/\k<=6/\l.length=6/\m=6-k)
   (fun e st=>(e=.ret/\st.env 2=ae false)\/e=.exit 0) 6 ?step ?start ?rest
  case step =>
   rintro m st ⟨k,l,D,hk,W,hm⟩
   by_cases A:(k:Int)<6
   case neg =>
    apply oT (.exit 0)
    ·simp only[Z8,seval,D,A];rfl
    ·exact .inr rfl
   have q0:(0:Int)<=k:=WF
   have hw:=wk (k:=k) WF
   have io:=fun s g=>aXw l s g (k:Int) q0 A
   have ld:pB prog 201 (some (.row 201 2 6 (Jf l))) ((k:Int).toNat * 2)=gI prog 201 (Tu (gx Cb l (k:Int))) 0:=Tj (off:=0) Nf q0 (by rw[W];exact A) th ZB ZB
   obtain⟨y,Y⟩:∃y,gx Cb l (k:Int)=y:=⟨_,rfl⟩
   rw[Y] at ld;obtain⟨z,R⟩:∃z,(y.kind != x.kind)=z:=⟨_,rfl⟩
   obtain⟨u,hu⟩:∃u,y.zero=u:=⟨_,rfl⟩
   cases z
   all_goals cases u
   case true.false =>
    apply oT (.ret)
    ·simp only[Z8,seval,D,A,q0,aGX,io,ld,R,hu,aGV,th,TC,TE,tj,tg,aNM,aNN,aBP,aBQ,Nf];rfl
    ·exact .inl ⟨rfl,qb⟩
   all_goals
    apply oN (6-(k+1))
    ·simp only[Z8,seval,D,A,q0,aGX,io,ld,R,hu,aGV,th,TC,TE,tj,tg,aNM,aNN,aBP,aBQ,Nf,hw];rfl
    ·exact⟨k+1,l,qd,WF,W,rfl⟩
  case start=>exact⟨0,_,qz,WF,rfl,rfl⟩
  case rest =>
   rintro e st (⟨rfl,h2⟩|rfl)
   ·simp only[Z8,seval];exact⟨_,bE rfl Qbn (by first|exact .v _|simp only[sB,h2]),_,rfl⟩
   ·simp only[Z8,seval];exact⟨_,bE rfl,_,rfl⟩
def x31 (x:uI) (h:rW x):∃r,aA prog 31 [be x]=some r/\∃e:Int,r=aa e:=by
 have W:=h.flat
 obtain⟨r1,A,o,e,rfl⟩:=x66 x h
 obtain⟨r2,M,b,rfl⟩:=x67 x h
 have C:=kx A (bZ W) (.cY _ (aU (pS _) (.v _)))
 have D:=kx M (bZ W) (.v _)
 rw[dJ prog func31 rfl WP _ (cF _ _) rfl]
 by_cases g1:x.kind<1
 ·simp only[Z8,seval,g1];exact⟨_,bE rfl,_,rfl⟩
 by_cases g2:8<x.kind
 ·simp only[Z8,seval,g1,g2];exact⟨_,bE rfl,_,rfl⟩
 by_cases g3:e=0
 case neg =>
  simp only[Z8,seval,g1,g2,C,bW,bf g3];exact⟨_,bE rfl,_,rfl⟩
 cases b
 ·simp only[Z8,seval,g1,g2,C,bW,bt g3,D];exact⟨_,bE rfl,_,rfl⟩
 ·simp only[Z8,seval,g1,g2,C,bW,bt g3,D];exact⟨_,bE rfl,_,rfl⟩
def aKQ (l c:Operand) {n:Nat} (W:st.ev l=aa n) (G:st.ev c=aa n) (hn:(n:Int)<=1024) :
 cU prog call ops ⟨some 29,.makeSlice 36 l c,T,pos,aft,none⟩ st=some (st.put (some 29) (ov dF (some (List.replicate n nP)))):=by
 have e:((List.range n).flatMap fun _=>y9.map AV.v)=dF (List.replicate n nP):=by rw[TF];exact aFL n
 rw[aGY 36 29 l c W G,T8];simp only[cC,aGb,e];rw[if_pos ⟨WF,xm⟩,PL rfl (mR _),Kz]
 simp only[ov,length_replicate]
def aKR (x:Operand) {t:Table} (h:st.ev x=ax t) (W:Flat t.fL) :
 cU prog call ops ⟨some 40,.buildSlice 50 1 #[(0,x)],T,pos,aft,none⟩ st=some (st.put (some 40) (ov bG (some [t]))):=by
 have R:((List.range 1).flatMap fun _=>Qd.map AV.v)=bG [fW]:=by rw[Tv];rfl
 have m:dE (bG [fW]) 0 (cH t) 34=bG [t]:=wI lY [fW] 0 t ZB
 rw[aGZ 50 1 40,SS];have hs:(AV.agg (cH t)).lL=true:=rfl
 simp only[cC,rz,toList_toArray,map_cons,map_nil,all_cons,all_nil,h,hs,Bool.and_self,uY,yH,AV.cells,lY,Zi,length_cons,length_nil,R,Nat.reduceMul,Nat.reduceAdd,Nat.reducePow,Nat.reduceLeDiff,Nat.reduceLT,true_or,true_and,and_true,and_self,if_true,↓reduceIte,m,Nat.zero_le,Nat.le_refl];rw[PL rfl (jL [t] (by intro y Y;rw[mem_singleton] at Y;subst Y;exact W)),Kz]
 rfl
theorem CP.new {c:Config} {b:List Int} (h:sZ c b):CP (Cq c b) (zI c b):=by
 have h0:=h.nb.1
 refine⟨(GI.new h).sd,(RG.new h).ne,fun e=>?_,fun e=>?_,(GI.new h).pos⟩
 ·have e:some b=some []:=e
  cases e
  exact absurd h0 ZB
 ·have e:some (List.replicate b.length nP)=some []:=e
  have J:(List.replicate b.length nP).length=0:=congrArg (fun o=>(ol o).length) e
  rw[length_replicate] at J;omega
def c28 (h:sZ c b):aA prog 28 [aq c]=some (.cY [bc (Cq c b),aa 0]):=by
 have R:Flat c.fL:=by rw[h.fL];exact cP (some b)
 have A:Flat (aq c):=(mT _).2 R
 have k61:=kx (c61 h) (bZ A) (.v _)
 have M:=kx (c62 (YX c) 1) (aU (lF _) (.v _)) (gZ _)
 have C:=CP.new h
 have hn:=h.nb
 have X:((ol (some b)).length:Int)<=1024:=Qbp
 have S:=fun (call:Nat->List AV->Option AV) (ops:Array Oper) (st:St) (T:Nat) (pos:String) (aft:Array Edge) (l c:Operand) (W:st.ev l=aa ((ol (some b)).length)) (G:st.ev c=aa ((ol (some b)).length))=>aKQ (call:=call) (ops:=ops) (st:=st) (T:=T) (pos:=pos) (aft:=aft) l c W G X
 rw[dJ prog func28 rfl WP _ (cF _ _) rfl]
 refine eM ?_
 have hb:=h.fL
 have p:=C.sd.flat
 have J:∀st,aO (Oo (Ro 63 43) (aA prog)) 63 [bc (Cq c b)] st (some 43)=some { dst:=some 43,val:=bc (Cq c b)}:=fun st=>by
  rw[LD C (Ro 63 43) (m:=[]) st 43,(ZY C.sd 43 _).1,(ZY C.sd 43 (st.aJ 43)).2]
  rfl
 unfold Cq at J p
 unfold YX at M J p
 have r:=fun (call:Nat->List AV->Option AV) (ops:Array Oper) (st:St) (T:Nat) (pos:String) (aft:Array Edge) (x:Operand) (N:st.ev x=ax ⟨⟨0,c.fR⟩,ov bD (some b)⟩)=>aKR (call:=call) (ops:=ops) (st:=st) (T:=T) (pos:=pos) (aft:=aft) x N (cP (some b))
 have u:dO.aG=0:=rfl
 have D:eU.dI.dM=af/\eU.bH=Ag/\eU.now=0/\eU.dY=bQ:=⟨rfl,rfl,rfl,rfl⟩
 have Y:wC.dM=af:=rfl
 simp only[Z8,seval,k61,M,u,D,Y,h.fL,dK,mF,mG,S,r,J];exact⟨_,by apply bT;rfl;all_goals simp only[aI,bC,Z8,seval,p]<;>rfl,rfl⟩
def kr (g:Nat):Bool:=g == 29 || g == 32 || g == 8 || g == 9 || g == 14 || g == 12 || g == 13 || g == 3
def A0 (g d:Nat):Bool:=g == 14 && d == 7
def Ek:Nat->Nat->Option Nat->List (Nat × Nat)
 | 6,5,some 22=>[(1,3)]
 | a,b,c=>iW a b c
noncomputable abbrev E1:Ext:=inferInstance
@[reducible] def E2:Ext where
 mv:=fun _=>false
 oM:=fun _=>false
 B1:=fun _ _=>false
 inl:=fun g d=>A0 g (d.getD 0)
 dyn:=Ek
 pa:=fun _ _=>false
 va:=fun _ _=>false
 ext:=fun g xs=>bif kr g then none else @aA E1 prog g xs
 fz:=fun g _=>bif g == 30 then some [] else none
def c2 {xs:List AV} {r:AV} (h:@aA E1 prog g xs=some r) (ht:kr g=false:=by rfl):@aA E2 prog g xs=some r :=
 @Fz E2 prog _ _ _ qg
def TG {r:AV} (h:@aA E1 prog g args=some r) (W:∀x∈args,Flat x) (X:Flat r) (D:kr g=false:=by rfl):∀(st:St) (d:Option Nat),aO (@aA E2 prog) g args st d=some { dst:=d,val:=r }:=fun st d=>aX W (c2 h D) X
def gD (g:Nat) (args:Array Operand) (A:Array Nat) (h:(g == 30)=false) :
 @cU prog E2 call ops ⟨d,.call ⟨.value (.func g),args,A⟩,T,pos,aft,none⟩ st=cT (aO call g (args.toList.map st.ev) st d) fun e=>some (e.apply st) :=
 @aBT E2 prog call ops st d T pos aft g args A rfl rfl qg
def kN (args:Array Operand) (A:Array Nat) :
 @cU prog E2 call ops ⟨d,.call ⟨.value (.func 30),args,A⟩,T,pos,aft,none⟩ st=cT (aO (Oo [] call) 30 (args.toList.map st.ev) st d) fun e=>some (e.apply st) :=
 @GO E2 prog call ops st d T pos aft 30 args A rfl rfl
def aPQ (h:TD t v Q R) (G:CP t.store v) (st:St) (d:Nat):aO (Oo [] (@aA E2 prog)) 30 [bd t] st (some d)=some { dst:=some d,val:=bd t}:=by
 have e:=aO8 h G [] (b1:=false) (b2:=false) st d
 have A:Oo [] (@aA E2 prog) 30 [bd t]=Oo [] (@aA E1 prog) 30 [bd t]:=by
  unfold Oo;rw[c2 (c30 h G),c30 h G]
 have W:∀x∈[AV.agg (aE t)],Flat x:=bZ h.flat
 unfold aO at e ⊢
 rw[if_pos W] at e ⊢;rw[A,e];simp only[pv,pr,cond_false,append_nil,<- h.Nx,<- h.ret];rfl
def Wy:Code:=iP (Tryz.f68.body.getD .skip)
def TiI (p:Config) (ns:List Node) (E:Option (List qX)) (q:Int) (m:Nat) (st:St):Prop:=∃(k:Nat) (S:aF) (w:SV) (a g:Nat),(st.env 4=.ptr 4 0 0/\st.heap 4 0=some (.cells (aB (nI S (rv a g w.E))))/\st.env 2=.ptr 2 0 0/\st.heap 2 0=some (.cells (aB eU))/\st.env 42=ov cN E/\st.env 43=aa ((ol E).length)/\st.env 44=aa k)/\(∀l,w.E=some l->st.heap a g=some (.row 68 67 l.length (cN l)))/\(a=58\/a=71)/\g<st.aJ a+1/\KI (nI S (ov cN w.E)) w q/\S.cFg=p/\w.ns=ns/\(ol w.E).length<=k/\k<=(ol E).length/\m=(ol E).length-k
def ku (p:Config) (ns:List Node) (q:Int) (e:Ex) (st:St):Prop:=e=.exit 0/\∃(S:aF) (w:SV) (a g:Nat),(st.env 4=.ptr 4 0 0/\st.heap 4 0=some (.cells (aB (nI S (rv a g w.E))))/\st.env 2=.ptr 2 0 0/\st.heap 2 0=some (.cells (aB eU)))/\(∀l,w.E=some l->st.heap a g=some (.row 68 67 l.length (cN l)))/\(a=58\/a=71)/\KI (nI S (ov cN w.E)) w q/\S.cFg=p/\w.ns=ns
def aNP {p:Config} {E:Option (List qX)} (M:∀a∈ol E,Dh a) (hEr:∀a∈ol E,Rg a.slot) (hEa:∀a∈ol E,∃V,a.dL=ov aH (some V)/\V≠[]) (hEv:∀a∈ol E,∃V,a.dL=ov aH (some V)/\vM V (jt p.fL)=0) (nE:((ol E).length:Int)<=p.lim.mK) (nE':((ol E).length:Int)<900000) {m:Nat} (hs:TiI p ns E q m st):∃e st',wP prog Wy st=some (e,st')/\ku p ns q e st':=by
 have key:∃r,cT (wP prog Wy st) some=some r/\ku p ns q r.1 r.2:=by
  unfold Wy;simp only[Tryz.f68,Option.getD_some,iP];refine bP (TiI p ns E q) (ku p ns q) m ?step ?start ?rest
  case start=>exact hs
  case rest=>exact fun e st h=>⟨_,rfl,h⟩
  case step =>
   clear hs
   rintro m st ⟨k,S,w,a,g,D,hX,Y,hg,C,W,hN,hF,hk,hm⟩
   have eq:(∀x,(nI S x).bH.early=x)/\(∀x y,({ nI S x with bH:={ (nI S x).bH with early:=y }}:aF)=nI S y)/\(∀x,(nI S x).now=S.now):=⟨fun _=>rfl,fun _ _=>rfl,fun _=>rfl⟩
   by_cases bB:(k:Int)<(ol E).length
   case neg =>
    apply oT (.exit 0)
    ·simp only[Z8,seval,D,bB];rfl
    ·exact⟨rfl,S,w,a,g,qd,vm,Y,C,W,hN⟩
   have q0:(0:Int)<=k:=WF
   have hw:=wk (k:=k) WF
   obtain⟨b,eb⟩:∃b,gx Sz (ol E) (k:Int)=b:=⟨_,rfl⟩
   have hm:b∈ol E:=by rw[<- eb];exact lB q0 bB
   obtain⟨V,hV,nV⟩:=id (M b hm)
   have R:Flat (au b):=(rS b).2 (M b hm).fl
   have A:(4=a)=False/\(2=a)=False/\(a=4)=False/\(a=2)=False/\(a=8)=False/\(8=a)=False/\(a=57)=False:=by rcases Y with rfl|rfl<;>simp
   have one:∀ {P:qX->Prop} (F:Option (List qX)),(∀x∈ol F,P x)->P b->∀x∈ol F++[b],P x:=fun F J h2 x N=>(mem_append.1 N).elim (J x) fun e=>by rw[mem_singleton.1 e];exact h2
   have hEb:∃V,b.dL=ov aH (some V)/\vM V (ol w.B).length=0:=by rw[<- CD,show ov bD w.B=p.fL by rw[<- W];exact C.gi.sd.fL.symm];exact hEv b hm
   have r:=C.rg
   have K1:KI (nI S (ov cN (some (ol w.E++[b])))) { w with E:=some (ol w.E++[b])} q:=C.early (some (ol w.E++[b])) (one w.E C.gi.sd.eV (M b hm)) (by rw[dK,length_append,length_singleton];show _<=S.cFg.lim.mK;rw[W];omega) qe (one w.E r.ne.ea (hEa b hm)) (one w.E r.vs.ea hEb) (one w.E C.es.1 (hEr b hm))
   by_cases g1:S.now<=b.slot
   ·cases TH:w.E with
    | none =>
      rw[TH,nJ] at D;rw[TH] at K1;have an1:=CE b
      apply oN ((ol E).length-(k+1))
      ·simp only[Z8,seval,D,A,bB,q0,eb,eq,g1,R,an1,hw];rfl
      ·exact⟨k+1,S,{ w with E:=some [b]},58,st.aJ 58,by rw[iL];simp only[E8,seval,D]<;>and_intros<;>rfl,fun l e=>wz,.inl rfl,Yo,K1,W,hN,by show 1<=k+1;omega,WF,rfl⟩
    | some L =>
      rw[TH,iL] at D;rw[TH] at K1 hF;have J:=hX L TH
      have hF:L.length<=k:=hF
      have nL:bg L.length:=WF
      apply oN ((ol E).length-(k+1))
      ·simp only[Z8,seval,D,A,J,bB,q0,eb,eq,g1,R,Mq _ _ _ _ nL,hw];rfl
      ·exact⟨k+1,S,{ w with E:=some (L++[b])},58,st.aJ 58,by rw[iL];simp only[E8,seval,D,A]<;>and_intros<;>rfl,fun l e=>wz,.inl rfl,Yo,K1,W,hN,by show (L++[b]).length<=k+1;rw[length_append,length_singleton];omega,WF,rfl⟩
   have fE:=C.gi.sd.flat
   have c133':=aWH C.gi.sd C.gi.up C.gi.Nv C.gi.iH ⟨r.now.1,iw⟩ b (hEr b hm) V hV nV
   have yU:∀(st:St) (d:Option Nat),(∀l,w.E=some l->st.heap a g=some (.row 68 67 l.length (cN l)))->aO (aA prog) 133 [bc (nI S (rv a g w.E)),au b] st d=some { dst:=d,val:=.cY [ae ((vZ (nI S (ov cN w.E)) w b (ol V)).1),aa ((vZ (nI S (ov cN w.E)) w b (ol V)).2)]}:=fun st d u=>by
    have e:Rp st (aB (nI S (rv a g w.E)))=some (aB (nI S (ov cN w.E))):=aBF C.gi.sd (jU u fun l e=>(by have h4:Flat (ov cN w.E):=C.gi.sd.fl.2.2.2.1;rw[e] at h4;cases h4;assumption))
    rw[dZ,map_cons,map_cons,map_nil,dC,e,cC,cV R,aM,aM,dB];exact RA c133' (by intro x N;simp only[mem_cons,not_mem_nil,or_false] at N;rcases N with rfl|rfl<;>exact .v _) (.cY _ (aU (.v _) (.v _)))
   obtain⟨c,G⟩:∃c,vZ (nI S (ov cN w.E)) w b (ol V)=c:=⟨_,rfl⟩
   rw[G] at yU
   by_cases g2:c.2=0
   case neg =>
    cases TH:w.E
    all_goals
     rw[TH] at D yU
     simp only[nJ,iL] at D yU
    ·apply oN ((ol E).length-(k+1))
     ·simp only[Z8,seval,D,A,bB,q0,eb,eq,g1,yU _ _ nofun,bW,bf g2,hw];rfl
     ·exact⟨k+1,S,w,a,g,by rw[TH,nJ];simp only[E8,seval,D,A]<;>and_intros<;>rfl,fun l e=>(by rw[TH] at e;cases e),Y,by simp only[E8,seval,A,if_false]<;>omega,C,W,hN,WF,WF,rfl⟩
    ·rename_i L;have J:=hX L TH
     have W5:∀(st:St) (d:Option Nat),st.heap a g=some (.row 68 67 L.length (cN L))->_:=fun st d h=>yU st d fun l e=>om
     apply oN ((ol E).length-(k+1))
     ·simp only[Z8,seval,D,A,J,bB,q0,eb,eq,g1,W5,bW,bf g2,hw];rfl
     ·exact⟨k+1,S,w,a,g,by rw[TH,iL];simp only[E8,seval,D,A]<;>and_intros<;>rfl,fun l e=>(by rw[TH] at e;cases e;simp only[E8,seval,A,J]),Y,by simp only[E8,seval,A,if_false]<;>omega,C,W,hN,WF,WF,rfl⟩
   obtain⟨Lt,hvL,_⟩:=C.L
   have X:∀x∈ol V,0<=x/\x<(ol w.L).length:=by rw[C.gi.Wg];exact EM (Kg (by rw[G];exact g2))
   have aPR:=aV8 C.cp Lt hvL b V hV nV X
   have K2:=C.cast b (ol V)
   obtain⟨w',YR⟩:∃w':SV,{ w with L:=some (pZ (ol w.L) b.target.aG b.root (ol V)).1 }=w':=⟨_,rfl⟩
   have wE:w'.E=w.E:=by rw[<- YR]
   have wN:w'.ns=ns:=by rw[<- YR];exact hN
   have c2:(Ec (nI S (ov cN w.E)) w b (ol V)).cFg=p:=W
   have u2:nI (Ec (nI S (ov cN w.E)) w b (ol V)) (ov cN w.E)=Ec (nI S (ov cN w.E)) w b (ol V):=rfl
   obtain⟨S2,hS2⟩:∃S2,Ec (nI S (ov cN w.E)) w b (ol V)=S2:=⟨_,rfl⟩
   rw[YR] at K2 aPR;rw[hS2] at K2 aPR c2 u2;have aKS:∀(st:St),(∀l,w.E=some l->st.heap a g=some (.row 68 67 l.length (cN l)))->eH (Oo (Ro 134 71) (aA prog)) 134 [bc (nI S (rv a g w.E)),au b] st (some 71)=some { dst:=some 71,val:=bc (nI S2 (rv 71 (st.aJ 71) w.E)),dE:=gw w.E a g,new:=Sl 71 (rl 68 67 cN w.E)}:=fun st u=>by
    have z:zV S2 w' [113] 71 (st.aJ 71)=nI S2 (rv 71 (st.aJ 71) w'.E)/\zR w' [113]=rl 68 67 cN w'.E:=aV3 K2.gi.sd 71 _
    have e:eH (Oo (Ro 134 71) (aA prog)) 134 [bc (nI S (rv a g w.E)),au b] st (some 71)=_:=a4x K2.gi.sd (S:=S) (O:=w.E) (m:=[113]) C.gi.sd.flat (bZ R) aPR u
    rw[z.1,z.2,wE] at e;exact e
   have K3:KI (nI S2 (ov cN w'.E)) w' q:=by rw[wE,u2];exact K2
   have ap:∀(y:AV) (es:List mH) (st:St),({ dst:=some 71,val:=y,dE:=gw w.E a g,new:=Sl 71 es }:rI).apply st=(((Zf w.E a g st).news 71 es)).put (some 71) y:=fun y es st=>yS w.E a g 71 (some 71) y es st
   cases TH:w.E
   all_goals
    rw[TH] at D yU aKS ap
    simp only[nJ,iL] at D yU aKS
   ·apply oN ((ol E).length-(k+1))
    ·simp only[Z8,seval,D,A,bB,q0,eb,eq,g1,yU _ _ nofun,bW,bt g2,aKS _ nofun,ap,NW,iX,jK,jX,(show rl 68 67 cN (none:Option (List qX))=[] from rfl),Zf,Bl,hw]
     rfl
    ·exact⟨k+1,S2,w',71,0,by rw[wE,TH,nJ];simp only[E8,seval,NW,D,A]<;>and_intros<;>rfl,fun l e=>(by rw[wE,TH] at e;cases e),.inr rfl,WF,K3,c2,wN,by rw[wE];omega,WF,rfl⟩
   ·rename_i L;have J:=hX L TH
    have W5:∀(st:St) (d:Option Nat),st.heap a g=some (.row 68 67 L.length (cN L))->_:=fun st d h=>yU st d fun l e=>om
    have e134':∀(st:St),st.heap a g=some (.row 68 67 L.length (cN L))->_:=fun st h=>aKS st fun l e=>om
    apply oN ((ol E).length-(k+1))
    ·simp only[Z8,seval,D,A,J,bB,q0,eb,eq,g1,W5,bW,bt g2,e134',ap,NW,Zf,iC,hw];rfl
    ·exact⟨k+1,S2,w',71,st.aJ 71,by rw[wE,TH,iL];simp only[E8,seval,NW,D,A]<;>and_intros<;>rfl,fun l e=>(by rw[wE,TH] at e;cases e;simp only[E8,seval,NW,A,J,Nat.le_refl,Nat.sub_self]<;>rfl),.inr rfl,by simp only[E8,seval,NW,A,if_false]<;>omega,K3,c2,wN,by rw[wE];omega,WF,rfl⟩
 obtain⟨⟨e,st'⟩,J,h2⟩:=key
 exact⟨e,st',by
  cases h3:wP prog Wy st with
  | none=>rw[h3] at J;cases J
  | some y=>rw[h3] at J;exact J,h2⟩
def c68 (k:KI s v q):∃x,aA prog 68 [bc s]=some x/\jz s v q x:=by
 have hs:=k.gi.sd
 have R:=sI
 have r:=k.rg
 rw[cL func68 rfl a5w rfl];by_cases g1:1099511627776<=s.now
 ·simp only[Z8,seval,g1];exact⟨_,qh,eU,3,rfl,R,ZB,fun h=>wu⟩
 have hw:u64.wrap (s.now+1)=s.now+1:=wrap_u64 _ (by have:=r.now.1;omega) iw
 have K:=k.late WF
 have nE:=k.gi.nE
 have KU:=k.gi.KU
 have hEv:∀a∈ol v.E,∃V,a.dL=ov aH (some V)/\vM V (jt s.cFg.fL)=0:=by rw[hs.fL,CD];exact r.vs.ea
 have J:=fun st=>(LD k.cp (Ro 63 16) (m:=[]) st 16).trans (by rw[(ZY hs 16 (st.aJ 16)).1,(ZY hs 16 (st.aJ 16)).2])
 have lt:({ s with now:=s.now+1,dY:=bQ }:aF)=Ga s:=rfl
 have ln:(Ga s).now=s.now+1/\(Ga s).cFg=s.cFg:=⟨rfl,rfl⟩
 have N:=a4z (s.now+1) s.cFg.iH k.gi.iH
 have fin:∀(S:aF) (w:SV) (a g:Nat) (st':St),KI (nI S (ov cN w.E)) w q->(∀l,w.E=some l->st'.heap a g=some (.row 68 67 l.length (cN l)))->eE st' (bc (nI S (rv a g w.E)))=some (bc (nI S (ov cN w.E))):=fun S w a g st' C G=>by
  have e:Rp st' (aB (nI S (rv a g w.E)))=some (aB (nI S (ov cN w.E))):=aBF C.gi.sd (jU G fun l e=>(by have X:Flat (ov cN w.E):=C.gi.sd.fl.2.2.2.1;rw[e] at X;cases X;assumption))
  rw[dC,e];rfl
 by_cases g2:(s.now+1).tmod s.cFg.iH=0
 case neg =>
  have A:(Ga s).bH.early=ov cN v.E:=hs.early
  have K0:KI (nI (Ga s) (ov cN none)) { v with E:=none } q:=K.early none nofun (by show ((0:Nat):Int)<=s.cFg.lim.mK;omega) nofun nofun nofun nofun
  simp only[Z8,seval,g1,J,hw,N,bf g2,NW,Bl,hs.early];refine yP (a:=Wy) (ku s.cFg v.ns q) (aNP (E:=v.E) hs.eV k.es.1 r.ne.ea hEv WF WF (m:=(ol v.E).length) ⟨0,Ga s,{ v with E:=none },58,0, ?s1,nofun,.inl rfl,WF,K0,rfl,rfl,by show 0<=0;omega,WF,WF⟩) ?rest
  case s1=>rw[nJ];simp only[E8,seval,NW]<;>and_intros<;>rfl
  case rest =>
   rintro e st ⟨rfl,S,w,a,g,D,G,Y,C,W,hN⟩
   have a2:(a=2)=False:=by rcases Y with rfl|rfl<;>simp
   simp only[Z8,seval,D];refine⟨_,bT rfl (x1:=bc (nI S (rv a g w.E))) ?ya (x2:=aa 0) ?yb (fin S w a g _ C fun l e=>?yx) (cV (.v _)),_,0,rfl,C.gi.sd.flat,ZB,fun _=>⟨w,C,W,hN ▸ NR.refl _⟩⟩
   case ya=>simp only[bC,Z8,seval,D]
   case yb=>simp only[bC,Z8,seval,D]
   case yx=>simp only[E8,seval,a2,G l e,false_and,if_false]
 have pv:=aBq fun n M=>(K.rg.nd n M).1
 have k131':=a3J K.gi.sd
 have U:=K.dE pv.1 pv.2
 have h132:=aPf K.gi K.rg K.cp (tP v.ns).pj (tP v.ns).pf pv.1 pv.2
 have uE:(LG (Ga s) v (tP v.ns).pj (tP v.ns).pf).E=v.E:=aGu ..
 have uN:NR v.ns (LG (Ga s) v (tP v.ns).pj (tP v.ns).pf).ns:=(NR.refl _).sub (sj.dE _ _ _ _)
 have uC:(SW (Ga s) v (tP v.ns).pj (tP v.ns).pf).cFg=s.cFg:=qA (Ga s) v _ _
 obtain⟨S1,hS1⟩:∃S1,SW (Ga s) v (tP v.ns).pj (tP v.ns).pf=S1:=⟨_,rfl⟩
 obtain⟨u,p⟩:∃u,LG (Ga s) v (tP v.ns).pj (tP v.ns).pf=u:=⟨_,rfl⟩
 rw[hS1,p] at U h132;rw[hS1] at uC;rw[p] at uE uN;have k132':=fun st=>(kz U.gi.sd (l':=Ro 132 36) (m:=[]) (jC K.gi.sd.flat (.agg _ (cM _)) (.agg _ (cM _))) h132 st 36).trans (by rw[(ZY U.gi.sd 36 (st.aJ 36)).1,(ZY U.gi.sd 36 (st.aJ 36)).2])
 have A:S1.bH.early=ov cN v.E:=uE ▸ U.gi.sd.early
 have K0:KI (nI S1 (ov cN none)) { u with E:=none } q:=U.early none nofun (by show ((0:Nat):Int)<=S1.cFg.lim.mK;rw[uC];omega) nofun nofun nofun nofun
 simp only[Z8,seval,g1,J,hw,N,bt g2,lt,ln,k131',k132',NW,Bl,A];refine yP (a:=Wy) (ku s.cFg u.ns q) (aNP (E:=v.E) hs.eV k.es.1 r.ne.ea hEv WF WF (m:=(ol v.E).length) ⟨0,S1,{ u with E:=none },58,0, ?t1,nofun,.inl rfl,WF,K0,uC,rfl,by show 0<=0;omega,WF,WF⟩) ?Bq
 case t1=>rw[nJ];simp only[E8,seval,NW]<;>and_intros<;>rfl
 case Bq =>
  rintro e st ⟨rfl,S,w,a,g,D,G,Y,C,W,hN⟩
  have a2:(a=2)=False:=by rcases Y with rfl|rfl<;>simp
  simp only[Z8,seval,D];refine⟨_,bT rfl (x1:=bc (nI S (rv a g w.E))) ?za (x2:=aa 0) ?zb (fin S w a g _ C fun l e=>?zx) (cV (.v _)),_,0,rfl,C.gi.sd.flat,ZB,fun _=>⟨w,C,W,hN ▸ uN⟩⟩
  case za=>simp only[bC,Z8,seval,D]
  case zb=>simp only[bC,Z8,seval,D]
  case zx=>simp only[E8,seval,a2,G l e,false_and,if_false]
def Qi:Code:=iP (Tryz.f71.body.getD .skip)
def aG1 (k:KI S w q):aA prog 141 [ov aK w.O,.rL 142 [.ip (aB (lI S (ov aK w.O))) 0]]=some (aa (Fj w)):=by
 have hs:=k.gi.sd
 have W:Flat (.ip (aB (lI S (ov aK w.O))) 0):=.ip _ _ (by cases (k.Sp (O:=w.O) (List.Sublist.refl _)).gi.sd.flat;assumption)
 have h:=aFw w.O hs.nO 142 [.ip (aB (lI S (ov aK w.O))) 0] (fun x=>decide (0<=aD w.ns x.parent)) fun x _ st d=>aX (aU (lF x) W) (a4d hs x _) (.v _)
 unfold Fj;simpa only[decide_eq_true_eq] using h
def A3 (hs:SD s v) (O:Option (List Block)):∀y∈aB (lI s (ov aK O)),NI y :=
 Kq (P:=NI) (fun _=>.mem) s (b:=s.cFg.fL) (l:=s.dI.cJ) (q:=s.dI.dM) (e:=s.bH.early) (o:=ov aK O) (n:=s.tree.nodes) (t:=s.tables) (hs.fL ▸ Iw _ _) (hs.cJ ▸ Iw _ _) (hs.dM ▸ Iw _ _) (hs.early ▸ Iw _ _) (Iw _ _) (by rw[hs.tree];exact fun a o e=>bz) (hs.tables ▸ Iw _ _)
def TJ (hs:SD s v) {X:AV} (h:cO st X=some Y):Rp st (aB (lI s X))=some (aB (lI s Y)):=by
 have fl:=hs.fl
 rw[fV];simp only[lI,bY fl.1,bY fl.2.1,bY fl.2.2.1,bY fl.2.2.2.1,bY fl.2.2.2.2.2.1,bY fl.2.2.2.2.2.2,cC,h]
def aNQ (k:KI S w q) {L:List Block} (hw:w.O=some L) (a g:Nat) (st:St) (d:Option Nat) (X:st.heap 4 0=some (.cells (aB (lI S (.own a g))))) (hO:st.heap a g=some (.row 66 238 L.length (aK L))):aO (aA prog) 141 [.own a g,.rL 142 [.ptr 4 0 0]] st d=some { dst:=d,val:=aa (Fj w)}:=by
 have N:cO st (.own a g)=some (ov aK (some L)):=Go.Ab.lR hO (jA L)
 have e:=Na (TJ k.gi.sd N) (A3 k.gi.sd _)
 have h:=aG1 k
 rw[hw] at h;rw[dZ,map_cons,map_cons,map_nil,show eE st (.own a g)=some (ov aK (some L)) from Bz hO (jA L),kM,X,show Fx st (some (.cells (aB (lI S (.own a g))))) 0=some (.ip (aB (lI S (ov aK (some L)))) 0) from by unfold Fx;simp only[e,cR],Option.map_some,aM,aM,dB]
 exact zP h
def aXy (k:KI S w q) (hw:w.O=none) (st:St) (d:Option Nat) (X:st.heap 4 0=some (.cells (aB (lI S af)))):aO (aA prog) 141 [af,.rL 142 [.ptr 4 0 0]] st d=some { dst:=d,val:=aa (-1)}:=by
 have e:=Na (TJ k.gi.sd (st:=st) (bY (Flat.v (.slice none 0 0)))) (A3 k.gi.sd none)
 have h:=aG1 k
 rw[hw] at h;have J:Fj w=-1:=by unfold Fj;rw[hw];rfl
 rw[J] at h;rw[dZ,map_cons,map_cons,map_nil,xA,kM,X,show Fx st (some (.cells (aB (lI S af)))) 0=some (.ip (aB (lI S (ov aK none))) 0) from by unfold Fx;simp only[e,cR];rfl,Option.map_some,aM,aM,dB]
 exact zP h
def BlI (s:aF) (v:SV) (q:Int) (m:Nat) (st:St):Prop:=∃(S:aF) (w:SV) (a g:Nat) (R:List bU) (ra rg:Nat),(st.env 4=.ptr 4 0 0/\st.heap 4 0=some (.cells (aB (lI S (rv a g w.O))))/\st.env 5=.own ra rg/\st.heap ra rg=some (.row 29 32 R.length (fN R)))/\(∀l,w.O=some l->st.heap a g=some (.row 66 238 l.length (aK l)))/\(a=59\/a=88\/a=97)/\g<st.aJ a+1/\(ra=66\/ra=102)/\rg<st.aJ ra/\KI S w q/\NR v.ns w.ns/\(∀o∈ol w.O,o∈ol v.O)/\S.cFg=s.cFg/\R.length+(ol w.O).length<=1+(ol v.O).length/\m=(ol w.O).length
def dg (s:aF) (v:SV) (q:Int) (e:Ex) (st:St):Prop:=e=.ret/\∃(S:aF) (w:SV) (a g:Nat) (R:List bU) (ra rg:Nat),(st.env 4=.ptr 4 0 0/\st.heap 4 0=some (.cells (aB (lI S (rv a g w.O))))/\st.env 5=.own ra rg/\st.heap ra rg=some (.row 29 32 R.length (fN R))/\st.env 6=aa 0)/\(∀l,w.O=some l->st.heap a g=some (.row 66 238 l.length (aK l)))/\KI S w q/\NR v.ns w.ns/\S.cFg=s.cFg/\R.length<=1+(ol v.O).length
def aXz (k0:KI s v q) {m:Nat} (hs:BlI s v q m st):∃e st',wP prog Qi st=some (e,st')/\dg s v q e st':=by
 have nO0:=k0.gi.nO
 have AH:=k0.gi.AH
 have key:∃r,cT (wP prog Qi st) some=some r/\dg s v q r.1 r.2:=by
  unfold Qi;simp only[Tryz.f71,Option.getD_some,iP];refine bP (BlI s v q) (dg s v q) m ?step ?start ?rest
  case start=>exact hs
  case rest=>exact fun e st h=>⟨_,rfl,h⟩
  case step =>
   clear hs
   rintro m st ⟨S,w,a,g,R,ra,rg,D,hO,ha,hg,hra,hrg,k,Y,aFj,W,hR,hm⟩
   have oq:(∀x,(lI S x).bH.bL=x)/\∀x y,({ lI S x with bH:={ (lI S x).bH with bL:=y }}:aF)=lI S y:=⟨fun _=>rfl,fun _ _=>rfl⟩
   have ra4:(ra=4)=False:=eq_false WF
   have aG3:(ra=10)=False:=eq_false WF
   have a4:(a=4)=False:=eq_false WF
   have A:(4=a)=False/\(a=10)=False/\(10=a)=False/\(ra=a)=False/\(ra=88)=False:=⟨eq_false WF,eq_false WF,eq_false WF,eq_false WF,eq_false WF⟩
   cases hw:w.O with
   | none =>
     rw[hw,nJ] at D;apply oT (.ret)
     ·simp only[Z8,seval,D,oq,aXy k hw];rfl
     ·exact⟨rfl,S,w,a,g,R,ra,rg,by rw[hw,nJ];simp only[E8,seval,D,ra4,false_and,if_false]<;>and_intros<;>rfl,fun l e=>(by rw[hw] at e;cases e),k,Y,W,WF⟩
   | some L =>
     rw[hw,iL] at D;rw[hw,dK] at hm hR;have J:=hO L hw
     by_cases bB:0<=Fj w
     case neg =>
      have bB:Fj w<0:=WF
      apply oT (.ret)
      ·simp only[Z8,seval,D,oq,J,aNQ k hw,bB];rfl
      ·exact⟨rfl,S,w,a,g,R,ra,rg,by rw[hw,iL];simp only[E8,seval,D,ra4,false_and,if_false]<;>and_intros<;>rfl,fun l e=>(by rw[hw] at e;cases e;simp only[E8,seval,a4,false_and,if_false,J]),k,Y,W,WF⟩
     obtain⟨i,hi,hip,hiw⟩:∃i:Nat,i<L.length/\0<=aD w.ns (gx gQ L i).parent/\Fj w=i:=by
      rcases lA (fun k=>0<=aD w.ns (gx gQ (ol w.O) k).parent) (ol w.O).length with ⟨e,_⟩|⟨i,J,h2,_,h3⟩
      ·have:Fj w=-1:=e;omega
      ·rw[hw] at J h2;exact⟨i,J,h2,h3⟩
     have C:bg L.length:=by have:=k.gi.nO;rw[hw,dK] at this;rw[W] at this;omega
     have q0:(0:Int)<=i:=WF
     have q1:(i:Int)<(L.length:Int):=WF
     have q2:¬(i:Int)<0:=WF
     have O3:=wk (k:=i) WF
     obtain⟨x,N⟩:∃x,gx gQ L (i:Int)=x:=⟨_,rfl⟩
     have hxm:x∈ol w.O:=by rw[hw,<- N];exact lB q0 q1
     obtain⟨M,hM⟩:∃M,L.take i++L.drop (i+1)=M:=⟨_,rfl⟩
     have hMl:M.length+1=L.length:=by rw[<- hM,length_append,length_take,length_drop];omega
     have hMs:M.Sublist L:=by rw[<- hM];exact (List.Sublist.append_left (List.drop_sublist_drop_left L (Nat.le_succ i)) _).trans (by rw[take_append_drop];exact List.Sublist.refl _)
     have hd:=a3v L i (i+1) WF WF C
     rw[hM] at hd;have km:∀s g d c,B3 (aA prog) 143 [aa i,aa ((i+1:Nat):Int)] s g d c (some (.row 66 238 L.length (aK L)))=_:=fun s g d c=>Sx (jA L) (aU (.v _) (.v _)) hd
     have ld:=EW (T:=66) (n:=L.length) (k:=238) q0 q1 pq ZB ZB
     have aG4:=aNQ k hw
     rw[hiw] at aG4
     have K1:KI (lI S (ov aK (some M))) { w with O:=some M } q:=k.Sp (by rw[hw];exact hMs)
     have rx:=k.rg.or x hxm
     have zQ:∀(g':Nat) (st:St) (d:Option Nat),st.heap 88 g'=some (.row 66 238 M.length (aK M))->aO (aA prog) 139 [bc (lI S (.own 88 g')),ah x] st d=some { dst:=d,val:=aa (sW (lI S (ov aK (some M))) { w with O:=some M } x)}:=fun g' st d u=>by
      rw[dZ,map_cons,map_cons,map_nil,yL k.gi.sd st u,cV (lF x),aM,aM,dB];exact zP (aVK K1.gi K1.rg x rx.1.sl)
     obtain⟨c,hcv⟩:∃c,sW (lI S (ov aK (some M))) { w with O:=some M } x=c:=⟨_,rfl⟩
     rw[hcv] at zQ
     by_cases G:c=0
     case neg =>
      apply oN (M.length)
      ·simp only[Z8,seval,D,A,a4,ra4,aG3,oq,J,aG4,q0,q1,q2,O3,ld,N,km,zQ,bf G];rfl
      ·exact⟨lI S (ov aK (some M)),{ w with O:=some M },88,st.aJ 88,R,ra,rg,by simp only[E8,seval,D,A,a4,ra4,aG3,iL,false_and,if_false]<;>and_intros<;>rfl,fun l e=>wz,.inr (.inl rfl),Yo,hra,by simp only[E8,seval,A,aG3,if_false];exact hrg,K1,Y,fun o p=>aFj o (by rw[hw];exact hMs.subset p),W,by show R.length+M.length<=_;omega,rfl⟩
     rw[G] at hcv;have K2:=K1.ins rx hcv
     have V8:=aWD K1 rx hcv
     have hO2:=aGx (lI S (ov aK (some M))) { w with O:=some M } x
     have hN2:NR v.ns (Qf (lI S (ov aK (some M))) { w with O:=some M } x).ns:=NR.ins (v:={ w with O:=some M }) Y (k0.rg.vs.oi x (aFj x hxm)).1
     have hC2:=(Zg (lI S (ov aK (some M))) { w with O:=some M } x).1
     obtain⟨S2,hS2⟩:∃S2,SZ (lI S (ov aK (some M))) { w with O:=some M } x=S2:=⟨_,rfl⟩
     obtain⟨X,YR⟩:∃X,Qf (lI S (ov aK (some M))) { w with O:=some M } x=X:=⟨_,rfl⟩
     rw[hS2,YR] at K2 V8;rw[YR] at hO2 hN2;rw[hS2] at hC2;have GP:∀(g':Nat) (st:St),st.heap 88 g'=some (.row 66 238 M.length (aK M))->eH (Oo (Ro 140 97) (aA prog)) 140 [bc (lI S (.own 88 g')),ah x] st (some 97)=some { dst:=some 97,val:=bc (lI S2 (rv 97 (st.aJ 97) X.O)),dE:=some (88,g',none),new:=Sl 97 (rl 66 238 aK X.O)}:=fun g' st u=>by
      have z:zV S2 X [114] 97 (st.aJ 97)=lI S2 (rv 97 (st.aJ 97) X.O)/\zR X [114]=rl 66 238 aK X.O:=gb K2.gi.sd 97 _
      have e:eH (Oo (Ro 140 97) (aA prog)) 140 [bc (lI S (rv 88 g' (some M))),ah x] st (some 97)=_:=aPk K2.gi.sd (S:=S) (O:=some M) (m:=[114]) K1.gi.sd.flat (bZ (lF x)) V8 (fun l e=>by cases e;exact u)
      rw[z.1,z.2] at e;exact e
     have ap:∀(g':Nat) (y:AV) (es:List mH) (st:St),({ dst:=some 97,val:=y,dE:=some (88,g',none),new:=Sl 97 es }:rI).apply st=((st.gV 88 g' none).news 97 es).put (some 97) y:=fun g' y es st=>yS (some M) 88 g' 97 (some 97) y es st
     have hR1:bg R.length:=WF
     have hgr:(rg=st.aJ 102)=False\/ra=66:=by rcases hra with rfl|rfl;exact .inr rfl;exact .inl (eq_false WF)
     have B:(ra=97)=False/\(ra=101)=False/\(4=ra)=False/\(97=ra)=False:=⟨eq_false WF,eq_false WF,eq_false WF,eq_false WF⟩
     have hlen:(ol X.O).length<=M.length:=hO2.length_le
     apply oN ((ol X.O).length)
     ·simp only[Z8,seval,D,A,B,a4,ra4,aG3,oq,J,aG4,q0,q1,q2,O3,ld,N,km,zQ,bt G,GP,ap,NW,Sy _ _ _ _ hR1];rfl
     ·exact⟨S2,X,97,st.aJ 97,R++[x.root],102,st.aJ 102,by simp only[E8,seval,NW,D,A,B,a4,ra4,aG3,false_and,if_false]<;>and_intros<;>rfl,fun l e=>(by simp only[E8,seval,NW,B,e,iC,false_and,if_false,Nat.le_refl,Nat.sub_self]<;>rfl),.inr (.inr rfl),wc,.inr rfl,wc,K2,hN2,fun o p=>aFj o (by rw[hw];exact hMs.subset (hO2.subset p)),hC2.trans W,by rw[length_append,length_singleton];omega,rfl⟩
 obtain⟨⟨e,st'⟩,J,h2⟩:=key
 exact⟨e,st',by
  cases h3:wP prog Qi st with
  | none=>rw[h3] at J;cases J
  | some y=>rw[h3] at J;exact J,h2⟩
def GQ (hs:SD s v):lI s (ov aK v.O)=s:=by unfold lI;rw[<- hs.bL]
def aPT (hs:SD s v) {a:Nat} (h:∀l,v.O=some l->st.heap a g=some (.row 66 238 l.length (aK l))):eE st (bc (lI s (rv a g v.O)))=some (bc s):=by
 rw[dC,TJ hs (jU h fun l _=>jA l),GQ hs];rfl
def c71 (k:KI s v q) {b:Block} (rb:RB b/\Pr b.root):∃x,aA prog 71 [bc s,ah b]=some x/\BlP s v q x:=by
 by_cases G:sW s v b=0
 case neg=>exact a4f k rb G
 have hs:=k.gi.sd
 have xJ:=fun st=>LD k.cp (Ro 63 12) (m:=[114]) st 12
 have z:zV s v [114] 12 0=lI s (rv 12 0 v.O)/\zR v [114]=rl 66 238 aK v.O:=gb hs 12 0
 have zQ:=aVM k.gi k.rg b rb.1.sl
 rw[G] at zQ
 have oS:∀x y,({ lI s x with bH:={ (lI s x).bH with bL:=y }}:aF)=lI s y:=fun _ _=>rfl
 have kA:=k.ins rb G
 have V8:=aWD k rb G
 have PM:0<=aD (Qf s v b).ns b.root:=by rw[aKz];exact YN k.gi k.rg.vs G
 have Y:NR v.ns (Qf s v b).ns:=(NR.refl _).ins (RH G)
 have X:=aGx s v b
 have W:=(Zg s v b).1
 obtain⟨S1,hS1⟩:∃S,SZ s v b=S:=⟨_,rfl⟩
 obtain⟨w,hw⟩:∃w,Qf s v b=w:=⟨_,rfl⟩
 rw[hS1,hw] at kA V8;rw[hw] at PM Y X;rw[hS1] at W;have kB:=kA.dY b.root (.inr PM)
 have z2:zV S1 w [114] 59 0=lI S1 (rv 59 0 w.O)/\zR w [114]=rl 66 238 aK w.O:=gb kA.gi.sd 59 0
 have GP:∀st:St,(∀l,v.O=some l->st.heap 12 0=some (.row 66 238 l.length (aK l)))->eH (Oo (Ro 140 59) (aA prog)) 140 [bc (lI s (rv 12 0 v.O)),ah b] st (some 59)=_:=fun st u=>aPk kA.gi.sd (S:=s) (O:=v.O) (m:=[114]) (by rw[show ({ s with bH:={ s.bH with bL:=ov aK v.O }}:aF)=s from GQ hs];exact hs.flat) (bZ (lF b)) (by rw[show ({ s with bH:={ s.bH with bL:=ov aK v.O }}:aF)=s from GQ hs];exact V8) u
 have uB:∀x,({ lI S1 x with dY:=b.root }:aF)=lI { S1 with dY:=b.root } x:=fun _=>rfl
 have key:∀(M:aF),KI M w q->M.cFg=s.cFg->∀st:St,(st.env 4=.ptr 4 0 0/\st.heap 4 0=some (.cells (aB (lI M (rv 59 0 w.O))))/\st.env 5=.own 66 0/\st.heap 66 0=some (.row 29 32 1 (aW b.root)))->(∀l,w.O=some l->st.heap 59 0=some (.row 66 238 l.length (aK l)))->st.aJ 66=1->∃e st',wP prog Qi st=some (e,st')/\dg s v q e st':=fun M A W st J h2 h3 =>
  aXz k ⟨M,w,59,0,[b.root],66,0,⟨J.1,J.2.1,J.2.2.1,by rw[J.2.2.2];simp only[fN,flatMap_cons,flatMap_nil,append_nil];rfl⟩,h2,.inl rfl,Nat.zero_lt_succ _,.inl rfl,WF,A,Y,fun o p=>X.subset p,W,by have:=X.length_le;rw[length_singleton];omega,rfl⟩
 have fin:∀st',dg s v q .ret st'->∃r,wY prog 71 Tryz.f71 (.ret,st')=some r/\BlP s v q r:=by
  rintro st' ⟨_,S,w,a,g,R,ra,rg,D,hO,A,Y,W,N⟩
  refine⟨_,fF rfl (x1:=bc (lI S (rv a g w.O))) ?ya (x2:=.own ra rg) ?yb (x3:=aa 0) ?yc (aPT A.gi.sd hO) (Bz D.2.2.2.1 (La R)) (cV (.v _)),S,some R,0,rfl,A.gi.sd.flat,ZB,fun _=>⟨w,A,Y,W,N⟩⟩
  case ya=>simp only[bC,Z8,seval,D]
  case yb=>simp only[bC,Z8,seval,D]
  case yc=>simp only[bC,Z8,seval,D]
 rw[cL func71 rfl aWG rfl];cases C:v.O
 all_goals rw[C] at z GP
 all_goals first|(rename_i L;replace GP:=fun (st:St) (u:st.heap 12 0=some (.row 66 238 L.length (aK L)))=>GP st fun l e=>(by cases e;exact u))|replace GP:=fun st=>GP st nofun
 all_goals
  by_cases g:b.oU=true/\b.slot=s.now/\s.dY=bQ
  ·simp only[Z8,seval,xJ,z,NW,zQ,oS,GP,z2,yS,iX,jK,jX,iC,vH,g.1,bt g.2.1,decide_eq_true g.2.2,uB];refine yP (a:=Qi) (dg s v q) (key { S1 with dY:=b.root } kB W _ ⟨?s1, ?s2, ?s3, ?s4⟩ (fun l e=>?s5) ?s6) (fun e st h=>?s7)
   case s1=>simp only[E8,seval,NW,iX]
   case s2=>simp only[E8,seval,NW,iX,jK,jX]<;>rfl
   case s3=>simp only[E8,seval,NW,iX,jK]<;>rfl
   case s4=>simp only[E8,seval,NW,iX,jK,jX]<;>rfl
   case s5=>simp only[E8,seval,NW,iX,jK,jX,e,iC]<;>rfl
   case s6=>simp only[E8,seval,NW,iX,jK]<;>rfl
   case s7 =>
    obtain rfl:=h.1
    simp only[Z8,seval];exact fin _ h
  ·have g:b.oU=false\/b.oU=true/\(b.slot≠s.now\/b.slot=s.now/\s.dY≠bQ):=by
    cases J:b.oU
    ·exact .inl rfl
    ·by_cases h2:b.slot=s.now
     ·exact .inr ⟨rfl,.inr ⟨h2,fun e=>g ⟨J,h2,e⟩⟩⟩
     ·exact .inr ⟨rfl,.inl h2⟩
   rcases g with g3|⟨g3,g4|⟨g4,g5⟩⟩
   all_goals
    first|simp only[Z8,seval,xJ,z,NW,zQ,oS,GP,z2,yS,iX,jK,jX,iC,vH,g3,bt g4,decide_eq_false g5]|simp only[Z8,seval,xJ,z,NW,zQ,oS,GP,z2,yS,iX,jK,jX,iC,vH,g3,bf g4]|simp only[Z8,seval,xJ,z,NW,zQ,oS,GP,z2,yS,iX,jK,jX,iC,vH,g3]
    refine yP (a:=Qi) (dg s v q) (key S1 kA W _ ⟨?s1, ?s2, ?s3, ?s4⟩ (fun l e=>?s5) ?s6) (fun e st h=>?s7)
    case s1=>simp only[E8,seval,NW,iX]
    case s2=>simp only[E8,seval,NW,iX,jK,jX]<;>rfl
    case s3=>simp only[E8,seval,NW,iX,jK]<;>rfl
    case s4=>simp only[E8,seval,NW,iX,jK,jX]<;>rfl
    case s5=>simp only[E8,seval,NW,iX,jK,jX,e,iC]<;>rfl
    case s6=>simp only[E8,seval,NW,iX,jK]<;>rfl
    case s7 =>
     obtain rfl:=h.1
     simp only[Z8,seval];exact fin _ h
theorem EI.mono {t:State} {v:SV} {Q R:Option (List Request)} {m b m' X:Int} (h:EI t v Q R m b) (h1:m<=m') (h2:b<=X):EI t v Q R m' X:=⟨h.ki,h.td,by have:=h.nq;omega,h.nr,h.tq.mono h2,h.tr.mono h2,h.cf⟩
def aKT (f:List α->List β) (o:Option (List α)) (h:f []=[]):ol (o.map f)=f (ol o):=by cases o;exact h.symm;rfl
theorem EI.drop {b:Int} (h:EI t v Q R m b):∃t1,@aA E1 prog 70 [bd t]=some (bd t1)/\∃u A,EI t1 v u A m b:=by
 have e:∀o:Option (List Request),ol (o.map fun l=>kX v.ns l)=(ol o).filter fun r=>decide (0<=aD v.ns r.block):=fun o=>aKT _ o rfl
 have l:∀o:Option (List Request),(ol (o.map fun l=>kX v.ns l)).length<=(ol o).length:=fun o=>by rw[e];exact length_filter_le _ _
 have X:∀o,TB b o->TB b (o.map fun l=>kX v.ns l):=fun o h y Y=>h y (by rw[e] at Y;exact (mem_filter.1 Y).1)
 have l1:=l Q
 have l2:=l R
 have hq:=h.td.nQ
 have hr:=h.td.nR
 have n1:=h.nq
 have n2:=h.nr
 exact⟨_,c70 h.td h.ki.cp,_,_,h.ki,⟨h.td.sd,rfl,rfl,WF,WF⟩,WF,WF,X Q h.tq,X R h.tr,h.cf⟩
def EI.due {b:Int} (h:EI t v Q R m b) (hm:m<=700000):∃t1,@aA E1 prog 69 [bd t]=some (bd t1)/\∃u A,EI t1 v u A (m+256) b:=by
 have n1:=h.nq
 have n2:=h.nr
 obtain⟨_,e,q,r,n,rfl,l1,l2,b1,b2⟩:=c69 h.td h.ki.cp WF h.tq h.tr
 exact⟨_,e,q,r,h.ki,⟨h.td.sd,rfl,rfl,WF,WF⟩,WF,WF,b1,b2,h.cf⟩
theorem EI.XN {b:Int} (h:EI t v Q R m b) (hm:m<=700000) (hb:0<=b) (L:Option (List bU)) (hL:(ol L).length<=100):∃t1,@aA E1 prog 72 [bd t,ov fN L]=some (bd t1)/\∃u A,EI t1 v u A (m+256) b:=by
 have n1:=h.nq
 obtain⟨_,e,q,n,rfl,l1,b1⟩:=c72 h.td h.ki.cp L WF hb h.tq
 exact⟨_,e,q,R,h.ki,⟨h.td.sd,rfl,rfl,WF,h.td.nR⟩,WF,h.nr,b1,h.tr,h.cf⟩
section
attribute [local instance] E2
def Iy {C:ResultVar} (X:fn.results.toList=[G,C]) (J:bC prog st G=some x1) (h2:bC prog st C=some x2) (A:eE st x1=some y1) (M:eE st x2=some Y):wY prog f fn (.ret,st)=some (.cY [y1,Y]):=Ts rfl (.inl rfl) X J h2 A M
def x32 {b:Int} (h:EI t v Q R m b) (x:uI) (N:rW x) (hp:x.kind=2->Pr x.block.root) (hm:m<=700000) (hb0:0<=b) (hb:b<=60):∃y,aA prog 32 [bd t,be x]=some y/\df t v (m+256) (b+1) y:=by
 have hf:=h.td.flat
 have r:=h.ki.gi.sd.flat
 have KT:=N.flat
 have SK:=N.fl
 have PG:=fun st d=>aPQ h.td h.ki.cp st d
 have fail:∀ {t':State} {e:Int},Flat (bd t')->¬e=0->df t v (m+256) (b+1) (.cY [bd t',aa e]):=fun f e=>⟨_,_,rfl,f,fun g=>absurd g e⟩
 have ky:∀ {t':State} {S:SV} {u R':Option (List Request)} {m' X:Int},EI t' S u R' m' X->NS v.ns S.ns->m'<=m+256->X<=b+1->df t v (m+256) (b+1) (.cY [bd t',aa 0]):=fun g n J h2=>⟨_,_,rfl,g.td.flat,fun _=>⟨_,_,_,g.mono J h2,n⟩⟩
 rw[dJ prog func32 rfl WP _ rfl rfl]
 by_cases k1:x.kind=1
 ·obtain⟨_,Y,D,e,rfl,Tc,_,p⟩:=c68 h.ki
  have k68:=TG Y (bZ r) (.cY _ (aU Tc (.v _)))
  have C:=Ko hf Tc
  by_cases e0:e=0
  ·obtain⟨S,g,c,n⟩:=p e0
   have T0:=h.store g c
   obtain⟨t1,A,Q1,R1,T1⟩:=T0.drop
   obtain⟨t2,M,Q2,R2,T2⟩:=T1.due hm
   have k70:=TG A (bZ T0.td.flat) T1.td.flat
   have k69:=TG M (bZ T1.td.flat) T2.td.flat
   have ft2:=T2.td.flat
   simp only[Z8,seval,gD,kN,PG,bt k1,k68,bW,bt e0,k70,k69];exact⟨_,QbJ,ky T2 n.ns WF WF⟩
  ·simp only[Z8,seval,gD,kN,PG,bt k1,k68,bW,bf e0];exact⟨_,xh,fail C e0⟩
 by_cases l:x.kind=2
 ·obtain⟨_,Y,D,L,e,rfl,Tc,_,p⟩:=c71 h.ki (b:=x.block) ⟨N.rb,hp l⟩
  have k71:=TG Y (aU r (lF _)) (.cY _ (jC Tc (yM L) (.v _)))
  have C:=Ko hf Tc
  by_cases e0:e=0
  ·obtain⟨S,g,n,c,nL⟩:=p e0
   have T0:=h.store g c
   have nO:=h.ki.gi.nO
   have AH:=h.ki.gi.AH
   obtain⟨t1,A,Q1,R1,T1⟩:=T0.drop
   obtain⟨t2,M,Q2,R2,T2⟩:=T1.XN hm hb0 L WF
   have k70:=TG A (bZ T0.td.flat) T1.td.flat
   have k72:=TG M (aU T1.td.flat (yM L)) T2.td.flat
   have ft2:=T2.td.flat
   simp only[Z8,seval,gD,kN,PG,bf k1,bt l,k71,bW,bt e0,k70,k72];exact⟨_,QbJ,ky T2 n.ns WF WF⟩
  ·simp only[Z8,seval,gD,kN,PG,bf k1,bt l,k71,bW,bf e0];exact⟨_,xh,fail C e0⟩
 have st:∀ {y:AV},jz t.store v 2000 y->∃(D:aF) (e:Int),y=.cY [bc D,aa e]/\Flat (bc D)/\df t v (m+256) (b+1) (.cY [bd ({ t with store:=D }),aa e]):=fun ⟨D,e,J,h2,_,p⟩=>⟨D,e,J,h2,_,e,rfl,Ko hf h2,fun e0=>by
  obtain⟨S,g,c,n⟩:=p e0
  exact⟨_,_,_,(h.store g c).mono WF WF,n.ns⟩⟩
 by_cases G:x.kind=3
 ·obtain⟨V,hV,nV⟩:=N.Dy
  obtain⟨_,Y,hs⟩:=c73 h.ki x.Dy N.ra.1 V hV WF
  obtain⟨D,e,rfl,Tc,hA⟩:=st hs
  have k73:=TG Y (aU r ((rS _).2 SK.1)) (.cY _ (aU Tc (.v _)))
  have C:=Ko hf Tc
  simp only[Z8,seval,gD,kN,PG,bf k1,bf l,bt G,k73,bW];exact⟨_,xh,hA⟩
 by_cases k4:x.kind=4
 ·obtain⟨V,hV,nV⟩:=N.c1
  obtain⟨W,hW,nW⟩:=N.c2
  obtain⟨_,Y,hs⟩:=c74 h.ki ZB x.mQ V W hV hW WF WF
  obtain⟨D,e,rfl,Tc,hA⟩:=st hs
  have k74:=TG Y (aU r ((jT _).2 ⟨SK.2.1,SK.2.2.1⟩)) (.cY _ (aU Tc (.v _)))
  have C:=Ko hf Tc
  simp only[Z8,seval,gD,kN,PG,bf k1,bf l,bf G,bt k4,k74,bW];exact⟨_,xh,hA⟩
 by_cases k5:x.kind=5
 ·obtain⟨B,hB,nB,_⟩:=N.EE
  obtain⟨_,Y,hs⟩:=c75 h.ki x.table B hB WF
  obtain⟨D,e,rfl,Tc,hA⟩:=st hs
  have k75:=TG Y (aU r ((iQ _).2 SK.2.2.2)) (.cY _ (aU Tc (.v _)))
  have C:=Ko hf Tc
  simp only[Z8,seval,gD,kN,PG,bf k1,bf l,bf G,bf k4,bt k5,k75,bW];exact⟨_,xh,hA⟩
 by_cases k6:x.kind=6
 ·obtain⟨_,Y,t',e,rfl,C,p⟩:=x76 h hb x.verdict
  have k76:=TG Y (aU hf (.agg _ (fJ _))) (.cY _ (aU C (.v _)))
  simp only[Z8,seval,gD,kN,PG,bf k1,bf l,bf G,bf k4,bf k5,bt k6,k76,bW];exact⟨_,xh,⟨_,e,rfl,C,fun e0=>(p e0).imp fun _ h=>h.imp fun _ h=>h.imp fun _ h=>⟨h.1.mono WF WF,h.2⟩⟩⟩
 ·simp only[Z8,seval,gD,kN,PG,bf k1,bf l,bf G,bf k4,bf k5,bf k6];exact⟨_,by apply Iy;rfl;all_goals simp only[bC,Z8,seval,hf]<;>rfl,fail hf ZB⟩
end
def fK (l:List Command):List AV:=l.flatMap cX
def LK (l:List Command):(fK l).length=l.length * 96:=mL Hv l
def Lb (l:List Command):∀x∈fK l,Flat x:=by
 intro x N;obtain⟨y,_,Y⟩:=mem_flatMap.1 N
 exact gG y x Y
theorem mZ (o:Option (List Command)):Flat (ov fK o):=by
 cases o with
 | none=>exact .v _
 | some l=>exact .sl _ _ (Lb l)
def EmR (t:State) (v:SV) (y:AV):Prop:=∃(s:Bool) (c:Command) (C:Option (List Command)),y=.cY [bd ({ t with zH:=s,last:=c }),ov fK C]/\(∀c∈ol C,Pc t.store v c)/\(ol C).length<=1/\(t.zH=false->∃c,C=some [c])
section
attribute [local instance] E2
def Ng (i n:Nat) (d:Option Nat):Ext.dyn i n d=Ek i n d:=rfl
def aPU:Ek 0 3 (some 1)=[]/\Ek 1 3 (some 5)=[]/\Ek 2 5 (some 7)=[]/\Ek 3 8 (some 10)=[]/\Ek 4 3 (some 18)=[]/\Ek 5 5 (some 19)=[(0,2)]/\Ek 6 5 (some 22)=[(1,3)]:=⟨rfl,rfl,rfl,rfl,rfl,rfl,rfl⟩
def Gb {g:Option (Nat × Bool)} (f:Nat) (x:Array Operand) (y:Array Nat) (h:A0 f (d.getD 0)=false) :
 fZ prog true call inl ops ⟨d,.call ⟨.value (.func f),x,y⟩,T,pos,aft,g⟩ st=cU prog call ops ⟨d,.call ⟨.value (.func f),x,y⟩,T,pos,aft,g⟩ st:=Tg f x y h
def aG6 (d:Nat) (x:Operand):cU prog call ops ⟨some d,.buildSlice 58 1 #[(0,x)],T,pos,aft,none⟩ st=cj 96 (st.ev x) (fun cs=>some ((st.new d (.row 55 96 1 cs)).put (some d) (.own d (st.aJ d)))) (cU prog call ops ⟨some d,.buildSlice 58 1 #[(0,x)],T,pos,aft,none⟩ st):=Dq ik tl (by rfl) ZB d x rfl
def x29 {b:Int} (h:EI t v Q R m b):∃y,aA prog 29 [bd t]=some y/\EmR t v y:=by
 have W:=h.td.flat
 have r:=h.ki.gi.sd.flat
 have p:=(qM t).1 W
 obtain⟨B,hB⟩:=h.cf
 obtain⟨r1,A,c,rfl,hc⟩:=x64 h.ki h.ki.rg.vs hB.bp.1
 have C:=TG A (bZ r) (.agg _ (gG c))
 have X:=fun st d=>aPQ h.td h.ki.cp st d
 have hfc:∀x∈cX c,Flat x:=gG c
 have ex:lG (some (.row 55 96 1 (cX c)))=some (.sl 1 (cX c)):=by
  grind [lG]
 have A:(.sl 1 (cX c):AV)=ov fK (some [c]):=by simp[ov,fK]
 rw[Af prog func29 rfl WP WP _ rfl rfl]
 have D:Flat (bd ({ t with zH:=true,last:=c })):=(qM _).2 p
 have fin:EmR t v (.cY [bd ({ t with zH:=true,last:=c }),.sl 1 (cX c)]):=⟨true,c,some [c],by rw[A],fun y hy=>by grind [dK],Nat.le_refl 1,fun _=>⟨c,rfl⟩⟩
 cases g1:t.zH
 ·simp only[ZG,seval,Ng,aPU,Gb,A0,Option.getD_some,gD,kN,aG6,X,C,g1];exact⟨_,Qby,fin⟩
 ·by_cases g2:t.last=c
  ·simp only[ZG,seval,Ng,aPU,Gb,A0,Option.getD_some,gD,kN,aG6,X,C,g1,g2];exact⟨_,by apply Iy;rfl;all_goals simp only[bC,Z8,seval,W]<;>rfl,t.zH,t.last,none,rfl,fun _ h=>(nomatch h),ZB,fun h=>qg⟩
  ·simp only[ZG,seval,Ng,aPU,Gb,A0,Option.getD_some,gD,kN,aG6,X,C,g1,g2];exact⟨_,Qby,fin⟩
end
def EI.set {b:Int} (h:EI t v Q R m b) (s:Bool) (c:Command) (g:Bool):EI { t with zH:=s,last:=c,halted:=g } v Q R m b:=⟨h.ki,⟨h.td.sd,h.td.Nx,h.td.ret,h.td.nQ,h.td.nR⟩,h.nq,h.nr,h.tq,h.tr,h.cf⟩
def NS.a5A (a:List Node):NS a a:=fun n M=>.inl ⟨n,M,rfl,.inr rfl⟩
def aXB (t:State) (v:SV) (m b:Int) (x:AV):Prop:=∃(D:State) (C:Option (List Command)) (e:Int),x=.cY [bd D,ov fK C,aa e]/\∃S u A,EI D S u A m b/\NS v.ns S.ns/\(ol C).length<=1/\∀c∈ol C,Pc D.store S c
section
attribute [local instance] E2
def Tw {r2 D:ResultVar} {x3 l:AV} (X:fn.results.toList=[G,r2,D]) (J:bC prog st G=some x1) (h2:bC prog st r2=some x2) (S:bC prog st D=some x3) (A:eE st x1=some y1) (M:eE st x2=some Y) (C:eE st x3=some l):wY prog f fn (.ret,st)=some (.cY [y1,Y,l]):=GR rfl (.inl rfl) X J h2 S A M C
def x9 {b:Int} (h:EI t v Q R m b) (x:uI) (N:rW x) (hp:x.kind=2->Pr x.block.root) (hm:m<=700000) (l:0<=b) (hb:b<=60):∃y,aA prog 9 [bd t,be x]=some y/\aXB t v (m+256) (b+1) y:=by
 have W:=h.td.flat
 have KT:=N.flat
 have X:=fun st d=>aPQ h.td h.ki.cp st d
 have h':=h.mono (show m<=m+256 from WF) (show b<=b+1 from WF)
 have err:∀(g:Bool) (e:Int),aXB t v (m+256) (b+1) (.cY [bd ({ t with halted:=g }),af,aa e]):=fun g e=>⟨_,none,e,rfl,_,_,_,h'.set _ _ g,NS.a5A _,ZB,fun c G=>(nomatch G)⟩
 obtain⟨_,A,e,rfl⟩:=x31 x N
 have r:=TG A (bZ KT) (.v _)
 have hfh:∀g,Flat (bd ({ t with halted:=g })):=fun g=>(h.set t.zH t.last g).td.flat
 rw[dJ prog func9 rfl WP _ rfl rfl]
 cases g0:t.halted
 ·by_cases g1:e=0
  ·obtain⟨_,e2,D,e',rfl,ft',p⟩:=x32 h x N hp hm l hb
   have k32:=fun st d=>aX (st:=st) (d:=d) (aU W KT) e2 (.cY _ (aU ft' (.v _)))
   by_cases g2:e'=0
   ·obtain⟨S,u,R',hE,n⟩:=p g2
    obtain⟨_,e3,s,c,C,rfl,G,M,_⟩:=x29 hE
    have J:=mZ C
    have Mp:Flat (bd ({ D with zH:=s,last:=c })):=(hE.set s c D.halted).td.flat
    have Y:=fun st=>cV (st:=st) J
    have k29:=fun st d=>aX (st:=st) (d:=d) (bZ ft') e3 (.cY _ (aU Mp J))
    simp only[Z8,seval,gD,kN,X,g0,r,bt g1,k32,bW,bt g2,k29];exact⟨_,by apply Tw;rfl;all_goals simp only[bC,Z8,seval,Mp,Y]<;>rfl,_,C,0,rfl,S,u,R',hE.set s c D.halted,n,M,G⟩
   ·simp only[Z8,seval,gD,kN,X,g0,r,bt g1,k32,bW,bf g2];exact⟨_,by apply Tw;rfl;all_goals simp only[bC,Z8,seval,hfh]<;>rfl,err _ _⟩
  ·simp only[Z8,seval,gD,kN,X,g0,r,bf g1];exact⟨_,QbO,err t.halted _⟩
 ·simp only[Z8,seval,gD,kN,X,g0];exact⟨_,QbO,err t.halted _⟩
end
theorem EI.new {c:Config} {b:List Int} (h:sZ c b):EI (LB c b) (zI c b) none none 0 0:=by
 have g:=GI.new h
 have n:=h.nb.1
 exact⟨⟨g.mono ZB ZB,(RG.new h).toRG0,n,⟨(fun a Y=>bk),fun t D=>⟨some b,by rw[show t=⟨⟨0,c.fR⟩,ov bD (some b)⟩ from mem_singleton.1 D];exact⟨rfl,rfl⟩⟩⟩⟩,(TI.new h).td,ZB,ZB,(fun r X=>by cases X),(fun r X=>by cases X),⟨b,h⟩⟩
section
attribute [local instance] E2
def x8 (h:sZ c b):∃y,aA prog 8 [aq c]=some y/\∃(t:State) (k:Command),y=.cY [bd t,ov fK (some [k]),aa 0]/\EI t (zI c b) none none 0 0/\t.store=Cq c b/\Pc (Cq c b) (zI c b) k:=by
 have T:=EI.new h
 have A:Flat (aq c):=(mT c).2 (by rw[h.fL];exact cP _)
 have M:=T.ki.gi.sd.flat
 have R:=TG (c28 h) (bZ A) (.cY _ (aU M (.v _)))
 obtain⟨_,e3,s,l,C,rfl,G,_,hs⟩:=x29 T
 obtain⟨k,rfl⟩:=hs rfl
 have J:=mZ (some [k])
 have D:Flat (bd ({ LB c b with zH:=s,last:=l })):=(T.set s l (LB c b).halted).td.flat
 have Y:=fun st=>cV (st:=st) J
 have N:=fun st d=>aX (st:=st) (d:=d) (bZ T.td.flat) e3 (.cY _ (aU D J))
 have eb:({ iS with store:=Cq c b,cI:=1 }:State)=LB c b:=rfl
 rw[dJ prog func8 rfl WP _ rfl rfl]
 simp only[Z8,seval,gD,R,bW,eb,N];exact⟨_,by apply Tw;rfl;all_goals simp only[bC,Z8,seval,D,Y]<;>rfl,_,k,rfl,T.set s l (LB c b).halted,rfl,G k (mem_singleton.2 rfl)⟩
end
def dh (ns:List Node) (r:bU):Prop:=0<=aD ns r/\(nd ns (aD ns r)).status≠2
theorem aG7 (v:Ay ns) (c:XH ns) (h:(nd ns 0).status=2):∀k:Nat,(k:Int)<ns.length->(nd ns k).status=2:=fun k=>by
 induction k using Nat.strongRecOn with
 | ind k ih =>
   intro R;by_cases e:k=0
   ·subst e;exact h
   ·have u:=v.up k WF R
    refine (c k WF R).2 ?_
    grind [nd]
def Pc.nmd {c:Command} (k:KI s v q) (h:Pc s v c):dh v.ns c.head/\dh v.ns c.fin/\(c.safe=bQ\/dh v.ns c.safe):=by
 obtain⟨⟨i,i0,i1,i2,e⟩,h2,S⟩:=h
 have vs:=k.rg.vs
 have V:=vs.Er
 have Y:=k.gi.dX
 have hj1:=(cB v.ns s.aL.dX.root).2
 refine⟨?_, ?_, ?_⟩
 ·grind [Ay.find,dh]
 ·have p:=V.Px
  have:=V.find (Int.le_refl 0) WF (vs.r0.trans S.symm)
  grind [dh,VS.js,aG7,VS.AI,aD]
 ·rcases h2 with e|e
  ·right;rw[e];exact⟨Y,vs.js⟩
  ·exact .inl e.1
theorem NS.at_ {a c:List Node} (h:NS a c) (v:Ay a) {k:Int} (G:0<=k) (k1:k<c.length) (g:0<=aD a (nd c k).block.root):(nd a (aD a (nd c k).block.root)).status=0\/(nd a (aD a (nd c k).block.root)).status=(nd c k).status:=by
 rcases h _ (zB G k1) with ⟨m,hm,e1,e2⟩|n
 ·grind [YL,Ay.find]
 ·exact absurd (oR _ _ g) (n _ (zB g (cB a _).2))
section
attribute [local instance] E2
def ri (h:TD t v Q R) (r:bU) (X:dh v.ns r):aA prog 12 [bd t,.agg (aW r)]=some (ae true):=by
 have qL:=TG (db v.ns r h.sd.nn) (aU (gZ _) (oE _)) (.v _)
 obtain⟨h0,h2⟩:=X
 have J:=(cB v.ns r).2
 rw[dJ prog func12 rfl WP _ rfl rfl]
 simp only[Z8,seval,gD,h.sd.tree,qL,h0,J,bf h2];exact Bo rfl (.inl rfl) rfl Wl (.v _)
end
def aXD {e sz b:Nat} {c:α->List AV} {z:α} {cs:List α->List AV} (R:∀l,cs l=l.flatMap c) (na:gW prog T=none) (sl:dD prog T=some (e,sz,b)) (G:∀x,(c x).length=sz) (st:St) {o:Option (List α)} {kk:IntKind} {i:Int} (h0:0<=i) (J:i<(ol o).length):bK prog st T (ov cs o) (.v (.int kk i))=some (.ip (c (gx z (ol o) i)) 0):=by
 cases o with
 | none=>simp[ol] at J;omega
 | some l =>
   have J:i<l.length:=J
   have W:i.toNat<l.length:=WF
   have h2:i.toNat * sz+sz<=(l.flatMap c).length:=QbF
   have S:((l.flatMap c).drop (i.toNat * sz)).take sz=c (gx z l i):=ph G h0 J
   show bK prog st T (.sl l.length (cs l)) (.v (.int kk i))=_
   (simp only[bK,na,sl,R,h0,J,h2,and_self,if_true,S])<;>rfl
def aNS (cs:List α->List AV) (h0:cs []=[]) (st:St) (o:Option (List α)):bA st (ov cs o)=some ((ol o).length,cs (ol o)):=QbK
def aPW (st:St) {o:Option (List uI)} {kk:IntKind} {i:Int} (h0:0<=i) (J:i<(ol o).length):bK prog st 33 (ov zJ o) (.v (.int kk i))=some (.ip (jJ (gx yO (ol o) i)) 0):=aXD (fun _=>rfl) aXE la A4 st h0 J
def aPX (st:St) {o:Option (List Command)} {kk:IntKind} {i:Int} (h0:0<=i) (J:i<(ol o).length):bK prog st 58 (ov fK o) (.v (.int kk i))=some (.ip (cX (gx Gc (ol o) i)) 0):=aXD (fun _=>rfl) aPY ik Hv st h0 J
def PN (st:St) (o:Option (List uI)):bA st (ov zJ o)=some ((ol o).length,zJ (ol o)):=aNS zJ rfl st o
def wJ (st:St) (o:Option (List Command)):bA st (ov fK o)=some ((ol o).length,fK (ol o)):=aNS fK rfl st o
def Gd (t:State) (C:Option (List Command)):List AV:=aE t++[ov fK C]
def GS (t:State) (C:Option (List Command)):(Gd t C).length=253:=by simp[Gd]
def aKV:bF prog 119 0=some 0:=WP
def aKW:bF prog 119 1=some 252:=WP
def TK (t:State) (C:Option (List Command)):(Gd t C)[115]? = some t.store.tree.nodes:=(Wz vq).trans (mY t)
def TL (t:State) (C:Option (List Command)):(Gd t C)[252]? = some (ov fK C):=aG9 rfl (Cc t)
def TM (t:State) (C:Option (List Command)):rd (Gd t C) 0 150=aB t.store:=(PO vq).trans (Lc t)
def aDq (h:Flat (bd t)) (C:Option (List Command)):∀x∈Gd t C,Flat x:=fun x N=>by
 rcases mem_append.1 N with N|N
 ·cases h<;>grind
 grind [mZ]
def aXF:AV->Option AV
 | .ptr s g o=>some (.ptr s g o)
 | .ip cs o=>some (.ip cs o)
 | _=>none
def aBU (cs:List AV) (o:Nat):aXF (.ip cs o)=some (.ip cs o):=rfl
def PQ [Ext] (x:Operand) :
 cU prog call ops ⟨d,.nilCheck x,T,pos,aft,none⟩ st=cT (aXF (st.ev x)) fun v=>some (st.put d v):=by
 rw[eB];simp only[dU,jG];cases st.ev x<;>rfl
def c45 (L:Option (List Command)) (h:L≠some []) (M:bg (ol L).length):aA prog 45 [ov fK L]=some (uo 55 96 fK L):=clone func45 WP a5D rfl ik tl WP rfl rfl ZB LK Lb ZB L h (cF _ _) M
def c18 (t:State) (k:Command):aA prog 18 [.ip (Gd t (some [k])) 0]=some (.uniq 55 96 1 (cX k)):=by
 have e:fK [k]=cX k:=by simp[fK]
 have A:=fun st (d:Nat)=>tZ (st:=st) (d:=d) (bZ (mZ (some [k]))) (c45 (some [k]) qe (show ((1:Nat):Int)<1000000 from ZB))
 rw[dJ prog func18 rfl WP _ (cF _ _) rfl]
 simp only[Z8,seval,PQ,aBU,GS,aKW,TL,A,rv,rl,Sl,e];exact oH rfl Wl Wl (gG k)
def x26 {b:Int} (h:EI t v Q R m b) (C:Option (List Command)):∃y,aA prog 26 [.ip (Gd t C) 0]=some y/\∃k:Int,0<=k/\k<v.ns.length/\y=.agg (aW (nd v.ns k).block.root):=by
 have W:=h.ki.gi.sd.flat
 obtain⟨B,hB⟩:=h.cf
 obtain⟨r1,A,k,rfl,G,k1,k2⟩:=x57 h.ki h.ki.rg.vs hB.bp.1
 have J:=kx A (bZ W) (.v _)
 have D:t.store.tree.nodes=.sl v.ns.length (bS v.ns):=by rw[h.td.sd.tree]
 rw[dJ prog func26 rfl WP _ (cF _ _) rfl]
 simp only[Z8,seval,PQ,aBU,GS,aKV,TK,TM,D,J,G,k1];exact⟨_,iI rfl Wl qk wv,k,G,k1,rfl⟩
def TN (s t:State) (C:Option (List Command)):dE (Gd s C) 0 (aE t) 252=Gd t C:=aKX (Cc s)
def A5 (t:State) (C D:Option (List Command)):dE (Gd t C) 252 [ov fK D] 253=Gd t D:=(aBV rfl rfl (Cc t)).trans (a5E (Am rfl))
def aXG (st:St) (x y:Operand) {t:State} {C:Option (List Command)} (N:st.ev x=bd t) (Y:st.ev y=ov fK C):wU prog st 119 [(0,x),(1,y)]=some (.agg (Gd t C)):=by
 have R:(Xa++[Value.slice none 0 0]).map AV.v=Gd iS none:=by
  rw[map_append,GU];rfl
 have s1:(AV.agg (aE t)).lL=true:=rfl
 have s2:(ov fK C).lL=true:=by cases C<;>rfl
 have c2:(ov fK C).cells=[ov fK C]:=by cases C<;>rfl
 have c1:(AV.agg (aE t)).cells=aE t:=rfl
 rw[iA (P:=prog) (T:=119) (z:=Xa++[Value.slice none 0 0]) (place:=fun i=>([(0,252),(252,1)]:List (Nat × Nat))[i]?) WP R (fC WP)]
 simp only[all_cons,all_nil,N,Y,s1,s2,Bool.and_self,if_true,map_cons,map_nil,uY,yH,c1,c2,getElem?_cons_zero,getElem?_cons_succ,cC,Cc,GS,TN,A5,length_cons,length_nil,Nat.reduceAdd,Nat.reduceLeDiff,true_and,and_self];rfl
def a5F (a b c:Nat):jS prog .eql 88 (.ptr a b c) (.v (.pointer none))=some (ae false):=by
 have hu:prog.underlying 88=some (.pointer 119):=WP
 simp[jS,hu]
section
attribute [local instance] E2
def aXH:Ek 0 1 (some 0)=[]/\Ek 1 7 (some 6)=[]/\Ek 2 6 (some 10)=[]/\Ek 3 1 (some 0)=[]/\Ek 4 3 (some 16)=[]/\Ek 5 3 (some 17)=[]/\Ek 6 20 (some 19)=[]:=⟨rfl,rfl,rfl,rfl,rfl,rfl,rfl⟩
def a5G:Ek 0 3 (some 1)=[]/\Ek 1 10 (some 8)=[]/\Ek 2 2 (some 13)=[]/\Ek 3 3 (some 15)=[]/\Ek 4 6 (some 16)=[]:=⟨rfl,rfl,rfl,rfl,rfl⟩
def a5H (x:Array Operand) (y:Array Nat) :
 fZ prog true call inl ops ⟨some 7,.call ⟨.value (.func 14),x,y⟩,T,pos,aft,none⟩ st=cT (inl 14 (x.toList.map st.ev) st) fun r=>some ((st.back r.2).put (some 7) r.1):=Kl 14 x y rfl
def aHa {k:AV × St->Option β} {R:β->Prop} (Q:St->AV->St->Prop) (h:∃X st',oX P g args st=some (X,st')/\Q st X st')
 (rest:∀X st',Q st X st'->∃r,k (X,st')=some r/\R r):∃r,cT (oX P g args st) k=some r/\R r:=by
 obtain⟨X,st',J,h2⟩:=h
 rw[J];exact rest X st' h2
def aXI (h:sZ c b) (p:St):∃X st',oX prog 14 [aq c] p=some (X,st')/\∃(t:State) (k:Command),X=.cY [.ptr 19 (p.aJ 19) 0,aa 0]/\st'.heap 19 (p.aJ 19)=some (.cells (Gd t (some [k])))/\EI t (zI c b) none none 0 0/\t.store=Cq c b/\Pc (Cq c b) (zI c b) k:=by
 suffices h:∃r:AV × St,oX prog 14 [aq c] p=some r/\∃(t:State) (k:Command),r.1=.cY [.ptr 19 (p.aJ 19) 0,aa 0]/\r.2.heap 19 (p.aJ 19)=some (.cells (Gd t (some [k])))/\EI t (zI c b) none none 0 0/\t.store=Cq c b/\Pc (Cq c b) (zI c b) k by
  obtain⟨⟨X,st'⟩,J,h2⟩:=h
  exact⟨X,st',J,h2⟩
 obtain⟨_,Y,t,k,rfl,M,hs,R⟩:=x8 h
 have A:Flat (aq c):=(mT c).2 (by rw[h.fL];exact cP _)
 have C:=M.td.flat
 have m:=fun st d=>aX (st:=st) (d:=d) (bZ A) Y (.cY _ (jC C (mZ (some [k])) (.v _)))
 have D:=fun (st:St) (x y:Operand) (N:st.ev x=bd t) (Y:st.ev y=ov fK (some [k]))=>aXG st x y N Y
 rw[Aj prog func14 rfl WP _ _ rfl]
 simp only[ZG,seval,Ng,a5G,Gb,A0,Option.getD_some,gD,m,bW,D,bV,aN,aV];exact⟨_,aHb (.inl rfl) rfl (by rw[pF];simp only[bC,E8,seval,aV]<;>rfl) (by rw[pF];simp only[bC,E8,seval]<;>rfl),t,k,rfl,by simp only[E8,seval,aV]<;>rfl,M,hs,R⟩
def aKY (h:sZ c b) {k:Command} (R:Pc (Cq c b) (zI c b) k):k=⟨mkRoot 1,mkRoot 1,mkRoot 1⟩:=by
 obtain⟨⟨i,i0,i1,_,A⟩,M,C⟩:=R
 have i1:i<((1:Nat):Int):=i1
 obtain rfl:i=0:=WF
 have A:k.head=c.fR:=A
 have C:k.fin=c.fR:=C
 have W:aD (zI c b).ns c.fR=0:=(VS.new h).Er.find (Int.le_refl 0) QaY rfl
 have M:k.safe=c.fR:=by
  rcases M with e|⟨_,n⟩
  ·exact e
  ·refine absurd ⟨?_, ?_⟩ n
   ·show 0<=aD (zI c b).ns c.fR
    rw[W];decide
   ·show (nd (zI c b).ns (aD (zI c b).ns c.fR)).status=1
    rw[W];rfl
 rw[h.gen] at A M C;cases k
 cases A;cases M;cases C;rfl
def c13:aA prog 13 []=some (ae true):=by
 suffices h:∃r,aA prog 13 []=some r/\r=ae true by
  obtain⟨r,h,rfl⟩:=h
  exact h
 obtain⟨_,J,c,b,rfl,G⟩:=a2A
 have A:Flat (aq c):=(mT c).2 oc
 have C:=TG J (bZ (.v _)) A
 have lK:=fun n=>TG (c23 n) (bZ (.v _)) (oE _)
 rw[Af prog func13 rfl WP WP _ rfl rfl]
 simp only[ZG,seval,Ng,aXH,Gb,A0,Option.getD_some,gD,C,a5H];refine aHa (fun st X st'=>∃(t:State) (k:Command),X=.cY [.ptr 19 (st.aJ 19) 0,aa 0]/\st'.heap 19 (st.aJ 19)=some (.cells (Gd t (some [k])))/\EI t (zI c b) none none 0 0/\t.store=Cq c b/\Pc (Cq c b) (zI c b) k) (aXI G _) ?rest
 case rest =>
  rintro X st' ⟨t,k,rfl,u,M,hs,R⟩
  obtain rfl:=aKY G R
  have u:st'.heap 19 0=some (.cells (Gd t (some [⟨mkRoot 1,mkRoot 1,mkRoot 1⟩]))):=u
  have fE:=aDq M.td.flat (some [⟨mkRoot 1,mkRoot 1,mkRoot 1⟩])
  have S:∀(st:St) (d:Nat),st.heap 19 0=some (.cells (Gd t (some [⟨mkRoot 1,mkRoot 1,mkRoot 1⟩])))->aO (aA prog) 18 [.ptr 19 0 0] st (some d)=some { dst:=some d,val:=.own d (st.aJ d),new:=some (d,[.row 55 96 1 (cX ⟨mkRoot 1,mkRoot 1,mkRoot 1⟩)])}:=fun st d h=>by
   rw[dZ,map_cons,map_nil,Tk h fE,aM,dB];exact Wj (c2 (c18 t _)) (Tm _)
  have W:∀(st:St) (d:Option Nat),st.heap 19 0=some (.cells (Gd t (some [⟨mkRoot 1,mkRoot 1,mkRoot 1⟩])))->aO (aA prog) 26 [.ptr 19 0 0] st d=some { dst:=d,val:=.agg (aW (mkRoot 1))}:=fun st d h=>by
   obtain⟨_,D,k,k0,k1,rfl⟩:=x26 M (some [⟨mkRoot 1,mkRoot 1,mkRoot 1⟩])
   have k1:k<((1:Nat):Int):=k1
   obtain rfl:k=0:=WF
   have e:(nd (zI c b).ns 0).block.root=mkRoot 1:=G.gen
   rw[e] at D;rw[dZ,map_cons,map_nil,Tk h fE,aM,dB];exact RA (c2 D) (fun x N=>by have h:=vD _ x N;cases x<;>first|exact h|cases h) (oE _)
  simp only[ZG,seval,Ng,aXH,Gb,A0,Option.getD_some,gD,bW,u,lK,a5F,S,W];exact⟨_,Bo rfl (.inl rfl) rfl Wl (.v _),rfl⟩
end
def aDr (O:Option (List uI)) (h:∀y∈ol O,N7 y):Flat (ov zJ O):=by
 cases O with
 | none=>exact .v _
 | some L=>exact .sl _ _ (Wo L h)
section
attribute [local instance] E2
def PR {b:Code} {k:Ex × St->Option (Ex × St)} {R:Ex->St->Prop} (Inv:Nat->St->Prop) (Q:Ex->St->Prop) (n:Nat)
 (step:∀n st,Inv n st->∃e st',wP P b st=some (e,st')/\((e=.normal/\∃m,m<n/\Inv m st')\/(e≠.normal/\Q e st')))
 (start:Inv n st) (rest:∀e st',Q e st'->∃e' A,k (e,st')=some (e',A)/\R e' A):∃e' A,cT (wP P (.loop b) st) k=some (e',A)/\R e' A:=by
 obtain⟨e,s1,J,h2,S⟩:=Nh Inv Q step n st start
 rw[J];exact rest e s1 S
def c3 (l:List Int) (W:(l.length:Int)<=9223372036854775807):aA prog 3 [.sl l.length (aH l)]=some (ae true):=by
 suffices h:∃r,aA prog 3 [.sl l.length (aH l)]=some r/\r=ae true by
  obtain⟨r,h,rfl⟩:=h
  exact h
 obtain⟨c,b,O,u,G,hO,nO⟩:=x7 l W
 have fc:Flat (aq c):=(mT c).2 oc
 have k7:=TG u (bZ (Pp l)) (.cY _ (aU fc (aDr O hO)))
 obtain⟨_,h8,t0,k,rfl,Km,_,_⟩:=x8 G
 have k8:=fun st d=>aX (st:=st) (d:=d) (bZ fc) h8 (.cY _ (jC Km.td.flat (mZ (some [k])) (.v _)))
 have k13:=fun st d=>aX (st:=st) (d:=d) (args:=[]) (fun _ h=>nomatch h) c13 (.v _)
 rw[dJ prog func3 rfl WP _ rfl rfl]
 simp only[Z8,seval,gD,k7,bW,k8,wJ,dK];refine bP (fun m st=>∃(i:Nat) (t:State) (v:SV) (Q R:Option (List Request)),(st.env 4=ov zJ O/\st.env 5=.ptr 5 0 0/\st.heap 5 0=some (.cells (aE t))/\st.env 8=aa i)/\EI t v Q R (256 * i) i/\i<=(ol O).length/\m=(ol O).length-i)
  (fun e st=>e=.exit 0) (ol O).length ?step ?start ?rest
 case step =>
  rintro m st ⟨i,t,v,Q,R,D,M,hi,hm⟩
  by_cases A:(i:Int)<(ol O).length
  ·have q0:(0:Int)<=i:=WF
   have hw:=wk (k:=i) WF
   have N:=hO _ (lB (z:=yO) q0 A)
   have i33:=fun st kk=>aPW (o:=O) (kk:=kk) st q0 A
   obtain⟨x,hxe⟩:∃x,gx yO (ol O) (i:Int)=x:=⟨_,rfl⟩
   rw[hxe] at N;obtain⟨_,h9,t',C,e,rfl,S,Q',R',J,hN,hC1,hC⟩:=x9 M x N.1 N.2 WF WF WF
   have k9:=fun st d=>aX (st:=st) (d:=d) (aU M.td.flat N.1.flat) h9 (.cY _ (jC J.td.flat (mZ C) (.v _)))
   have V:=M.ki.rg.vs.Er
   have V':=J.ki.rg.vs.Er
   have ht:=M.td.sd.tree
   have ht':=J.td.sd.tree
   have e10:=aKZ V' J.ki.rg.vs.AI
   have k10:=TG (fj S.ns J.td.sd.nn) (bZ (gZ _)) (.v _)
   rw[e10] at k10;have qL:=fun r=>TG (db v.ns r M.td.sd.nn) (aU (gZ _) (oE _)) (.v _)
   have k12:=fun r (X:dh S.ns r) st d=>aX (st:=st) (d:=d) (aU J.td.flat (oE r)) (ri J.td r X) (.v _)
   have p':=V'.Px
   have pn:¬((S.ns.length:Int)=0):=WF
   have hnn:=J.td.sd.nn
   simp only[Z8,seval,gD,D,PN,A,i33,hxe,k9,bW,ht',k10,bf pn];refine PR (fun mm st'=>∃j:Nat,(st'.env 4=ov zJ O/\st'.env 5=.ptr 5 0 0/\st'.heap 5 0=some (.cells (aE t))/\st'.env 8=aa i/\st'.env 9=.ptr 9 (st.aJ 9) 0/\st'.heap 9 (st.aJ 9)=some (.cells (aE t'))/\st'.env 10=ov fK C/\st'.env 12=aa j)/\j<=S.ns.length/\mm=S.ns.length-j)
    (fun e st'=>e=.exit 2/\(st'.env 4=ov zJ O/\st'.env 5=.ptr 5 0 0/\st'.heap 5 0=some (.cells (aE t))/\st'.env 8=aa i/\st'.env 9=.ptr 9 (st.aJ 9) 0/\st'.heap 9 (st.aJ 9)=some (.cells (aE t'))/\st'.env 10=ov fK C)) S.ns.length ?Su ?Hg ?Bq
   case Su =>
    rintro mm st' ⟨j,p,hj,hmm⟩
    by_cases O1:(j:Int)<S.ns.length
    ·have p0:(0:Int)<=j:=WF
     have YR:=wk (k:=j) WF
     have Xb:=hN.at_ V p0 O1
     have r1:=(cB v.ns (nd S.ns j).block.root).2
     by_cases g:aD v.ns (nd S.ns j).block.root<0
     ·have g':¬0<=aD v.ns (nd S.ns j).block.root:=WF
      apply oN (S.ns.length-(j+1))
      ·simp only[Z8,seval,gD,p,O1,p0,ht,ht',qL,g',YR];rfl
      ·exact⟨j+1,xy,WF,rfl⟩
     ·have r0:0<=aD v.ns (nd S.ns j).block.root:=WF
      have Xb:=Xb r0
      by_cases z:(nd v.ns (aD v.ns (nd S.ns j).block.root)).status=0
      ·apply oN (S.ns.length-(j+1))
       ·simp only[Z8,seval,gD,p,O1,p0,ht,ht',qL,r0,r1,bt z,YR];rfl
       ·exact⟨j+1,xy,WF,rfl⟩
      ·have Xb:=Xb.resolve_left z
       apply oN (S.ns.length-(j+1))
       ·simp only[Z8,seval,gD,p,O1,p0,ht,ht',qL,r0,r1,bf z,bt Xb,YR];rfl
       ·exact⟨j+1,xy,WF,rfl⟩
    ·apply oT (.exit 2)
     ·simp only[Z8,seval,p,O1,ht'];rfl
     ·exact⟨rfl,xy⟩
   case Hg=>exact⟨0,qd,WF,WF⟩
   case Bq =>
    rintro e2 s2 ⟨rfl,hK⟩
    simp only[Z8,seval,hK];refine PR (fun mm st'=>∃j:Nat,(st'.env 4=ov zJ O/\st'.env 5=.ptr 5 0 0/\st'.heap 5 0=some (.cells (aE t))/\st'.env 8=aa i/\st'.env 9=.ptr 9 (st.aJ 9) 0/\st'.heap 9 (st.aJ 9)=some (.cells (aE t'))/\st'.env 10=ov fK C/\st'.env 14=aa j)/\j<=(ol C).length/\mm=(ol C).length-j)
     (fun e st'=>e=.exit 4/\(st'.env 4=ov zJ O/\st'.env 5=.ptr 5 0 0/\st'.heap 5 0=some (.cells (aE t))/\st'.env 8=aa i/\st'.env 9=.ptr 9 (st.aJ 9) 0/\st'.heap 9 (st.aJ 9)=some (.cells (aE t'))/\st'.env 10=ov fK C)) (ol C).length ?aGE ?V0 ?aGF
    case aGE =>
     rintro mm st' ⟨j,p,hj,hmm⟩
     by_cases O1:(j:Int)<(ol C).length
     ·have p0:(0:Int)<=j:=WF
      have YR:=wk (k:=j) WF
      have KJ:=hC _ (lB (z:=Gc) p0 O1)
      have i58:=fun st kk=>aPX (o:=C) (kk:=kk) st p0 O1
      obtain⟨y,Y⟩:∃y,gx Gc (ol C) (j:Int)=y:=⟨_,rfl⟩
      rw[Y] at KJ;obtain⟨n1,n2,n3⟩:=KJ.nmd J.ki
      have kh:=k12 _ n1
      have kf:=k12 _ n2
      by_cases g:y.safe=bQ
      ·apply oN ((ol C).length-(j+1))
       ·simp only[Z8,seval,gD,p,wJ,O1,i58,Y,kh,kf,g,YR];rfl
       ·exact⟨j+1,xy,WF,rfl⟩
      ·have ks:=k12 _ (n3.resolve_left g)
       apply oN ((ol C).length-(j+1))
       ·simp only[Z8,seval,gD,p,wJ,O1,i58,Y,kh,kf,ks,g,YR];rfl
       ·exact⟨j+1,xy,WF,rfl⟩
     ·apply oT (.exit 4)
      ·simp only[Z8,seval,p,wJ,O1];rfl
      ·exact⟨rfl,xy⟩
    case V0=>exact⟨0,by simp only[E8,seval,hK]<;>and_intros<;>rfl,WF,WF⟩
    case aGF =>
     rintro e3 s3 ⟨rfl,p⟩
     refine R3 (st':=?s8) ?h8 ((ol O).length-(i+1)) WF ?q8
     case h8 =>
      simp only[Z8,seval,p,hw];rfl
     case q8=>exact⟨i+1,t',S,Q',R',xy,J.mono WF WF,WF,rfl⟩
  ·apply oT (.exit 0)
   ·simp only[Z8,seval,D,PN,A];rfl
   ·exact rfl
 case start=>exact⟨0,t0,_,_,_,wx,Km,WF,WF⟩
 case rest =>
  rintro e st rfl
  simp only[Z8,seval,gD,k13];exact⟨_,Bo rfl (.inl rfl) rfl Wl (.v _),rfl⟩
end
end Go.Ab.Tryz
section
namespace Go.Proofs
open Go.RowKit Go.Shelf
def Tryz.lz340_ren : Go.Shelf.Ren := ⟨fun | 134 => 340 | 129 => 334 | n => n, fun | 53 => 23 | 3 => 3 | 4 => 4 | 46 => 128 | 5 => 5 | 9 => 9 | n => n, fun | n => n⟩
theorem Tryz.lz340 : Go.Proofs.Lays.n134 Tryz.prog Tryz.lz340_ren := {
  mixed := by kernel_rfl
  f129 := Tryz.func334.trans (congrArg some (by kernel_rfl))
  f134 := Tryz.func340.trans (congrArg some (by kernel_rfl))
  t3 := Tryz.underlying3
  a3 := Tryz.isAgg3
  z3 := Tryz.sizeOf3
  v3 := Tryz.zeroValue3
  t4 := Tryz.underlying4
  a4 := Tryz.isAgg4
  z4 := Tryz.sizeOf4
  v4 := Tryz.zeroValue4
  t5 := Tryz.underlying5
  a5 := Tryz.isAgg5
  z5 := Tryz.sizeOf5
  v5 := Tryz.zeroValue5
  t9 := Tryz.underlying9
  a9 := Tryz.isAgg9
  z9 := Tryz.sizeOf9
  v9 := Tryz.zeroValue9
  t46 := Tryz.underlying128
  a46 := Tryz.isAgg128
  z46 := Tryz.sizeOf128
  v46 := Tryz.zeroValue128
  t53 := Tryz.underlying23
  a53 := Tryz.isAgg23
  z53 := Tryz.sizeOf23
  v53 := Tryz.zeroValue23 }
end Go.Proofs
namespace Go.Ab.Tryz
open Classical Go.Proofs Go.Ab Go.RowKit
def aBW:∀a b:List UInt8,lexB a b=Lib.compareBytes a b
 | [],[]=>rfl
 | [],_ :: _=>rfl
 | _ :: _,[]=>rfl
 | a :: l,b :: m=>by simp only[lexB,Lib.compareBytes,aBW l m]
def aXJ:Tryz.f243.ntmps=8:=WP
def aXK:Tryz.f301.ntmps=8:=WP
def Tx {P:Program} (w:World) (a b:Addr) (A B:List Int) (c d:Nat) (Y:∀j x,A[j]? = some x->w.cell? (a.add j)=some (.int .u8 x)) (hb:∀j x,B[j]? = some x->w.cell? (b.add j)=some (.int .u8 x)) :
 (Extern.BytealgCompare.compare #[.slice (some a) A.length c,.slice (some b) B.length d]).run P w=.ok (.int .i64 (Lib.compareBytes (Lib.bytesOf A) (Lib.bytesOf B))) w:=by
 have key:∀(l:List Int) (p:Addr),(∀j x,l[j]? = some x->w.cell? (p.add j)=some (.int .u8 x))->(Extern.Bytes.loadBytes p l.length .empty).run P w=.ok ⟨(Lib.bytesOf l).toArray⟩ w:=fun l p h=>by
  rw[Lib.run_loadBytesX (P:=P) w l p .empty h];simp_all
 change Sem.run P (do pure (goInt (Extern.BytealgCompare.cmp (<- Extern.Bytes.bytesOf (.slice (some a) A.length c)) (<- Extern.Bytes.bytesOf (.slice (some b) B.length d))))) w=_
 simp only[Extern.Bytes.bytesOf,Sem.run_bind,Sem.run_pure,key A a Y,key B b hb,Result.andThen];rw[Lib.cmp_eq];rfl
def aXL (w:World) (a b:Addr) (A B:List Int) (n c d:Nat) (C:A.length=n) (nB:B.length=n) (Y:∀j x,A[j]? = some x->w.cell? (a.add j)=some (.int .u8 x)) (hb:∀j x,B[j]? = some x->w.cell? (b.add j)=some (.int .u8 x)) :
 Calls prog 301 #[.slice (some a) n c,.slice (some b) n d] w fun e w'=>e=.returned (.int .i64 (Lib.compareBytes (Lib.bytesOf A) (Lib.bytesOf B)))/\w'=w:=by
 have X:=Tx (P:=prog) w a b A B c d Y hb
 rw[C,nB] at X;go_enter func301,aXK
 go_wp2
 rw[run_callFunc_extern func341 WP WP WP (e:=Extern.BytealgCompare.compare) WP,X]
 simp only[Result.andThen];rw[Oper.upon_value];go_wp2
 go_ret
 exact⟨rfl,rfl⟩
def aXM (w:World) (J C:Array Value) (A B:List Int) (hA:A.length=32) (hB:B.length=32) (sx:J.size=32) (sy:C.size=32) (ha:∀(j:Nat) x,A[j]? = some x->J[j]? = some (Value.int .u8 x)) (hb:∀(j:Nat) x,B[j]? = some x->C[j]? = some (Value.int .u8 x)) :
 Calls prog 243 #[.agg J,.agg C] w fun e w'=>e=.returned (.int .i64 (Lib.compareBytes (Lib.bytesOf A) (Lib.bytesOf B)))/\w.grownBy w' none:=by
 have G:=aXL ((w.alloc (.cells J 29)).alloc (.cells C 29)).drew ⟨w.heap.size,0,none⟩ ⟨w.heap.size+1,0,none⟩ A B 32 32 32 hA hB
  (fun j x Y=>by grind [Addr.add_lit,cell_of_row,World.drew,heap_alloc2_old])
  (fun j x Y=>by grind [Addr.add_lit,cell_of_row,World.drew,heap_alloc2_new])
 go_enter func243,aXJ
 go_wp2
 go_region_with (go_at_call 301;refine G.mono ?_;rintro e w' ⟨rfl,rfl⟩)
 go_wp2
 go_ret
 exact⟨rfl,rfl,rfl,rfl,by simp[World.drew];omega,fun k R _=>(heap_alloc_old _ _ qs).trans (heap_alloc_old _ _ R)⟩
def A6 {C:Ctx} {a:List AV} {A:List Int} {x:Array Value} (hA:bM (a.map br)=some A) (N:cD C (.agg a) (.agg x)):A.length=a.length/\x.size=a.length/\∀(j:Nat) y,A[j]? = some y->x[j]? = some (Value.int .u8 y):=by
 cases N with
 | agg _ _ W X J =>
 have key:∀(a:List AV) (A:List Int),bM (a.map br)=some A->A.length=a.length/\∀(j:Nat) y,A[j]? = some y->a[j]? = some (.v (.int .u8 y)):=fun a=>by
  induction a with
  | nil=>intro A h;cases h;grind
  | cons b l S =>
    intro A h;rw[map_cons] at h;cases hb:br b with
    | none=>rw[hb] at h;cases h
    | some u =>
      rw[hb] at h;cases W:bM (l.map br) with
      | none=>simp[bM,W] at h
      | some L =>
        simp only[bM,W,cR,cQ] at h;subst h;obtain⟨J,h2⟩:=S L W
        refine⟨bx,fun j y Y=>?_⟩
        cases j with
        | succ j=>grind
        | zero =>
          obtain rfl:u=y:=xn
          unfold br at hb;grind
 obtain⟨J,h2⟩:=key a A hA
 refine⟨J,by simpa using W.symm,fun j y Y=>?_⟩
 have r:=h2 j y Y
 cases D:x[j]? with
 | none =>
   grind
 | some z =>
   have R:=X j _ z r (by simpa using D)
   cases R
   rfl
def aPZ:∀xs r,gj xs=some r->Enters prog 243/\pU prog 243 xs r:=by
 intro xs r h;unfold gj at h;split at h
 case h_2=>cases h
 rename_i a b;split at h
 case h_2=>cases h
 rename_i A B hA hB;split at h
 case isFalse=>cases h
 rename_i W;cases h
 refine⟨⟨Tryz.f243,func243,WP,rfl⟩, ?_⟩
 show Eh prog 243 [.agg a,.agg b] _
 intro w h0 vs hh X;obtain⟨x,y,rfl,q0,S⟩:∃x y,vs=#[x,y]/\cD (bare h0) (.agg a) x/\cD (bare h0) (.agg b) y:=by
  have W:=X.len
  obtain⟨l⟩:=vs
  match l,W with
  | [x,y],_=>exact⟨x,y,rfl,X.rel 0 _ x rfl rfl,X.rel 1 _ y rfl rfl⟩
 obtain⟨J,rfl⟩:∃J,x=.agg J:=by cases q0;exact⟨_,rfl⟩
 obtain⟨C,rfl⟩:∃C,y=.agg C:=by cases S;exact⟨_,rfl⟩
 obtain⟨l1,l2,R⟩:=A6 hA q0
 obtain⟨m1,m2,m3⟩:=A6 hB S
 refine (aXM w J C A B (l1.trans W.1) (m1.trans W.2) (l2.trans W.1) (m2.trans W.2) R m3).mono ?_
 rintro e w' ⟨rfl,hg⟩
 rw[<- aBW];exact⟨_,rfl,⟨[],qe,qe,qe,fun _ _=>rfl,fun D d c _ _=>⟨.v _,qe⟩⟩,hg⟩
def aXN:∀xs r,se xs=some r->Enters prog 340/\pU prog 340 xs r:=by
 intro xs r h;unfold se at h;split at h
 case h_2=>cases h
 rename_i x;split at h
 case isFalse=>cases h
 rename_i e;subst e;cases h
 refine⟨⟨Tryz.f340,func340,WP,rfl⟩, ?_⟩
 show Eh prog 340 [ac 100] _
 intro w h0 vs hh X;obtain⟨x,rfl,q0⟩:∃x,vs=#[x]/\cD (bare h0) (ac 100) x:=by
  have W:=X.len
  obtain⟨l⟩:=vs
  match l,W with
  | [x],_=>exact⟨x,rfl,X.rel 0 _ x rfl rfl⟩
 cases q0
 have G:=Any.bits_LeadingZeros64 Tryz.lz340 100 w ZB ZB
 change Calls prog 340 _ _ _ at G
 refine G.mono ?_
 rintro e w' ⟨rfl,rfl⟩
 have A:(64-(Lib.bitLen (100:Int).toNat:Int))=57:=ZB
 rw[A];exact⟨_,rfl,⟨[],qe,qe,qe,fun _ _=>rfl,fun D d c _ _=>⟨.v _,qe⟩⟩,World.grownBy.refl _ _⟩
end Go.Ab.Tryz
end
