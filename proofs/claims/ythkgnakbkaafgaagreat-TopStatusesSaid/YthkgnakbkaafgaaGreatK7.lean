/-
  Part 7 of the proof: an evaluator of programs, its soundness, and what functions of this program compute.
-/
import Derived.Test.YthkgnakbkaafgaaGreatK6
import Derived.Test.YthkgnakbkaafgaaGreatProg
import Derived.KernelRfl
set_option linter.all false
set_option maxRecDepth 20000
set_option maxHeartbeats 40000000
open List Go.Proofs.Tryz
noncomputable section
section
namespace Go.Ab
open Classical
variable {α:Type} {i:Int}
variable [Ext]
def Rp (st:St) (cs:List AV):Option (List AV):=bM (cs.map (cO st))
theorem sP (st:St) (a b:List AV):Rp st (a++b)=cT (Rp st a) fun x=>cT (Rp st b) fun y=>some (x++y):=by
 unfold Rp;induction a with
 | nil=>simp[bM,cT];cases bM (b.map (cO st))<;>rfl
 | cons c a S =>
   simp only[cons_append,map_cons];cases cO st c with
   | none=>rfl
   | some c' =>
     simp only[bM,S];cases bM (a.map (cO st)) with
     | none=>rfl
     | some a' =>
       simp only[cT,cR];cases bM (b.map (cO st))<;>rfl
theorem uD (st:St) (x:AV):Rp st [x]=cT (cO st x) fun y=>some [y]:=by
 unfold Rp;simp only[map_cons,map_nil];cases cO st x<;>rfl
theorem iU {st:St} {cs:List AV} (h:∀c∈cs,Flat c):Rp st cs=some cs:=by
 unfold Rp;induction cs with
 | nil=>rfl
 | cons c cs S =>
   simp only[map_cons,bY (h c qe),bM,S fun x N=>h x bw,Option.map_some]
theorem dC (st:St) (cs:List AV):eE st (.agg cs)=cT (Rp st cs) fun x=>some (.agg x):=by
 unfold eE;by_cases h:Flat (.agg cs)
 ·rw[if_pos h];have G:∀c∈cs,Flat c:=by cases h with|agg _ h=>exact h
  rw[iU G];rfl
 ·rw[if_neg h];simp only[Rp];cases bM (cs.map (cO st))<;>rfl
def ov (c:List α->List AV):Option (List α)->AV
 | none=>.v (.slice none 0 0)
 | some l=>.sl l.length (c l)
def ol (o:Option (List α)):List α:=o.getD []
theorem dK (l:List α):ol (some l)=l:=rfl
theorem aLU:ol (none:Option (List α))=[]:=rfl
def gx (z:α) (l:List α) (i:Int):α:=l.getD i.toNat z
theorem RJ {z:α} {l:List α} (h0:0<=i) (h1:i<l.length):∃h:i.toNat<l.length,gx z l i=l[i.toNat]:=by
 have h:i.toNat<l.length:=WF
 exact⟨h,by simp[gx,h]⟩
theorem lB {z:α} {l:List α} (h0:0<=i) (J:i<l.length):gx z l i∈l:=by
 obtain⟨h,e⟩:=RJ (z:=z) h0 J
 rw[e];exact getElem_mem h
def mJ (l:List dH):List AV:=l.flatMap bI
@[simp] theorem Pu (l:List (dH)):(mJ l).length=l.length * 33:=by
 induction l with
 | nil=>rfl
 | cons x l ih=>simp only[mJ,flatMap_cons,length_append,nX,length_cons] at *;omega
def aK (l:List Block):List AV:=l.flatMap aY
@[simp] theorem yK (l:List (Block)):(aK l).length=l.length * 238:=by
 induction l with
 | nil=>rfl
 | cons x l ih=>simp only[aK,flatMap_cons,length_append,jQ,length_cons] at *;omega
theorem jA (l:List (Block)):∀x∈aK l,Flat x:=by
 intro x N;obtain⟨y,_,Y⟩:=mem_flatMap.1 N
 exact yR y x Y
def iJ (l:List Bool):List AV:=l.flatMap rZ
@[simp] theorem aAt (l:List (Bool)):(iJ l).length=l.length * 1:=by
 induction l with
 | nil=>rfl
 | cons x l ih=>simp only[iJ,flatMap_cons,length_append,xM,length_cons] at *;omega
theorem Ke (l:List (Bool)):∀x∈iJ l,Flat x:=by
 intro x N;obtain⟨y,_,Y⟩:=mem_flatMap.1 N
 exact jR y x Y
structure uM where
 tag:Int
def kD (s:uM):List AV:=qY s.tag
@[simp] theorem I6 (s:uM):(kD s).length=1:=by simp[kD]
theorem Hq (s:uM):∀x∈kD s,Flat x:=by
 intro x N;simp only[kD,mem_append,mem_singleton] at N;(exact eA _ _ N)
theorem I7 (s:uM):∀x∈kD s,cZ x:=by
 intro x N;simp only[kD,mem_append] at N;exact Bx _ _ N
theorem IL (s:uM):(kD s)[0]? = some (ac s.tag):=rfl
def CR:uM:=⟨0⟩
def Nn:List Value:=[.int .u64 0]
theorem Np:Nn.map AV.v=kD CR:=by simp only[Nn,map_append,map_cons,map_nil,jO,kE];rfl
def aCg:List Bool:=[true]
theorem VN (a b:uM):mA aCg (kD a) (kD b):=(show mA [true] [_] [_] from ⟨rfl,trivial⟩)
theorem I8 (a b:uM):kD a=kD b↔a=b:=by
 refine⟨fun h=>?_,fun h=>yi⟩
 cases a;cases b
 simp only[kD] at h;have e0:=(IC _ _).1 h
 subst e0;rfl
structure fM where
 tagged:uM
 kind:Int
 cJ:bU
def cK (s:fM):List AV:=kD s.tagged++(oF s.kind++(aW s.cJ))
abbrev am (s:fM):AV:=.agg (cK s)
@[simp] theorem VO (s:fM):(cK s).length=34:=by simp[cK]
theorem fJ (s:fM):∀x∈cK s,Flat x:=by
 intro x N;simp only[cK,mem_append,mem_singleton] at N;rcases N with N|N|N
 ·(exact Hq _ _ N)
 ·(exact oD _ _ N)
 ·(exact dR _ _ N)
def IM:fM:=⟨CR,0,bQ⟩
def Lu:List Value:=Nn++([.int .i64 0]++(vC))
theorem Qx:Lu.map AV.v=cK IM:=by simp only[Lu,map_append,map_cons,map_nil,jO,kE,Np];rfl
def I9:List Bool:=aCg++([true]++(Kx))
theorem MU (a b:fM):mA I9 (cK a) (cK b):=(jZ (VN _ _) (jZ (show mA [true] [_] [_] from ⟨rfl,trivial⟩) (oY _ _)))
theorem VP (a b:fM):cK a=cK b↔a=b:=by
 refine⟨fun h=>?_,fun h=>yi⟩
 cases a;cases b
 simp only[cK] at h;obtain⟨h0,h⟩:=append_inj h qe
 obtain⟨J,h⟩:=append_inj h qe
 have e0:=(I8 _ _).1 h0
 have A:=(aH5 _ _).1 J
 have M:=(xN _ _).1 h
 subst e0 A M;rfl
structure tI where
 tO:Int
 vA:Int
 mK:Int
 rV:Int
 oV:Int
 qI:Int
def kF (s:tI):List AV:=oF s.tO++(oF s.vA++(oF s.mK++(oF s.rV++(oF s.oV++(qY s.qI)))))
@[simp] theorem Zd (s:tI):(kF s).length=6:=by simp[kF]
theorem sL (s:tI):∀x∈kF s,Flat x:=by
 intro x N;simp only[kF,mem_append,mem_singleton] at N;rcases N with N|N|N|N|N|N
 ·(exact oD _ _ N)
 ·(exact oD _ _ N)
 ·(exact oD _ _ N)
 ·(exact oD _ _ N)
 ·(exact oD _ _ N)
 ·(exact eA _ _ N)
theorem ZU (s:tI):∀x∈kF s,cZ x:=by
 intro x N;simp only[kF,mem_append] at N;rcases N with N|N|N|N|N|N
 ·exact Gj _ _ N
 ·exact Gj _ _ N
 ·exact Gj _ _ N
 ·exact Gj _ _ N
 ·exact Gj _ _ N
 ·exact Bx _ _ N
theorem Xu (s:tI):(kF s)[0]? = some (aa s.tO):=rfl
def VQ:tI:=⟨0,0,0,0,0,0⟩
def Ux:List Value:=[.int .i64 0]++([.int .i64 0]++([.int .i64 0]++([.int .i64 0]++([.int .i64 0]++([.int .u64 0])))))
theorem Xv:Ux.map AV.v=kF VQ:=by simp only[Ux,map_append,map_cons,map_nil,jO,kE];rfl
structure Config where
 lim:tI
 iH:Int
 pO:Int
 Ps:oG
 fR:bU
 fL:AV
def bX (s:Config):List AV:=kF s.lim++(qY s.iH++(qY s.pO++(fD s.Ps++(aW s.fR++([s.fL])))))
abbrev aq (s:Config):AV:=.agg (bX s)
@[simp] theorem J0 (s:Config):(bX s).length=45:=by simp[bX]
theorem vS (s:Config) (h0:Flat s.fL):∀x∈bX s,Flat x:=by
 intro x N;simp only[bX,mem_append,mem_singleton] at N;rcases N with N|N|N|N|N|N
 ·(exact sL _ _ N)
 ·(exact eA _ _ N)
 ·(exact eA _ _ N)
 ·(exact gM _ _ N)
 ·(exact dR _ _ N)
 ·(subst N;assumption)
def sG:Config:=⟨VQ,0,0,QF,bQ,af⟩
def Uy:List Value:=Ux++([.int .u64 0]++([.int .u64 0]++(ID++(vC++([.slice none 0 0])))))
theorem Xw:Uy.map AV.v=bX sG:=by simp only[Uy,map_append,map_cons,map_nil,jO,kE,Xv];rfl
theorem FC (st:St) (s:Config):Rp st (bX s)=cT (cO st s.fL) fun A=>some (bX { s with fL:=A }):=by
 simp only[bX,sP,iU (sL _),iU (eA _),iU (gM _),iU (dR _),uD,lS,cC]
structure lO where
 has:Bool
 aG:Int
 root:bU
def oJ (s:lO):List AV:=rZ s.has++(qY s.aG++(aW s.root))
@[simp] theorem xQ (s:lO):(oJ s).length=34:=by simp[oJ]
theorem aAu (s:lO):∀x∈oJ s,Flat x:=by
 intro x N;simp only[oJ,mem_append,mem_singleton] at N;rcases N with N|N|N
 ·(exact jR _ _ N)
 ·(exact eA _ _ N)
 ·(exact dR _ _ N)
theorem VR (s:lO):(oJ s)[0]? = some (ae s.has):=rfl
def nP:lO:=⟨false,0,bQ⟩
def y9:List Value:=[.bool false]++([.int .u64 0]++(vC))
theorem TF:y9.map AV.v=oJ nP:=by simp only[y9,map_append,map_cons,map_nil,jO,kE];rfl
structure qX where
 slot:Int
 root:bU
 target:dH
 dL:AV
def iE (s:qX):List AV:=qY s.slot++(aW s.root++(bI s.target++([s.dL])))
abbrev au (s:qX):AV:=.agg (iE s)
@[simp] theorem Gm (s:qX):(iE s).length=67:=by simp[iE]
theorem Vy (s:qX) (h0:Flat s.dL):∀x∈iE s,Flat x:=by
 intro x N;simp only[iE,mem_append,mem_singleton] at N;rcases N with N|N|N|N
 ·(exact eA _ _ N)
 ·(exact dR _ _ N)
 ·(exact cM _ _ N)
 ·(subst N;assumption)
theorem VT (s:qX):(iE s)[0]? = some (ac s.slot):=rfl
def Sz:qX:=⟨0,bQ,dO,af⟩
def lx:List Value:=[.int .u64 0]++(vC++(Di++([.slice none 0 0])))
theorem aAv:lx.map AV.v=iE Sz:=by simp only[lx,map_append,map_cons,map_nil,jO,kE,Ae];rfl
theorem Hk (st:St) (s:qX):Rp st (iE s)=cT (cO st s.dL) fun A=>some (iE { s with dL:=A }):=by
 simp only[iE,sP,iU (eA _),iU (dR _),iU (cM _),uD,lS,cC]
structure Claim where
 source:Int
 target:Int
 root:bU
 dL:AV
def eW (s:Claim):List AV:=qY s.source++(qY s.target++(aW s.root++([s.dL])))
abbrev av (s:Claim):AV:=.agg (eW s)
@[simp] theorem GG (s:Claim):(eW s).length=35:=by simp[eW]
theorem Jv (s:Claim) (h0:Flat s.dL):∀x∈eW s,Flat x:=by
 intro x N;simp only[eW,mem_append,mem_singleton] at N;rcases N with N|N|N|N
 ·(exact eA _ _ N)
 ·(exact eA _ _ N)
 ·(exact dR _ _ N)
 ·(subst N;assumption)
theorem Xx (s:Claim):(eW s)[0]? = some (ac s.source):=rfl
def Ej:Claim:=⟨0,0,bQ,af⟩
def Qg:List Value:=[.int .u64 0]++([.int .u64 0]++(vC++([.slice none 0 0])))
theorem Tr:Qg.map AV.v=eW Ej:=by simp only[Qg,map_append,map_cons,map_nil,jO,kE];rfl
theorem OU (st:St) (s:Claim):Rp st (eW s)=cT (cO st s.dL) fun A=>some (eW { s with dL:=A }):=by
 simp only[eW,sP,iU (eA _),iU (dR _),uD,lS,cC]
structure eZ where
 first:Claim
 second:Claim
def bO (s:eZ):List AV:=eW s.first++(eW s.second)
abbrev aw (s:eZ):AV:=.agg (bO s)
@[simp] theorem Ei (s:eZ):(bO s).length=70:=by simp[bO]
theorem Jw (s:eZ) (h0:Flat s.first.dL) (h1:Flat s.second.dL):∀x∈bO s,Flat x:=by
 intro x N;simp only[bO,mem_append,mem_singleton] at N;rcases N with N|N
 ·(exact Jv _ we _ N)
 ·(exact Jv _ we _ N)
def Xy:eZ:=⟨Ej,Ej⟩
def Gn:List Value:=Qg++(Qg)
theorem Lv:Gn.map AV.v=bO Xy:=by simp only[Gn,map_append,map_cons,map_nil,jO,kE,Tr];rfl
theorem RS (st:St) (s:eZ):Rp st (bO s)=cT (cO st s.first.dL) fun C=>cT (cO st s.second.dL) fun A=>some (bO { s with first:={ s.first with dL:=C },second:={ s.second with dL:=A }}):=by
 simp only[bO,sP,OU,lS,cC]
structure Table where
 ck:dH
 fL:AV
def cH (s:Table):List AV:=bI s.ck++([s.fL])
abbrev ax (s:Table):AV:=.agg (cH s)
@[simp] theorem lY (s:Table):(cH s).length=34:=by simp[cH]
theorem rT (s:Table) (h0:Flat s.fL):∀x∈cH s,Flat x:=by
 intro x N;simp only[cH,mem_append,mem_singleton] at N;rcases N with N|N
 ·(exact cM _ _ N)
 ·(subst N;assumption)
def fW:Table:=⟨dO,af⟩
def Qd:List Value:=Di++([.slice none 0 0])
theorem Tv:Qd.map AV.v=cH fW:=by simp only[Qd,map_append,map_cons,map_nil,jO,kE,Ae];rfl
theorem Wd (st:St) (s:Table):Rp st (cH s)=cT (cO st s.fL) fun A=>some (cH { s with fL:=A }):=by
 simp only[cH,sP,iU (cM _),uD,lS,cC]
structure Request where
 tagged:uM
 block:bU
 tries:Int
 due:Int
def cE (s:Request):List AV:=kD s.tagged++(aW s.block++(oF s.tries++(qY s.due)))
abbrev ay (s:Request):AV:=.agg (cE s)
@[simp] theorem jM (s:Request):(cE s).length=35:=by simp[cE]
theorem eD (s:Request):∀x∈cE s,Flat x:=by
 intro x N;simp only[cE,mem_append,mem_singleton] at N;rcases N with N|N|N|N
 ·(exact Hq _ _ N)
 ·(exact dR _ _ N)
 ·(exact oD _ _ N)
 ·(exact eA _ _ N)
theorem SR (s:Request):∀x∈cE s,cZ x:=by
 intro x N;simp only[cE,mem_append] at N;rcases N with N|N|N|N
 ·exact I7 _ _ N
 ·exact vD _ _ N
 ·exact Gj _ _ N
 ·exact Bx _ _ N
def cS:Request:=⟨CR,bQ,0,0⟩
def Kr:List Value:=Nn++(vC++([.int .i64 0]++([.int .u64 0])))
theorem IN:Kr.map AV.v=cE cS:=by simp only[Kr,map_append,map_cons,map_nil,jO,kE,Np];rfl
structure Command where
 head:bU
 safe:bU
 fin:bU
def cX (s:Command):List AV:=aW s.head++(aW s.safe++(aW s.fin))
@[simp] theorem Hv (s:Command):(cX s).length=96:=by simp[cX]
theorem gG (s:Command):∀x∈cX s,Flat x:=by
 intro x N;simp only[cX,mem_append,mem_singleton] at N;rcases N with N|N|N
 ·(exact dR _ _ N)
 ·(exact dR _ _ N)
 ·(exact dR _ _ N)
theorem Tm (s:Command):∀x∈cX s,cZ x:=by
 intro x N;simp only[cX,mem_append] at N;rcases N with N|N|N
 ·exact vD _ _ N
 ·exact vD _ _ N
 ·exact vD _ _ N
def Gc:Command:=⟨bQ,bQ,bQ⟩
def Lw:List Value:=vC++(vC++(vC))
theorem Qy:Lw.map AV.v=cX Gc:=by simp only[Lw,map_append,map_cons,map_nil,jO,kE];rfl
def J1:List Bool:=Kx++(Kx++(Kx))
theorem MV (a b:Command):mA J1 (cX a) (cX b):=(jZ (oY _ _) (jZ (oY _ _) (oY _ _)))
theorem VU (a b:Command):cX a=cX b↔a=b:=by
 refine⟨fun h=>?_,fun h=>yi⟩
 cases a;cases b
 simp only[cX] at h;obtain⟨h0,h⟩:=append_inj h qe
 obtain⟨J,h⟩:=append_inj h qe
 have e0:=(xN _ _).1 h0
 have A:=(xN _ _).1 J
 have M:=(xN _ _).1 h
 subst e0 A M;rfl
structure uV where
 cJ:AV
 dM:AV
def dQ (s:uV):List AV:=[s.cJ]++([s.dM])
abbrev az (s:uV):AV:=.agg (dQ s)
@[simp] theorem aAx (s:uV):(dQ s).length=2:=by simp[dQ]
theorem rQ (s:uV) (h0:Flat s.cJ) (h1:Flat s.dM):∀x∈dQ s,Flat x:=by
 intro x N;simp only[dQ,mem_append,mem_singleton] at N;rcases N with N|N
 ·(subst N;assumption)
 ·(subst N;assumption)
theorem Fa (s:uV):(dQ s)[0]? = some (s.cJ):=rfl
def wC:uV:=⟨af,af⟩
def IP:List Value:=[.slice none 0 0]++([.slice none 0 0])
theorem IQ:IP.map AV.v=dQ wC:=by simp only[IP,map_append,map_cons,map_nil,jO,kE];rfl
theorem aD9 (st:St) (s:uV):Rp st (dQ s)=cT (cO st s.cJ) fun A=>cT (cO st s.dM) fun C=>some (dQ { s with cJ:=A,dM:=C }):=by
 simp only[dQ,sP,uD,lS,cC]
structure wM where
 dX:dH
 fin:dH
def lE (s:wM):List AV:=bI s.dX++(bI s.fin)
@[simp] theorem Oz (s:wM):(lE s).length=66:=by simp[lE]
theorem kL (s:wM):∀x∈lE s,Flat x:=by
 intro x N;simp only[lE,mem_append,mem_singleton] at N;rcases N with N|N
 ·(exact cM _ _ N)
 ·(exact cM _ _ N)
theorem LC (s:wM):∀x∈lE s,cZ x:=by
 intro x N;simp only[lE,mem_append] at N;rcases N with N|N
 ·exact Nl _ _ N
 ·exact Nl _ _ N
def Xz:wM:=⟨dO,dO⟩
def Gp:List Value:=Di++(Di)
theorem Lx:Gp.map AV.v=lE Xz:=by simp only[Gp,map_append,map_cons,map_nil,jO,kE,Ae];rfl
structure Gx where
 early:AV
 bL:AV
def kY (s:Gx):List AV:=[s.early]++([s.bL])
@[simp] theorem J2 (s:Gx):(kY s).length=2:=by simp[kY]
theorem Sa (s:Gx) (h0:Flat s.early) (h1:Flat s.bL):∀x∈kY s,Flat x:=by
 intro x N;simp only[kY,mem_append,mem_singleton] at N;rcases N with N|N
 ·(subst N;assumption)
 ·(subst N;assumption)
theorem Fb (s:Gx):(kY s)[0]? = some (s.early):=rfl
def Ag:Gx:=⟨af,af⟩
def CS:List Value:=[.slice none 0 0]++([.slice none 0 0])
theorem QH:CS.map AV.v=kY Ag:=by simp only[CS,map_append,map_cons,map_nil,jO,kE];rfl
theorem aAy (st:St) (s:Gx):Rp st (kY s)=cT (cO st s.early) fun C=>cT (cO st s.bL) fun A=>some (kY { s with early:=C,bL:=A }):=by
 simp only[kY,sP,uD,lS,cC]
structure Fc where
 nodes:AV
def mX (s:Fc):List AV:=[s.nodes]
@[simp] theorem aAz (s:Fc):(mX s).length=1:=by simp[mX]
theorem yD (s:Fc) (h0:Flat s.nodes):∀x∈mX s,Flat x:=by
 intro x N;simp only[mX,mem_append,mem_singleton] at N;(subst N;assumption)
theorem It (s:Fc):(mX s)[0]? = some (s.nodes):=rfl
def Pw:Fc:=⟨af⟩
def aAA:List Value:=[.slice none 0 0]
theorem J3:aAA.map AV.v=mX Pw:=by simp only[aAA,map_append,map_cons,map_nil,jO,kE];rfl
theorem aEa (st:St) (s:Fc):Rp st (mX s)=cT (cO st s.nodes) fun A=>some (mX { s with nodes:=A }):=by
 simp only[mX,sP,uD,lS,cC]
structure aF where
 cFg:Config
 dI:uV
 aL:wM
 bH:Gx
 tree:Fc
 now:Int
 dY:bU
 tables:AV
def aB (s:aF):List AV:=bX s.cFg++(dQ s.dI++(lE s.aL++(kY s.bH++(mX s.tree++(qY s.now++(aW s.dY++([s.tables])))))))
abbrev bc (s:aF):AV:=.agg (aB s)
@[simp] theorem FR (s:aF):(aB s).length=150:=by simp[aB]
theorem Yw (s:aF) (h0:Flat s.cFg.fL) (h1:Flat s.dI.cJ) (h2:Flat s.dI.dM) (h3:Flat s.bH.early) (h4:Flat s.bH.bL) (h5:Flat s.tree.nodes) (h6:Flat s.tables):∀x∈aB s,Flat x:=by
 intro x N;simp only[aB,mem_append,mem_singleton] at N;rcases N with N|N|N|N|N|N|N|N
 ·(exact vS _ we _ N)
 ·(exact rQ _ we we _ N)
 ·(exact kL _ _ N)
 ·(exact Sa _ we we _ N)
 ·(exact yD _ we _ N)
 ·(exact eA _ _ N)
 ·(exact dR _ _ N)
 ·(subst N;assumption)
def eU:aF:=⟨sG,wC,Xz,Ag,Pw,0,bQ,af⟩
def IS:List Value:=Uy++(IP++(Gp++(CS++(aAA++([.int .u64 0]++(vC++([.slice none 0 0])))))))
theorem IT:IS.map AV.v=aB eU:=by simp only[IS,map_append,map_cons,map_nil,jO,kE,Xw,IQ,Lx,QH,J3];rfl
theorem fV (st:St) (s:aF):Rp st (aB s)=cT (cO st s.cFg.fL) fun J=>cT (cO st s.dI.cJ) fun C=>cT (cO st s.dI.dM) fun G=>cT (cO st s.bH.early) fun D=>cT (cO st s.bH.bL) fun A=>cT (cO st s.tree.nodes) fun M=>cT (cO st s.tables) fun N=>some (aB { s with cFg:={ s.cFg with fL:=J },dI:={ s.dI with cJ:=C,dM:=G },bH:={ s.bH with early:=D,bL:=A },tree:={ s.tree with nodes:=M },tables:=N }):=by
 simp only[aB,sP,FC,aD9,iU (kL _),aAy,aEa,iU (eA _),iU (dR _),uD,lS,cC]
structure State where
 store:aF
 fX:AV
 iB:AV
 cI:Int
 zH:Bool
 last:Command
 overflow:Bool
 halted:Bool
def aE (s:State):List AV:=aB s.store++([s.fX]++([s.iB]++(qY s.cI++(rZ s.zH++(cX s.last++(rZ s.overflow++(rZ s.halted)))))))
abbrev bd (s:State):AV:=.agg (aE s)
@[simp] theorem Cc (s:State):(aE s).length=252:=by simp[aE]
theorem XW (s:State) (h0:Flat s.store.cFg.fL) (h1:Flat s.store.dI.cJ) (h2:Flat s.store.dI.dM) (h3:Flat s.store.bH.early) (h4:Flat s.store.bH.bL) (h5:Flat s.store.tree.nodes) (h6:Flat s.store.tables) (h7:Flat s.fX) (h8:Flat s.iB):∀x∈aE s,Flat x:=by
 intro x N;simp only[aE,mem_append,mem_singleton] at N;rcases N with N|N|N|N|N|N|N|N
 ·(exact Yw _ we we we we we we we _ N)
 ·(subst N;assumption)
 ·(subst N;assumption)
 ·(exact eA _ _ N)
 ·(exact jR _ _ N)
 ·(exact gG _ _ N)
 ·(exact jR _ _ N)
 ·(exact jR _ _ N)
def iS:State:=⟨eU,af,af,0,false,Gc,false,false⟩
def Xa:List Value:=IS++([.slice none 0 0]++([.slice none 0 0]++([.int .u64 0]++([.bool false]++(Lw++([.bool false]++([.bool false])))))))
theorem GU:Xa.map AV.v=aE iS:=by simp only[Xa,map_append,map_cons,map_nil,jO,kE,IT,Qy];rfl
theorem xE (st:St) (s:State):Rp st (aE s)=cT (cO st s.store.cFg.fL) fun J=>cT (cO st s.store.dI.cJ) fun C=>cT (cO st s.store.dI.dM) fun G=>cT (cO st s.store.bH.early) fun D=>cT (cO st s.store.bH.bL) fun A=>cT (cO st s.store.tree.nodes) fun M=>cT (cO st s.store.tables) fun N=>cT (cO st s.fX) fun R=>cT (cO st s.iB) fun S=>some (aE { s with store:={ s.store with cFg:={ s.store.cFg with fL:=J },dI:={ s.store.dI with cJ:=C,dM:=G },bH:={ s.store.bH with early:=D,bL:=A },tree:={ s.store.tree with nodes:=M },tables:=N },fX:=R,iB:=S }):=by
 simp only[aE,sP,fV,uD,iU (eA _),iU (jR _),iU (gG _),lS,cC]
structure uI where
 kind:Int
 block:Block
 Dy:qX
 mQ:eZ
 table:Table
 verdict:fM
 write:Int
 oM:Int
def jJ (s:uI):List AV:=oF s.kind++(aY s.block++(iE s.Dy++(bO s.mQ++(cH s.table++(cK s.verdict++(oF s.write++(oF s.oM)))))))
abbrev be (s:uI):AV:=.agg (jJ s)
@[simp] theorem A4 (s:uI):(jJ s).length=446:=by simp[jJ]
theorem aCD (s:uI) (h0:Flat s.Dy.dL) (h1:Flat s.mQ.first.dL) (h2:Flat s.mQ.second.dL) (h3:Flat s.table.fL):∀x∈jJ s,Flat x:=by
 intro x N;simp only[jJ,mem_append,mem_singleton] at N;rcases N with N|N|N|N|N|N|N|N
 ·(exact oD _ _ N)
 ·(exact yR _ _ N)
 ·(exact Vy _ we _ N)
 ·(exact Jw _ we we _ N)
 ·(exact rT _ we _ N)
 ·(exact fJ _ _ N)
 ·(exact oD _ _ N)
 ·(exact oD _ _ N)
theorem VV (s:uI):(jJ s)[0]? = some (aa s.kind):=rfl
def yO:uI:=⟨0,gQ,Sz,Xy,fW,IM,0,0⟩
def tz:List Value:=[.int .i64 0]++(Py++(lx++(Gn++(Qd++(Lu++([.int .i64 0]++([.int .i64 0])))))))
theorem aIq:tz.map AV.v=jJ yO:=by simp only[tz,map_append,map_cons,map_nil,jO,kE,Uv,aAv,Lv,Tv,Qx];rfl
def dF (l:List lO):List AV:=l.flatMap oJ
@[simp] theorem FK (l:List (lO)):(dF l).length=l.length * 34:=by
 induction l with
 | nil=>rfl
 | cons x l ih=>simp only[dF,flatMap_cons,length_append,xQ,length_cons] at *;omega
theorem mR (l:List (lO)):∀x∈dF l,Flat x:=by
 intro x N;obtain⟨y,_,Y⟩:=mem_flatMap.1 N
 exact aAu y x Y
def cN (l:List qX):List AV:=l.flatMap iE
@[simp] theorem aS4 (l:List (qX)):(cN l).length=l.length * 67:=by
 induction l with
 | nil=>rfl
 | cons x l ih=>simp only[cN,flatMap_cons,length_append,Gm,length_cons] at *;omega
theorem uL (l:List (qX)) (h:∀y∈l,Flat y.dL):∀x∈cN l,Flat x:=by
 intro x N;obtain⟨y,hm,Y⟩:=mem_flatMap.1 N
 exact Vy y (h y hm) x Y
def bG (l:List Table):List AV:=l.flatMap cH
@[simp] theorem Zi (l:List (Table)):(bG l).length=l.length * 34:=by
 induction l with
 | nil=>rfl
 | cons x l ih=>simp only[bG,flatMap_cons,length_append,lY,length_cons] at *;omega
theorem jL (l:List (Table)) (h:∀y∈l,Flat y.fL):∀x∈bG l,Flat x:=by
 intro x N;obtain⟨y,hm,Y⟩:=mem_flatMap.1 N
 exact rT y (h y hm) x Y
def aC (l:List Request):List AV:=l.flatMap cE
@[simp] theorem Eg (l:List (Request)):(aC l).length=l.length * 35:=by
 induction l with
 | nil=>rfl
 | cons x l ih=>simp only[aC,flatMap_cons,length_append,jM,length_cons] at *;omega
theorem dG (l:List (Request)):∀x∈aC l,Flat x:=by
 intro x N;obtain⟨y,_,Y⟩:=mem_flatMap.1 N
 exact eD y x Y
theorem rq {P:Prop} (h:P:=by simp only[lh,PO,lj,ll,Wz,lu,E4,lv,aB,aE,jJ,bX,kF,cK,kD,oJ,iE,eW,bO,cH,cE,cX,dQ,lE,kY,mX,bI,eI,aY,qY,oF,rZ,iN,sN,length_append,length_cons,length_nil,getElem?_cons_zero,and_self,seval]):P:=h
theorem MW (s:uM) (x:Int):dE (kD s) 0 ([ac x]) 1=kD { s with tag:=x }:=rq
theorem Uz (s:fM) (x:uM):dE (cK s) 0 (kD x) 1=cK { s with tagged:=x }:=rq
theorem Ig (s:fM):(cK s)[0]? = some (ac s.tagged.tag):=rq
theorem Ji (s:fM) (x:Int):dE (cK s) 0 ([ac x]) 1=cK { s with tagged:={ s.tagged with tag:=x }}:=rq
theorem Ya (s:fM):(cK s)[1]? = some (aa s.kind):=rq
theorem AX (s:fM) (x:Int):dE (cK s) 1 ([aa x]) 2=cK { s with kind:=x }:=rq
theorem Va (s:fM):rd (cK s) 2 32=aW s.cJ:=rq
theorem Vb (s:fM) (x:bU):dE (cK s) 2 (aW x) 34=cK { s with cJ:=x }:=rq
theorem IU (s:fM):rd (cK s) 0 34=cK s:=rq
theorem IV (s x:fM):dE (cK s) 0 (cK x) 34=cK x:=rq
theorem AY (s:tI) (x:Int):dE (kF s) 0 ([aa x]) 1=kF { s with tO:=x }:=rq
theorem AZ (s:tI) (x:Int):dE (kF s) 1 ([aa x]) 2=kF { s with vA:=x }:=rq
theorem Yb (s:tI) (x:Int):dE (kF s) 2 ([aa x]) 3=kF { s with mK:=x }:=rq
theorem Yc (s:tI) (x:Int):dE (kF s) 3 ([aa x]) 4=kF { s with rV:=x }:=rq
theorem Yd (s:tI) (x:Int):dE (kF s) 4 ([aa x]) 5=kF { s with oV:=x }:=rq
theorem Vc (s:tI) (x:Int):dE (kF s) 5 ([ac x]) 6=kF { s with qI:=x }:=rq
theorem MX (s:Config) (x:tI):dE (bX s) 0 (kF x) 6=bX { s with lim:=x }:=rq
theorem Ly (s:Config):(bX s)[0]? = some (aa s.lim.tO):=rq
theorem Lz (s:Config):(bX s)[1]? = some (aa s.lim.vA):=rq
theorem Jj (s:Config):(bX s)[2]? = some (aa s.lim.mK):=rq
theorem Jk (s:Config):(bX s)[3]? = some (aa s.lim.rV):=rq
theorem Jl (s:Config):(bX s)[4]? = some (aa s.lim.oV):=rq
theorem Ih (s:Config):(bX s)[5]? = some (ac s.lim.qI):=rq
theorem IW (s:Config):(bX s)[6]? = some (ac s.iH):=rq
theorem MY (s:Config) (x:Int):dE (bX s) 6 ([ac x]) 7=bX { s with iH:=x }:=rq
theorem Vd (s:Config):(bX s)[7]? = some (ac s.pO):=rq
theorem Ye (s:Config) (x:Int):dE (bX s) 7 ([ac x]) 8=bX { s with pO:=x }:=rq
theorem MZ (s:Config) (x:oG):dE (bX s) 8 (fD x) 12=bX { s with Ps:=x }:=rq
theorem Ve (s:Config):rd (bX s) 12 32=aW s.fR:=rq
theorem Vf (s:Config) (x:bU):dE (bX s) 12 (aW x) 44=bX { s with fR:=x }:=rq
theorem Jt (s:Config):(bX s)[44]? = some (s.fL):=rq
theorem NA (s:Config) (x:AV):dE (bX s) 44 ([x]) 45=bX { s with fL:=x }:=rq
theorem NB (s:Config):rd (bX s) 0 45=bX s:=rq
theorem NC (s x:Config):dE (bX s) 0 (bX x) 45=bX x:=rq
theorem J4 (s:lO) (x:Bool):dE (oJ s) 0 ([ae x]) 1=oJ { s with has:=x }:=rq
theorem IX (s:lO):(oJ s)[1]? = some (ac s.aG):=rq
theorem ND (s:lO) (x:Int):dE (oJ s) 1 ([ac x]) 2=oJ { s with aG:=x }:=rq
theorem VW (s:lO):rd (oJ s) 2 32=aW s.root:=rq
theorem VX (s:lO) (x:bU):dE (oJ s) 2 (aW x) 34=oJ { s with root:=x }:=rq
theorem J5 (s:lO):rd (oJ s) 0 34=oJ s:=rq
theorem J6 (s x:lO):dE (oJ s) 0 (oJ x) 34=oJ x:=rq
theorem J7 (s:qX) (x:Int):dE (iE s) 0 ([ac x]) 1=iE { s with slot:=x }:=rq
theorem J8 (s:qX):rd (iE s) 1 32=aW s.root:=rq
theorem J9 (s:qX) (x:bU):dE (iE s) 1 (aW x) 33=iE { s with root:=x }:=rq
theorem NF (s:qX):rd (iE s) 33 33=bI s.target:=rq
theorem NG (s:qX) (x:dH):dE (iE s) 33 (bI x) 66=iE { s with target:=x }:=rq
theorem Ma (s:qX):(iE s)[33]? = some (ac s.target.aG):=rq
theorem Og (s:qX) (x:Int):dE (iE s) 33 ([ac x]) 34=iE { s with target:={ s.target with aG:=x }}:=rq
theorem Qz (s:qX):rd (iE s) 34 32=aW s.target.root:=rq
theorem Ra (s:qX) (x:bU):dE (iE s) 34 (aW x) 66=iE { s with target:={ s.target with root:=x }}:=rq
theorem Sb (s:qX):(iE s)[66]? = some (s.dL):=rq
theorem K4 (s:qX) (x:AV):dE (iE s) 66 ([x]) 67=iE { s with dL:=x }:=rq
theorem aAB (s:qX):rd (iE s) 0 67=iE s:=rq
theorem aAC (s x:qX):dE (iE s) 0 (iE x) 67=iE x:=rq
theorem BA (s:Claim) (x:Int):dE (eW s) 0 ([ac x]) 1=eW { s with source:=x }:=rq
theorem Yf (s:Claim):(eW s)[1]? = some (ac s.target):=rq
theorem BB (s:Claim) (x:Int):dE (eW s) 1 ([ac x]) 2=eW { s with target:=x }:=rq
theorem NH (s:Claim):rd (eW s) 2 32=aW s.root:=rq
theorem NJ (s:Claim) (x:bU):dE (eW s) 2 (aW x) 34=eW { s with root:=x }:=rq
theorem Ju (s:Claim):(eW s)[34]? = some (s.dL):=rq
theorem NK (s:Claim) (x:AV):dE (eW s) 34 ([x]) 35=eW { s with dL:=x }:=rq
theorem VY (s:Claim):rd (eW s) 0 35=eW s:=rq
theorem VZ (s x:Claim):dE (eW s) 0 (eW x) 35=eW x:=rq
theorem Vg (s:eZ):rd (bO s) 0 35=eW s.first:=rq
theorem Dp (s:eZ) (x:Claim):dE (bO s) 0 (eW x) 35=bO { s with first:=x }:=rq
theorem Cu (s:eZ):(bO s)[0]? = some (ac s.first.source):=rq
theorem Cv (s:eZ):(bO s)[1]? = some (ac s.first.target):=rq
theorem pM (s:eZ):(bO s)[34]? = some (s.first.dL):=rq
theorem Rb (s:eZ):rd (bO s) 35 35=eW s.second:=rq
theorem Ca (s:eZ) (x:Claim):dE (bO s) 35 (eW x) 70=bO { s with second:=x }:=rq
theorem Cj (s:eZ):(bO s)[35]? = some (ac s.second.source):=rq
theorem Cx (s:eZ) (x:Int):dE (bO s) 35 ([ac x]) 36=bO { s with second:={ s.second with source:=x }}:=rq
theorem Ck (s:eZ):(bO s)[36]? = some (ac s.second.target):=rq
theorem Cy (s:eZ) (x:Int):dE (bO s) 36 ([ac x]) 37=bO { s with second:={ s.second with target:=x }}:=rq
theorem Gq (s:eZ) (x:bU):dE (bO s) 37 (aW x) 69=bO { s with second:={ s.second with root:=x }}:=rq
theorem oQ (s:eZ):(bO s)[69]? = some (s.second.dL):=rq
theorem BC (s:eZ):rd (bO s) 0 70=bO s:=rq
theorem BD (s x:eZ):dE (bO s) 0 (bO x) 70=bO x:=rq
theorem K5 (s:Table):rd (cH s) 0 33=bI s.ck:=rq
theorem K6 (s:Table) (x:dH):dE (cH s) 0 (bI x) 33=cH { s with ck:=x }:=rq
theorem Rc (s:Table):(cH s)[0]? = some (ac s.ck.aG):=rq
theorem Yg (s:Table):rd (cH s) 1 32=aW s.ck.root:=rq
theorem Ow (s:Table):(cH s)[33]? = some (s.fL):=rq
theorem WA (s:Table) (x:AV):dE (cH s) 33 ([x]) 34=cH { s with fL:=x }:=rq
theorem WB (s:Table):rd (cH s) 0 34=cH s:=rq
theorem WC (s x:Table):dE (cH s) 0 (cH x) 34=cH x:=rq
theorem Vh (s:Request):rd (cE s) 0 1=kD s.tagged:=rq
theorem Vi (s:Request) (x:uM):dE (cE s) 0 (kD x) 1=cE { s with tagged:=x }:=rq
theorem Ii (s:Request):(cE s)[0]? = some (ac s.tagged.tag):=rq
theorem Yh (s:Request):rd (cE s) 1 32=aW s.block:=rq
theorem Yi (s:Request) (x:bU):dE (cE s) 1 (aW x) 33=cE { s with block:=x }:=rq
theorem Vj (s:Request):(cE s)[33]? = some (aa s.tries):=rq
theorem Yj (s:Request) (x:Int):dE (cE s) 33 ([aa x]) 34=cE { s with tries:=x }:=rq
theorem BE (s:Request):(cE s)[34]? = some (ac s.due):=rq
theorem IY (s:Request) (x:Int):dE (cE s) 34 ([ac x]) 35=cE { s with due:=x }:=rq
theorem IZ (s:Request):rd (cE s) 0 35=cE s:=rq
theorem JA (s x:Request):dE (cE s) 0 (cE x) 35=cE x:=rq
theorem BF (s:Command):rd (cX s) 0 32=aW s.head:=rq
theorem BG (s:Command) (x:bU):dE (cX s) 0 (aW x) 32=cX { s with head:=x }:=rq
theorem BH (s:Command):rd (cX s) 32 32=aW s.safe:=rq
theorem BI (s:Command) (x:bU):dE (cX s) 32 (aW x) 64=cX { s with safe:=x }:=rq
theorem JB (s:Command):rd (cX s) 64 32=aW s.fin:=rq
theorem JC (s:Command) (x:bU):dE (cX s) 64 (aW x) 96=cX { s with fin:=x }:=rq
theorem JD (s:Command):rd (cX s) 0 96=cX s:=rq
theorem JE (s x:Command):dE (cX s) 0 (cX x) 96=cX x:=rq
theorem BJ (s:uV) (x:AV):dE (dQ s) 0 ([x]) 1=dQ { s with cJ:=x }:=rq
theorem Is (s:uV):(dQ s)[1]? = some (s.dM):=rq
theorem JF (s:uV) (x:AV):dE (dQ s) 1 ([x]) 2=dQ { s with dM:=x }:=rq
theorem WD (s:uV):rd (dQ s) 0 2=dQ s:=rq
theorem WE (s x:uV):dE (dQ s) 0 (dQ x) 2=dQ x:=rq
theorem Yk (s:wM) (x:dH):dE (lE s) 0 (bI x) 33=lE { s with dX:=x }:=rq
theorem BK (s:wM) (x:dH):dE (lE s) 33 (bI x) 66=lE { s with fin:=x }:=rq
theorem Bj (s:Gx):(kY s)[1]? = some (s.bL):=rq
theorem BL (s:aF):rd (aB s) 0 45=bX s.cFg:=rq
theorem BM (s:aF) (x:Config):dE (aB s) 0 (bX x) 45=aB { s with cFg:=x }:=rq
theorem Cl (s:aF):(aB s)[0]? = some (aa s.cFg.lim.tO):=rq
theorem Cm (s:aF):(aB s)[1]? = some (aa s.cFg.lim.vA):=rq
theorem Ap (s:aF):(aB s)[2]? = some (aa s.cFg.lim.mK):=rq
theorem Aq (s:aF):(aB s)[3]? = some (aa s.cFg.lim.rV):=rq
theorem Mb (s:aF):(aB s)[6]? = some (ac s.cFg.iH):=rq
theorem Oh (s:aF):rd (aB s) 8 4=fD s.cFg.Ps:=rq
theorem yF (s:aF):(aB s)[44]? = some (s.cFg.fL):=rq
theorem Oi (s:aF) (x:AV):dE (aB s) 44 ([x]) 45=aB { s with cFg:={ s.cFg with fL:=x }}:=rq
theorem JG (s:aF):rd (aB s) 45 2=dQ s.dI:=rq
theorem JH (s:aF) (x:uV):dE (aB s) 45 (dQ x) 47=aB { s with dI:=x }:=rq
theorem vT (s:aF):(aB s)[45]? = some (s.dI.cJ):=rq
theorem Jm (s:aF) (x:AV):dE (aB s) 45 ([x]) 46=aB { s with dI:={ s.dI with cJ:=x }}:=rq
theorem wS (s:aF):(aB s)[46]? = some (s.dI.dM):=rq
theorem Mc (s:aF) (x:AV):dE (aB s) 46 ([x]) 47=aB { s with dI:={ s.dI with dM:=x }}:=rq
theorem Vk (s:aF) (x:wM):dE (aB s) 47 (lE x) 113=aB { s with aL:=x }:=rq
theorem Ij (s:aF):rd (aB s) 47 33=bI s.aL.dX:=rq
theorem Ik (s:aF) (x:dH):dE (aB s) 47 (bI x) 80=aB { s with aL:={ s.aL with dX:=x }}:=rq
theorem yW (s:aF):(aB s)[47]? = some (ac s.aL.dX.aG):=rq
theorem Ar (s:aF):rd (aB s) 48 32=aW s.aL.dX.root:=rq
theorem Jn (s:aF):rd (aB s) 80 33=bI s.aL.fin:=rq
theorem Jo (s:aF) (x:dH):dE (aB s) 80 (bI x) 113=aB { s with aL:={ s.aL with fin:=x }}:=rq
theorem zL (s:aF):(aB s)[80]? = some (ac s.aL.fin.aG):=rq
theorem Cn (s:aF):rd (aB s) 81 32=aW s.aL.fin.root:=rq
theorem vU (s:aF):(aB s)[113]? = some (s.bH.early):=rq
theorem Jp (s:aF) (x:AV):dE (aB s) 113 ([x]) 114=aB { s with bH:={ s.bH with early:=x }}:=rq
theorem tL (s:aF):(aB s)[114]? = some (s.bH.bL):=rq
theorem Gr (s:aF) (x:AV):dE (aB s) 114 ([x]) 115=aB { s with bH:={ s.bH with bL:=x }}:=rq
theorem NL (s:aF):rd (aB s) 115 1=mX s.tree:=rq
theorem Ph (s:aF) (x:Fc):dE (aB s) 115 (mX x) 116=aB { s with tree:=x }:=rq
theorem yG (s:aF):(aB s)[115]? = some (s.tree.nodes):=rq
theorem Oj (s:aF) (x:AV):dE (aB s) 115 ([x]) 116=aB { s with tree:={ s.tree with nodes:=x }}:=rq
theorem NM (s:aF):(aB s)[116]? = some (ac s.now):=rq
theorem WG (s:aF) (x:Int):dE (aB s) 116 ([ac x]) 117=aB { s with now:=x }:=rq
theorem JI (s:aF):rd (aB s) 117 32=aW s.dY:=rq
theorem JJ (s:aF) (x:bU):dE (aB s) 117 (aW x) 149=aB { s with dY:=x }:=rq
theorem Fe (s:aF):(aB s)[149]? = some (s.tables):=rq
theorem BN (s:aF) (x:AV):dE (aB s) 149 ([x]) 150=aB { s with tables:=x }:=rq
theorem WH (s:aF):rd (aB s) 0 150=aB s:=rq
theorem WI (s x:aF):dE (aB s) 0 (aB x) 150=aB x:=rq
theorem Lc (s:State):rd (aE s) 0 150=aB s.store:=rq
theorem JK (s:State) (x:aF):dE (aE s) 0 (aB x) 150=aE { s with store:=x }:=rq
theorem vI (s:State):(aE s)[4]? = some (aa s.store.cFg.lim.oV):=rq
theorem uR (s:State):(aE s)[5]? = some (ac s.store.cFg.lim.qI):=rq
theorem rR (s:State):(aE s)[44]? = some (s.store.cFg.fL):=rq
theorem qN (s:State):(aE s)[45]? = some (s.store.dI.cJ):=rq
theorem rD (s:State):(aE s)[46]? = some (s.store.dI.dM):=rq
theorem vJ (s:State):rd (aE s) 48 32=aW s.store.aL.dX.root:=rq
theorem wO (s:State):rd (aE s) 81 32=aW s.store.aL.fin.root:=rq
theorem qO (s:State):(aE s)[113]? = some (s.store.bH.early):=rq
theorem pK (s:State):(aE s)[114]? = some (s.store.bH.bL):=rq
theorem Ol (s:State):rd (aE s) 115 1=mX s.store.tree:=rq
theorem zW (s:State) (x:Fc):dE (aE s) 115 (mX x) 116=aE { s with store:={ s.store with tree:=x }}:=rq
theorem mY (s:State):(aE s)[115]? = some (s.store.tree.nodes):=rq
theorem Cz (s:State) (x:AV):dE (aE s) 115 ([x]) 116=aE { s with store:={ s.store with tree:={ s.store.tree with nodes:=x }} }:=rq
theorem Om (s:State):(aE s)[116]? = some (ac s.store.now):=rq
theorem Md (s:State):rd (aE s) 117 32=aW s.store.dY:=rq
theorem Me (s:State) (x:bU):dE (aE s) 117 (aW x) 149=aE { s with store:={ s.store with dY:=x }}:=rq
theorem vW (s:State):(aE s)[149]? = some (s.store.tables):=rq
theorem Bk (s:State):(aE s)[150]? = some (s.fX):=rq
theorem Vl (s:State) (x:AV):dE (aE s) 150 ([x]) 151=aE { s with fX:=x }:=rq
theorem De (s:State):(aE s)[151]? = some (s.iB):=rq
theorem Yl (s:State) (x:AV):dE (aE s) 151 ([x]) 152=aE { s with iB:=x }:=rq
theorem Vm (s:State):(aE s)[152]? = some (ac s.cI):=rq
theorem Ym (s:State) (x:Int):dE (aE s) 152 ([ac x]) 153=aE { s with cI:=x }:=rq
theorem JL (s:State):(aE s)[153]? = some (ae s.zH):=rq
theorem NN (s:State) (x:Bool):dE (aE s) 153 ([ae x]) 154=aE { s with zH:=x }:=rq
theorem NO (s:State):rd (aE s) 154 96=cX s.last:=rq
theorem NP (s:State) (x:Command):dE (aE s) 154 (cX x) 250=aE { s with last:=x }:=rq
theorem Vn (s:State) (x:Bool):dE (aE s) 250 ([ae x]) 251=aE { s with overflow:=x }:=rq
theorem Yn (s:State):(aE s)[251]? = some (ae s.halted):=rq
theorem BO (s:State) (x:Bool):dE (aE s) 251 ([ae x]) 252=aE { s with halted:=x }:=rq
theorem WJ (s:State):rd (aE s) 0 252=aE s:=rq
theorem WK (s x:State):dE (aE s) 0 (aE x) 252=aE x:=rq
theorem K7 (s:uI) (x:Int):dE (jJ s) 0 ([aa x]) 1=jJ { s with kind:=x }:=rq
theorem WL (s:uI):rd (jJ s) 1 238=aY s.block:=rq
theorem WM (s:uI) (x:Block):dE (jJ s) 1 (aY x) 239=jJ { s with block:=x }:=rq
theorem aAD (s:uI):rd (jJ s) 239 67=iE s.Dy:=rq
theorem aAE (s:uI) (x:qX):dE (jJ s) 239 (iE x) 306=jJ { s with Dy:=x }:=rq
theorem Ff (s:uI):(jJ s)[305]? = some (s.Dy.dL):=rq
theorem WN (s:uI):rd (jJ s) 306 70=bO s.mQ:=rq
theorem WO (s:uI) (x:eZ):dE (jJ s) 306 (bO x) 376=jJ { s with mQ:=x }:=rq
theorem Re (s:uI):rd (jJ s) 306 35=eW s.mQ.first:=rq
theorem tM (s:uI):(jJ s)[340]? = some (s.mQ.first.dL):=rq
theorem On (s:uI):rd (jJ s) 341 35=eW s.mQ.second:=rq
theorem sU (s:uI):(jJ s)[375]? = some (s.mQ.second.dL):=rq
theorem WQ (s:uI):rd (jJ s) 376 34=cH s.table:=rq
theorem WR (s:uI) (x:Table):dE (jJ s) 376 (cH x) 410=jJ { s with table:=x }:=rq
theorem BP (s:uI):rd (jJ s) 376 33=bI s.table.ck:=rq
theorem Df (s:uI):(jJ s)[409]? = some (s.table.fL):=rq
theorem JM (s:uI):rd (jJ s) 410 34=cK s.verdict:=rq
theorem JN (s:uI) (x:fM):dE (jJ s) 410 (cK x) 444=jJ { s with verdict:=x }:=rq
theorem NQ (s:uI):(jJ s)[444]? = some (aa s.write):=rq
theorem WS (s:uI) (x:Int):dE (jJ s) 444 ([aa x]) 445=jJ { s with write:=x }:=rq
theorem WT (s:uI):(jJ s)[445]? = some (aa s.oM):=rq
theorem K8 (s:uI) (x:Int):dE (jJ s) 445 ([aa x]) 446=jJ { s with oM:=x }:=rq
theorem aAF (s:uI):rd (jJ s) 0 446=jJ s:=rq
theorem aAG (s x:uI):dE (jJ s) 0 (jJ x) 446=jJ x:=rq
end Go.Ab
end
namespace Go.Ab.Tryz
open Classical Go.Proofs Go.Ab
variable {T:Nat} {call:Nat->List AV->Option AV} {ops:Array Oper} {st:St} {pos:String} {aft:Array Edge}
abbrev KM (T:Nat) (f:Nat->Option (Nat × Nat)) (c:List AV):Prop:=∀(st:St) (parts:List (Nat × Operand)),wU prog st T parts=if (parts.all fun p=>(st.ev p.2).lL)=true then (mP f c (parts.map fun p=>(p.1,st.ev p.2))).map .agg else none
abbrev B0G (S e sz:Nat):Prop:=∀ {call:Nat->List AV->Option AV} {ops:Array Oper} {st:St} {T:Nat} {pos:String} {aft:Array Edge} (d:Nat),cU prog call ops ⟨some d,.buildSlice S 0 #[],T,pos,aft,none⟩ st=some ((st.new d (.row e sz 0 [])).put (some d) (.own d (st.aJ d)))
abbrev ir (S sz e:Nat):Prop:=∀ {call:Nat->List AV->Option AV} {ops:Array Oper} {st:St} {T:Nat} {pos:String} {aft:Array Edge} (d:Nat) (x:Operand),cU prog call ops ⟨some d,.buildSlice S 1 #[(0,x)],T,pos,aft,none⟩ st=cj sz (st.ev x) (fun cs=>some ((st.new d (.row e sz 1 cs)).put (some d) (.own d (st.aJ d)))) (cU prog call ops ⟨some d,.buildSlice S 1 #[(0,x)],T,pos,aft,none⟩ st)
def Eo {n:Nat} (hi:lJ prog T=some (true,n)) (cs:List AV) (o:Nat) (h:n<=cs.length-o) (M:n≠0:=by decide):gI prog T cs o=some (.agg (rd cs o n)):=by
 simp[gI,hi,h,M]
def mixed:prog.follows .mixedOrders=true:=WP
def ld3 (cs:List AV) (o:Nat):gI prog 3 cs o=cs[o]?:=by
 have:lJ prog 3=some (false,1):=WP
 simp only[gI,this]
theorem cd:eC prog 3=some [.int .i64 0]:=WP
def a58 (cs:List AV) (o:Nat):gI prog 23 cs o=cs[o]?:=by
 have:lJ prog 23=some (false,1):=WP
 simp only[gI,this]
def AG:rK prog 23=some 1:=WP
def aO2:eC prog 23=some [.int .u64 0]:=WP
def ld5 (cs:List AV) (o:Nat):gI prog 5 cs o=cs[o]?:=by
 have:lJ prog 5=some (false,1):=WP
 simp only[gI,this]
def ze5:eC prog 5=some [.int .u8 0]:=WP
def ld4 (cs:List AV) (o:Nat):gI prog 4 cs o=cs[o]?:=by
 have:lJ prog 4=some (false,1):=WP
 simp only[gI,this]
def sw:rK prog 4=some 1:=WP
def ze4:eC prog 4=some [.bool false]:=WP
def a6e (cs:List AV) (o:Nat) (h:32<=cs.length-o):gI prog 29 cs o=some (.agg (rd cs o 32)):=Eo WP cs o h
def aOm:rK prog 29=some 32:=WP
def aPK:eC prog 29=some vC:=WP
def aQx (a b:bU):Im prog 29 (aW a) (aW b)=some (decide (a=b)):=Lm (l:=Kx) WP WP WP (oY a b) (xN a b)
def a6f (a b:bU):jS prog .eql 29 (.agg (aW a)) (.agg (aW b))=some (ae (decide (a=b))):=by simp only[jS,aQx,cR]
def a6g (a b:bU):jS prog .neq 29 (.agg (aW a)) (.agg (aW b))=some (ae (!(decide (a=b)))):=by simp only[jS,aQx,cR]
def aOe:gW prog 29=some (32,1):=WP
def a6h:KM 29 (fun i=>some (i * 1,1)) (aW bQ):=fun _ _=>iA (z:=vC) WP jO (Zu WP)
def a6i (cs:List AV) (o:Nat) (h:4<=cs.length-o):gI prog 27 cs o=some (.agg (rd cs o 4)):=Eo WP cs o h
def aTl:gW prog 27=some (4,1):=WP
def a6l:KM 27 (fun i=>some (i * 1,1)) (fD QF):=fun _ _=>iA (z:=ID) WP kE (Zu WP)
def a6m (cs:List AV) (o:Nat) (h:33<=cs.length-o):gI prog 40 cs o=some (.agg (rd cs o 33)):=Eo WP cs o h
def aO0:rK prog 40=some 33:=WP
def aOk:eC prog 40=some Di:=WP
def aQA (a b:dH):Im prog 40 (bI a) (bI b)=some (decide (a=b)):=Lm (l:=QG) WP WP WP (Ci a b) (uX a b)
def a6n (a b:dH):jS prog .eql 40 (ag a) (ag b)=some (ae (decide (a=b))):=by simp only[jS,aQA,cR]
def a6o (a b:dH):jS prog .neq 40 (ag a) (ag b)=some (ae (!(decide (a=b)))):=by simp only[jS,aQA,cR]
def a6p:KM 40 (fun i=>([(0,1),(1,32)]:List (Nat × Nat))[i]?) (bI dO):=fun _ _=>iA (z:=Di) WP Ae (fC WP)
def a6q (cs:List AV) (o:Nat) (h:66<=cs.length-o):gI prog 64 cs o=some (.agg (rd cs o 66)):=Eo WP cs o h
def a6t:KM 64 (fun i=>([(0,33),(33,33)]:List (Nat × Nat))[i]?) (eI Ha):=fun _ _=>iA (z:=Us) WP Xo (fC WP)
def aT2 (cs:List AV) (o:Nat) (h:238<=cs.length-o):gI prog 66 cs o=some (.agg (rd cs o 238)):=Eo WP cs o h
def pq:rK prog 66=some 238:=WP
def jo:eC prog 66=some Py:=WP
def aYj (a b:Block):Im prog 66 (aY a) (aY b)=some (decide (a=b)):=Lm (l:=aAf) WP WP WP (Zv a b) (aAg a b)
def a6u (a b:Block):jS prog .eql 66 (ah a) (ah b)=some (ae (decide (a=b))):=by simp only[jS,aYj,cR]
def a6v:KM 66 (fun i=>([(0,66),(66,1),(67,32),(99,32),(131,32),(163,4),(167,4),(171,33),(204,33),(237,1)]:List (Nat × Nat))[i]?) (aY gQ):=fun _ _=>iA (z:=Py) WP Uv (fC WP)
def a6w (cs:List AV) (o:Nat) (h:240<=cs.length-o):gI prog 84 cs o=some (.agg (rd cs o 240)):=Eo WP cs o h
def aQQ:eC prog 84=some F9:=WP
def a6y:KM 84 (fun i=>([(0,238),(238,1),(239,1)]:List (Nat × Nat))[i]?) (gC tw):=fun _ _=>iA (z:=F9) WP VI (fC WP)
def a6z (cs:List AV) (o:Nat) (h:1<=cs.length-o):gI prog 49 cs o=some (.agg (rd cs o 1)):=Eo WP cs o h
def a6C (st:St) (parts:List (Nat × Operand)):wU prog st 49 parts=if (parts.all fun p=>(st.ev p.2).lL)=true then (mP (fun i=>([(0,1)]:List (Nat × Nat))[i]?) [af] (parts.map fun p=>(p.1,st.ev p.2))).map .agg else none:=iA (z:=[.slice none 0 0]) WP rfl (fC WP)
def a6D (cs:List AV) (o:Nat) (h:1<=cs.length-o):gI prog 76 cs o=some (.agg (rd cs o 1)):=Eo WP cs o h
def FX0:intKind prog 3=some .i64/\rK prog 3=some 1/\intKind prog 23=some .u64/\intKind prog 128=some .u64/\rK prog 128=some 1/\eC prog 128=some [.int .u64 0]/\intKind prog 5=some .u8/\rK prog 5=some 1/\intKind prog 2=some .i64/\rK prog 2=some 1/\eC prog 2=some [.int .i64 0]/\intKind prog 59=some .i64/\rK prog 59=some 1/\eC prog 59=some [.int .i64 0]/\rK prog 27=some 4/\eC prog 27=some ID/\bF prog 40 0=some 0/\bF prog 40 1=some 1/\rK prog 64=some 66/\bF prog 64 0=some 0/\bF prog 64 1=some 33/\eC prog 64=some Us/\bF prog 66 0=some 0/\bF prog 66 1=some 66/\bF prog 66 2=some 67/\bF prog 66 3=some 99/\bF prog 66 4=some 131/\bF prog 66 5=some 163/\bF prog 66 6=some 167/\bF prog 66 7=some 171/\bF prog 66 8=some 204/\bF prog 66 9=some 237/\rK prog 84=some 240/\bF prog 84 0=some 0/\bF prog 84 1=some 238/\bF prog 84 2=some 239/\rK prog 49=some 1/\bF prog 49 0=some 0/\eC prog 49=some [.slice none 0 0]/\rK prog 76=some 1:=vj
def a6G:KM 76 (fun i=>([(0,1)]:List (Nat × Nat))[i]?) (kD CR):=fun _ _=>iA (z:=Nn) WP Np (fC WP)
def a6H (cs:List AV) (o:Nat) (h:34<=cs.length-o):gI prog 78 cs o=some (.agg (rd cs o 34)):=Eo WP cs o h
def aYk (a b:fM):Im prog 78 (cK a) (cK b)=some (decide (a=b)):=Lm (l:=I9) WP WP WP (MU a b) (VP a b)
def a6K (a b:fM):jS prog .eql 78 (am a) (am b)=some (ae (decide (a=b))):=by simp only[jS,aYk,cR]
def a6L:KM 78 (fun i=>([(0,1),(1,1),(2,32)]:List (Nat × Nat))[i]?) (cK IM):=fun _ _=>iA (z:=Lu) WP Qx (fC WP)
def a6O:KM 25 (fun i=>([(0,1),(1,1),(2,1),(3,1),(4,1),(5,1)]:List (Nat × Nat))[i]?) (kF VQ):=fun _ _=>iA (z:=Ux) WP Xv (fC WP)
def a6P (cs:List AV) (o:Nat) (h:45<=cs.length-o):gI prog 32 cs o=some (.agg (rd cs o 45)):=Eo WP cs o h
def a6S:KM 32 (fun i=>([(0,6),(6,1),(7,1),(8,4),(12,32),(44,1)]:List (Nat × Nat))[i]?) (bX sG):=fun _ _=>iA (z:=Uy) WP Xw (fC WP)
def aYl (cs:List AV) (o:Nat) (h:34<=cs.length-o):gI prog 167 cs o=some (.agg (rd cs o 34)):=Eo WP cs o h
def aFk:rK prog 167=some 34:=WP
def aGb:eC prog 167=some y9:=WP
def aYm:KM 167 (fun i=>([(0,1),(1,1),(2,32)]:List (Nat × Nat))[i]?) (oJ nP):=fun _ _=>iA (z:=y9) WP TF (fC WP)
def a6T (cs:List AV) (o:Nat) (h:67<=cs.length-o):gI prog 68 cs o=some (.agg (rd cs o 67)):=Eo WP cs o h
def aYn:eC prog 68=some lx:=WP
def a6V:KM 68 (fun i=>([(0,1),(1,32),(33,33),(66,1)]:List (Nat × Nat))[i]?) (iE Sz):=fun _ _=>iA (z:=lx) WP aAv (fC WP)
def a6W (cs:List AV) (o:Nat) (h:35<=cs.length-o):gI prog 70 cs o=some (.agg (rd cs o 35)):=Eo WP cs o h
def aWX:eC prog 70=some Qg:=WP
def a6Y:KM 70 (fun i=>([(0,1),(1,1),(2,32),(34,1)]:List (Nat × Nat))[i]?) (eW Ej):=fun _ _=>iA (z:=Qg) WP Tr (fC WP)
def a6Z (cs:List AV) (o:Nat) (h:70<=cs.length-o):gI prog 72 cs o=some (.agg (rd cs o 70)):=Eo WP cs o h
def FX1:bF prog 76 0=some 0/\eC prog 76=some Nn/\rK prog 78=some 34/\bF prog 78 0=some 0/\bF prog 78 1=some 1/\bF prog 78 2=some 2/\eC prog 78=some Lu/\rK prog 25=some 6/\bF prog 25 0=some 0/\bF prog 25 1=some 1/\bF prog 25 2=some 2/\bF prog 25 3=some 3/\bF prog 25 4=some 4/\bF prog 25 5=some 5/\eC prog 25=some Ux/\rK prog 32=some 45/\bF prog 32 0=some 0/\bF prog 32 1=some 6/\bF prog 32 2=some 7/\bF prog 32 3=some 8/\bF prog 32 4=some 12/\bF prog 32 5=some 44/\eC prog 32=some Uy/\bF prog 167 0=some 0/\bF prog 167 1=some 1/\bF prog 167 2=some 2/\rK prog 68=some 67/\bF prog 68 0=some 0/\bF prog 68 1=some 1/\bF prog 68 2=some 33/\bF prog 68 3=some 66/\rK prog 70=some 35/\bF prog 70 0=some 0/\bF prog 70 1=some 1/\bF prog 70 2=some 2/\bF prog 70 3=some 34/\rK prog 72=some 70/\bF prog 72 0=some 0/\bF prog 72 1=some 35/\eC prog 72=some Gn:=vj
def a62:KM 72 (fun i=>([(0,35),(35,35)]:List (Nat × Nat))[i]?) (bO Xy):=fun _ _=>iA (z:=Gn) WP Lv (fC WP)
def aWf (cs:List AV) (o:Nat) (h:34<=cs.length-o):gI prog 74 cs o=some (.agg (rd cs o 34)):=Eo WP cs o h
def aWe:rK prog 74=some 34:=WP
def rz:eC prog 74=some Qd:=WP
def a65:KM 74 (fun i=>([(0,33),(33,1)]:List (Nat × Nat))[i]?) (cH fW):=fun _ _=>iA (z:=Qd) WP Tv (fC WP)
def aNt (cs:List AV) (o:Nat) (h:35<=cs.length-o):gI prog 102 cs o=some (.agg (rd cs o 35)):=Eo WP cs o h
theorem ZM:rK prog 102=some 35:=WP
def ZT:eC prog 102=some Kr:=WP
def aYo:KM 102 (fun i=>([(0,1),(1,32),(33,1),(34,1)]:List (Nat × Nat))[i]?) (cE cS):=fun _ _=>iA (z:=Kr) WP IN (fC WP)
def a66 (cs:List AV) (o:Nat) (h:96<=cs.length-o):gI prog 55 cs o=some (.agg (rd cs o 96)):=Eo WP cs o h
def tl:eC prog 55=some Lw:=WP
def aYp (a b:Command):Im prog 55 (cX a) (cX b)=some (decide (a=b)):=Lm (l:=J1) WP WP WP (MV a b) (VU a b)
def a68 (a b:Command):jS prog .eql 55 (.agg (cX a)) (.agg (cX b))=some (ae (decide (a=b))):=by simp only[jS,aYp,cR]
def a69:KM 55 (fun i=>([(0,32),(32,32),(64,32)]:List (Nat × Nat))[i]?) (cX Gc):=fun _ _=>iA (z:=Lw) WP Qy (fC WP)
def a7a (cs:List AV) (o:Nat) (h:2<=cs.length-o):gI prog 38 cs o=some (.agg (rd cs o 2)):=Eo WP cs o h
def a7d:KM 38 (fun i=>([(0,1),(1,1)]:List (Nat × Nat))[i]?) (dQ wC):=fun _ _=>iA (z:=IP) WP IQ (fC WP)
def a7g:KM 42 (fun i=>([(0,33),(33,33)]:List (Nat × Nat))[i]?) (lE Xz):=fun _ _=>iA (z:=Gp) WP Lx (fC WP)
def a7j (cs:List AV) (o:Nat) (h:150<=cs.length-o):gI prog 52 cs o=some (.agg (rd cs o 150)):=Eo WP cs o h
def a7m:KM 52 (fun i=>([(0,45),(45,2),(47,66),(113,2),(115,1),(116,1),(117,32),(149,1)]:List (Nat × Nat))[i]?) (aB eU):=fun _ _=>iA (z:=IS) WP IT (fC WP)
def a7n (cs:List AV) (o:Nat) (h:252<=cs.length-o):gI prog 57 cs o=some (.agg (rd cs o 252)):=Eo WP cs o h
def FX2:bF prog 74 0=some 0/\bF prog 74 1=some 33/\bF prog 102 0=some 0/\bF prog 102 1=some 1/\bF prog 102 2=some 33/\bF prog 102 3=some 34/\rK prog 55=some 96/\bF prog 55 0=some 0/\bF prog 55 1=some 32/\bF prog 55 2=some 64/\rK prog 38=some 2/\bF prog 38 0=some 0/\bF prog 38 1=some 1/\eC prog 38=some IP/\rK prog 42=some 66/\bF prog 42 0=some 0/\bF prog 42 1=some 33/\eC prog 42=some Gp/\rK prog 46=some 2/\bF prog 46 0=some 0/\bF prog 46 1=some 1/\eC prog 46=some CS/\rK prog 52=some 150/\bF prog 52 0=some 0/\bF prog 52 1=some 45/\bF prog 52 2=some 47/\bF prog 52 3=some 113/\bF prog 52 4=some 115/\bF prog 52 5=some 116/\bF prog 52 6=some 117/\bF prog 52 7=some 149/\eC prog 52=some IS/\rK prog 57=some 252/\bF prog 57 0=some 0/\bF prog 57 1=some 150/\bF prog 57 2=some 151/\bF prog 57 3=some 152/\bF prog 57 4=some 153/\bF prog 57 5=some 154/\bF prog 57 6=some 250:=vj
def a7q:KM 57 (fun i=>([(0,150),(150,1),(151,1),(152,1),(153,1),(154,96),(250,1),(251,1)]:List (Nat × Nat))[i]?) (aE iS):=fun _ _=>iA (z:=Xa) WP GU (fC WP)
def a7r (cs:List AV) (o:Nat) (h:446<=cs.length-o):gI prog 80 cs o=some (.agg (rd cs o 446)):=Eo WP cs o h
def aYq:eC prog 80=some tz:=WP
def a7t:KM 80 (fun i=>([(0,1),(1,238),(239,67),(306,70),(376,34),(410,34),(444,1),(445,1)]:List (Nat × Nat))[i]?) (jJ yO):=fun _ _=>iA (z:=tz) WP aIq (fC WP)
def aRR (cs:List AV):Pk prog 40 0 (.agg cs)=cs[0]?:=Z6 (k:=1) WP
theorem Ny:dD prog 22=some (3,1,8):=WP
theorem ua:gW prog 22=none:=WP
def a7u (cs:List AV) (o:Nat):gI prog 22 cs o=cs[o]?:=by
 have:lJ prog 22=some (false,1):=WP
 simp only[gI,this]
def ZS:dD prog 30=some (23,1,8):=WP
def ub:gW prog 30=none:=WP
def a7x (cs:List AV) (o:Nat):gI prog 30 cs o=cs[o]?:=by
 have:lJ prog 30=some (false,1):=WP
 simp only[gI,this]
def la:dD prog 33=some (80,446,720):=WP
def aXE:gW prog 33=none:=WP
def T8:dD prog 36=some (167,34,48):=WP
def uc:gW prog 36=none:=WP
def a7C (cs:List AV) (o:Nat):gI prog 36 cs o=cs[o]?:=by
 have:lJ prog 36=some (false,1):=WP
 simp only[gI,this]
def ly:dD prog 43=some (68,67,104):=WP
def aYr:gW prog 43=none:=WP
def a7F (cs:List AV) (o:Nat):gI prog 43 cs o=cs[o]?:=by
 have:lJ prog 43=some (false,1):=WP
 simp only[gI,this]
def Fm:dD prog 44=some (66,238,336):=WP
def po:gW prog 44=none:=WP
def a7I (cs:List AV) (o:Nat):gI prog 44 cs o=cs[o]?:=by
 have:lJ prog 44=some (false,1):=WP
 simp only[gI,this]
theorem LH:dD prog 47=some (84,240,352):=WP
theorem aRS:gW prog 47=none:=WP
def a7L (cs:List AV) (o:Nat):gI prog 47 cs o=cs[o]?:=by
 have:lJ prog 47=some (false,1):=WP
 simp only[gI,this]
def a7O (n:Nat) (cs:List AV) (h:cs≠[]):jS prog .eql 47 (.sl n cs) af=some (ae false):=by
 have:prog.underlying 47=some (.slice 84):=WP
 cases cs with
 | nil=>exact absurd rfl h
 | cons c cs=>simp[jS,Gv,this]
def SS:dD prog 50=some (74,34,64):=WP
def aO9:gW prog 50=none:=WP
def a7P (cs:List AV) (o:Nat):gI prog 50 cs o=cs[o]?:=by
 have:lJ prog 50=some (false,1):=WP
 simp only[gI,this]
theorem Ho:dD prog 53=some (102,35,56):=WP
theorem gf:gW prog 53=none:=WP
def a7S (cs:List AV) (o:Nat):gI prog 53 cs o=cs[o]?:=by
 have:lJ prog 53=some (false,1):=WP
 simp only[gI,this]
def ik:dD prog 58=some (55,96,96):=WP
def aPY:gW prog 58=none:=WP
def a7V (cs:List AV) (o:Nat):gI prog 58 cs o=cs[o]?:=by
 have:lJ prog 58=some (false,1):=WP
 simp only[gI,this]
def QI:dD prog 138=some (4,1,1):=WP
def aIs:gW prog 138=none:=WP
def ud:dD prog 147=some (5,1,1):=WP
def FX3:bF prog 57 7=some 251/\eC prog 57=some Xa/\rK prog 80=some 446/\bF prog 80 0=some 0/\bF prog 80 1=some 1/\bF prog 80 2=some 239/\bF prog 80 3=some 306/\bF prog 80 4=some 376/\bF prog 80 5=some 410/\bF prog 80 6=some 444/\bF prog 80 7=some 445/\rK prog 22=some 1/\eC prog 22=some [.slice none 0 0]/\rK prog 30=some 1/\eC prog 30=some [.slice none 0 0]/\rK prog 33=some 1/\eC prog 33=some [.slice none 0 0]/\rK prog 36=some 1/\eC prog 36=some [.slice none 0 0]/\rK prog 43=some 1/\eC prog 43=some [.slice none 0 0]/\rK prog 44=some 1/\eC prog 44=some [.slice none 0 0]/\rK prog 47=some 1/\eC prog 47=some [.slice none 0 0]/\rK prog 50=some 1/\eC prog 50=some [.slice none 0 0]/\rK prog 53=some 1/\eC prog 53=some [.slice none 0 0]/\rK prog 58=some 1/\eC prog 58=some [.slice none 0 0]/\dD prog 91=some (59,1,8)/\gW prog 91=none/\rK prog 91=some 1/\eC prog 91=some [.slice none 0 0]/\rK prog 138=some 1/\eC prog 138=some [.slice none 0 0]/\gW prog 147=none/\rK prog 147=some 1/\eC prog 147=some [.slice none 0 0]:=vj
def PK:dD prog 152=some (29,32,32):=WP
def aIt:gW prog 152=none:=WP
def aGW:dD prog 204=some (201,2,16):=WP
def aN0:gW prog 204=none:=WP
def pb:dD prog 250=some (40,33,40):=WP
def aN1:gW prog 250=none:=WP
def aGI:dD prog 254=some (70,35,72):=WP
def aN2:gW prog 254=none:=WP
def FX4:rK prog 152=some 1/\eC prog 152=some [.slice none 0 0]/\rK prog 204=some 1/\eC prog 204=some [.slice none 0 0]/\rK prog 250=some 1/\eC prog 250=some [.slice none 0 0]/\rK prog 254=some 1/\eC prog 254=some [.slice none 0 0]:=vj
def a74 (st:St) (x:AV):dS prog st 30 af x=My 23 1 8 (bA st x):=uF ZS x
def a77 (st:St) (s g:Nat) (x:AV):dS prog st 30 (.own s g) x=Mz 23 1 8 (st.heap s g) s g (bA st x):=rG ZS s g x
def a78 (st:St) (s g:Nat) (kk:IntKind) (i:Int):bK prog st 30 (.own s g) (.v (.int kk i))=Vs 23 1 (st.heap s g) s g i:=xX ub ZS s g kk i
def a79 (d:Nat) (x:Operand):cU prog call ops ⟨some d,.buildSlice 30 1 #[(0,x)],T,pos,aft,none⟩ st=bu (st.ev x) (fun y=>some ((st.new d (.row 23 1 1 [.v y])).put (some d) (.own d (st.aJ d)))) (cU prog call ops ⟨some d,.buildSlice 30 1 #[(0,x)],T,pos,aft,none⟩ st):=VJ ZS aO2 d x KH
def a8a (st:St) (x:AV):dS prog st 33 af x=My 80 446 720 (bA st x):=uF la x
def a8b (st:St) (s g:Nat) (x:AV):dS prog st 33 (.own s g) x=Mz 80 446 720 (st.heap s g) s g (bA st x):=rG la s g x
def a8c:ir 33 446 80:=fun d x=>Dq la aYq (by rfl) ZB d x KH
def a8d (st:St) (x:AV):dS prog st 36 af x=My 167 34 48 (bA st x):=uF T8 x
def a8e (st:St) (s g:Nat) (kk:IntKind) (i:Int):bK prog st 36 (.own s g) (.v (.int kk i))=Vs 167 34 (st.heap s g) s g i:=xX uc T8 s g kk i
def a8f (st:St) (x:AV):dS prog st 43 af x=My 68 67 104 (bA st x):=uF ly x
def a8g (st:St) (s g:Nat) (x:AV):dS prog st 43 (.own s g) x=Mz 68 67 104 (st.heap s g) s g (bA st x):=rG ly s g x
def a8h:ir 43 67 68:=fun d x=>Dq ly aYn (by rfl) ZB d x KH
def a8i (st:St) (x:AV):dS prog st 44 af x=My 66 238 336 (bA st x):=uF Fm x
def a8j (st:St) (s g:Nat) (x:AV):dS prog st 44 (.own s g) x=Mz 66 238 336 (st.heap s g) s g (bA st x):=rG Fm s g x
def a8k (st:St) (s g:Nat) (kk:IntKind) (i:Int):bK prog st 44 (.own s g) (.v (.int kk i))=Vs 66 238 (st.heap s g) s g i:=xX po Fm s g kk i
def a8l:ir 44 238 66:=fun d x=>Dq Fm jo (by rfl) ZB d x KH
def a8m:B0G 47 84 240:=fun d=>T7 LH aQQ d KH
def a8n (st:St) (x:AV):dS prog st 50 af x=My 74 34 64 (bA st x):=uF SS x
def a8o (st:St) (s g:Nat) (x:AV):dS prog st 50 (.own s g) x=Mz 74 34 64 (st.heap s g) s g (bA st x):=rG SS s g x
def a8p (d:Nat) (x:Operand) (A:tx 50 d=false):cU prog call ops ⟨some d,.buildSlice 50 1 #[(0,x)],T,pos,aft,none⟩ st=cj 34 (st.ev x) (fun cs=>some ((st.new d (.row 74 34 1 cs)).put (some d) (.own d (st.aJ d)))) (cU prog call ops ⟨some d,.buildSlice 50 1 #[(0,x)],T,pos,aft,none⟩ st):=Dq SS rz (by rfl) ZB d x A
def a8q (st:St) (x:AV):dS prog st 53 af x=My 102 35 56 (bA st x):=uF Ho x
def a8r (st:St) (s g:Nat) (x:AV):dS prog st 53 (.own s g) x=Mz 102 35 56 (st.heap s g) s g (bA st x):=rG Ho s g x
def a8s (st:St) (s g:Nat) (kk:IntKind) (i:Int):bK prog st 53 (.own s g) (.v (.int kk i))=Vs 102 35 (st.heap s g) s g i:=xX gf Ho s g kk i
def a8t:ir 53 35 102:=fun d x=>Dq Ho ZT (by rfl) ZB d x KH
def a8u (st:St) (s g:Nat) (kk:IntKind) (i:Int):bK prog st 58 (.own s g) (.v (.int kk i))=Vs 55 96 (st.heap s g) s g i:=xX aPY ik s g kk i
def a8v:ir 58 96 55:=fun d x=>Dq ik tl (by rfl) ZB d x KH
def aYF (st:St) (x:AV):dS prog st 138 af x=My 4 1 1 (bA st x):=uF QI x
def aYG (st:St) (s g:Nat) (x:AV):dS prog st 138 (.own s g) x=Mz 4 1 1 (st.heap s g) s g (bA st x):=rG QI s g x
def aYH (st:St) (s g:Nat) (kk:IntKind) (i:Int):bK prog st 138 (.own s g) (.v (.int kk i))=Vs 4 1 (st.heap s g) s g i:=xX aIs QI s g kk i
def aYI (d:Nat) (x:Operand):cU prog call ops ⟨some d,.buildSlice 138 1 #[(0,x)],T,pos,aft,none⟩ st=bu (st.ev x) (fun y=>some ((st.new d (.row 4 1 1 [.v y])).put (some d) (.own d (st.aJ d)))) (cU prog call ops ⟨some d,.buildSlice 138 1 #[(0,x)],T,pos,aft,none⟩ st):=VJ QI ze4 d x KH
def aYJ (st:St) (x:AV):dS prog st 147 af x=My 5 1 1 (bA st x):=uF ud x
def aYK (st:St) (s g:Nat) (x:AV):dS prog st 147 (.own s g) x=Mz 5 1 1 (st.heap s g) s g (bA st x):=rG ud s g x
def aYL (d:Nat) (x:Operand):cU prog call ops ⟨some d,.buildSlice 147 1 #[(0,x)],T,pos,aft,none⟩ st=bu (st.ev x) (fun y=>some ((st.new d (.row 5 1 1 [.v y])).put (some d) (.own d (st.aJ d)))) (cU prog call ops ⟨some d,.buildSlice 147 1 #[(0,x)],T,pos,aft,none⟩ st):=VJ ud ze5 d x KH
def aYM (st:St) (s g:Nat) (x:AV):dS prog st 152 (.own s g) x=Mz 29 32 32 (st.heap s g) s g (bA st x):=rG PK s g x
def aYN (st:St) (s g:Nat) (kk:IntKind) (i:Int):bK prog st 152 (.own s g) (.v (.int kk i))=Vs 29 32 (st.heap s g) s g i:=xX aIt PK s g kk i
def aYO:ir 152 32 29:=fun d x=>Dq PK aPK (by rfl) ZB d x KH
def aGX (st:St) (s g:Nat) (kk:IntKind) (i:Int):bK prog st 204 (.own s g) (.v (.int kk i))=Vs 201 2 (st.heap s g) s g i:=xX aN0 aGW s g kk i
def aYP (st:St) (s g:Nat) (kk:IntKind) (i:Int):bK prog st 250 (.own s g) (.v (.int kk i))=Vs 40 33 (st.heap s g) s g i:=xX aN1 pb s g kk i
def aYQ (st:St) (s g:Nat) (kk:IntKind) (i:Int):bK prog st 254 (.own s g) (.v (.int kk i))=Vs 70 35 (st.heap s g) s g i:=xX aN2 aGI s g kk i
end Go.Ab.Tryz
