/-
  Part 7 of the proof: an evaluator of programs, its soundness, and what functions of this program compute.
-/
import Derived.Test.YtmcjkemalibacaaGreatK6
set_option linter.all false
set_option maxRecDepth 20000
set_option maxHeartbeats 40000000
open List
noncomputable section
section
namespace Go.Ab
open Classical
variable [Ext]
def Yd (st:St) (cs:List AV):Option (List AV):=cK (cs.map (cN st))
theorem xP (st:St) (a b:List AV):Yd st (a++b)=cT (Yd st a) fun x=>cT (Yd st b) fun y=>some (x++y):=by
 unfold Yd;induction a with
 | nil=>simp[cK,cT];cases cK (b.map (cN st))<;>rfl
 | cons c a ih =>
   simp only[cons_append,map_cons];cases cN st c with
   | none=>rfl
   | some c' =>
     simp only[cK,ih];cases cK (a.map (cN st)) with
     | none=>rfl
     | some a' =>
       simp only[cT,aAo];cases cK (b.map (cN st))<;>rfl
theorem zU (st:St) (x:AV):Yd st [x]=cT (cN st x) fun y=>some [y]:=by
 unfold Yd;simp only[map_cons,map_nil];cases cN st x<;>rfl
theorem lJ {st:St} {cs:List AV} (h:∀c∈cs,Flat c):Yd st cs=some cs:=by
 unfold Yd;induction cs with
 | nil=>rfl
 | cons c cs ih =>
   simp only[map_cons,cY (h c (by simp)),cK,ih fun x hx=>h x (by simp[hx]),Option.map_some]
theorem bP (st:St) (cs:List AV):fS st (.agg cs)=cT (Yd st cs) fun x=>some (.agg x):=by
 unfold fS;by_cases h:Flat (.agg cs)
 ·rw[if_pos h];have h':∀c∈cs,Flat c:=by cases h with|agg _ h=>exact h
  rw[lJ h'];rfl
 ·rw[if_neg h];simp only[Yd];cases cK (cs.map (cN st))<;>rfl
def ov {α:Type} (c:List α->List AV):Option (List α)->AV
 | none=>.v (.slice none 0 0)
 | some l=>.sl l.length (c l)
def ol {α:Type} (o:Option (List α)):List α:=o.getD []
theorem Ry {α:Type} (l:List α):ol (some l)=l:=rfl
theorem aFt {α:Type}:ol (none:Option (List α))=[]:=rfl
def gx {α:Type} (z:α) (l:List α) (i:Int):α:=l.getD i.toNat z
theorem B7 {α:Type} {z:α} {l:List α} {i:Int} (h0:0<=i) (h1:i<l.length):∃h:i.toNat<l.length,gx z l i=l[i.toNat]:=by
 have h:i.toNat<l.length:=by omega
 exact⟨h,by simp[gx,h]⟩
theorem nC {α:Type} {z:α} {l:List α} {i:Int} (h0:0<=i) (h1:i<l.length):gx z l i∈l:=by
 obtain⟨h,e⟩:=B7 (z:=z) h0 h1
 rw[e];exact getElem_mem h
def oY (l:List dL):List AV:=l.flatMap bG
@[simp] theorem BF (l:List (dL)):(oY l).length=l.length * 33:=by
 induction l with
 | nil=>rfl
 | cons x l ih=>simp only[oY,flatMap_cons,length_append,bW,length_cons] at *;omega
def aH (l:List Block):List AV:=l.flatMap aU
@[simp] theorem pO (l:List (Block)):(aH l).length=l.length * 238:=by
 induction l with
 | nil=>rfl
 | cons x l ih=>simp only[aH,flatMap_cons,length_append,bO,length_cons] at *;omega
theorem lE (l:List (Block)):∀x∈aH l,Flat x:=by
 intro x hx;obtain⟨y,_,hy⟩:=mem_flatMap.1 hx
 exact Dc y x hy
def nG (l:List Bool):List AV:=l.flatMap vW
@[simp] theorem aJc (l:List (Bool)):(nG l).length=l.length * 1:=by
 induction l with
 | nil=>rfl
 | cons x l ih=>simp only[nG,flatMap_cons,length_append,iC,length_cons] at *;omega
theorem Xc (l:List (Bool)):∀x∈nG l,Flat x:=by
 intro x hx;obtain⟨y,_,hy⟩:=mem_flatMap.1 hx
 exact tR y x hy
structure zB where
 tag:Int
def mY (s:zB):List AV:=lV s.tag
@[simp] theorem gW (s:zB):(mY s).length=1:=by simp[mY]
theorem Tc (s:zB):∀x∈mY s,Flat x:=by
 intro x hx;simp only[mY,mem_append,mem_singleton] at hx;(exact eD _ _ hx)
theorem Br (s:zB):(mY s)[0]? = some (.v (.int .u64 s.tag)):=rfl
theorem Nz (s:zB) (x:Int):dP (mY s) 0 ([.v (.int .u64 x)]) 1=mY { s with tag:=x }:=eP (aZ _)
def Zp:zB:=⟨0⟩
def Mq:List Value:=[.int .u64 0]
theorem Mr:Mq.map AV.v=mY Zp:=by simp only[Mq,map_append,map_cons,map_nil,jQ,jR];rfl
def K8:List Bool:=[true]
theorem NV (a b:zB):iS K8 (mY a) (mY b):=(show iS [true] [_] [_] from ⟨rfl,trivial⟩)
theorem VY (a b:zB):mY a=mY b↔a=b:=by
 refine⟨fun h=>?_,fun h=>by rw[h]⟩
 cases a;cases b
 simp only[mY] at h;have e0:=(Kj _ _).1 h
 subst e0;rfl
structure gV where
 tagged:zB
 kind:Int
 dS:cC
def dK (s:gV):List AV:=mY s.tagged++(rK s.kind++(bC s.dS))
@[simp] theorem mE (s:gV):(dK s).length=34:=by simp[dK]
theorem jW (s:gV):∀x∈dK s,Flat x:=by
 intro x hx;simp only[dK,mem_append,mem_singleton] at hx;rcases hx with hx|hx|hx
 ·(exact Tc _ _ hx)
 ·(exact mJ _ _ hx)
 ·(exact dY _ _ hx)
theorem Td (s:gV) (x:zB):dP (dK s) 0 (mY x) 1=dK { s with tagged:=x }:=cJ (gW _)
theorem Ho (s:gV):(dK s)[0]? = some (.v (.int .u64 s.tagged.tag)):=(eU (by rw[gW];decide)).trans (Br _)
theorem Iq (s:gV) (x:Int):dP (dK s) 0 ([.v (.int .u64 x)]) 1=dK { s with tagged:={ s.tagged with tag:=x }}:=(vX (by rw[gW];decide)).trans (Io (Nz _ x))
theorem Vy (s:gV):(dK s)[1]? = some (.v (.int .i64 s.kind)):=(aK rfl (gW _)).trans (rfl)
theorem Ym (s:gV) (x:Int):dP (dK s) 1 ([.v (.int .i64 x)]) 2=dK { s with kind:=x }:=(aD rfl rfl (gW _)).trans (bL (cJ (bJ _)))
theorem Te (s:gV):rd (dK s) 2 32=bC s.dS:=(bD rfl (gW _)).trans ((bD rfl (bJ _)).trans (jF (aO _)))
theorem Tf (s:gV) (x:cC):dP (dK s) 2 (bC x) 34=dK { s with dS:=x }:=(aD rfl rfl (gW _)).trans (bL ((aD rfl rfl (bJ _)).trans (bL (eP (aO _)))))
def DW:gV:=⟨Zp,0,cO⟩
def Fh:List Value:=Mq++([.int .i64 0]++(uC))
theorem Px:Fh.map AV.v=dK DW:=by simp only[Fh,map_append,map_cons,map_nil,jQ,jR,Mr];rfl
def VZ:List Bool:=K8++([true]++(Kk))
theorem GZ (a b:gV):iS VZ (dK a) (dK b):=(fZ (NV _ _) (fZ (show iS [true] [_] [_] from ⟨rfl,trivial⟩) (oL _ _)))
theorem NX (a b:gV):dK a=dK b↔a=b:=by
 refine⟨fun h=>?_,fun h=>by rw[h]⟩
 cases a;cases b
 simp only[dK] at h;obtain⟨h0,h⟩:=append_inj h (by simp)
 obtain⟨h1,h⟩:=append_inj h (by simp)
 have e0:=(VY _ _).1 h0
 have e1:=(yL _ _).1 h1
 have e2:=(qP _ _).1 h
 subst e0 e1 e2;rfl
theorem DX (s:gV):rd (dK s) 0 34=dK s:=jF (mE _)
theorem DY (s x:gV):dP (dK s) 0 (dK x) 34=dK x:=eP (mE _)
structure lH where
 sL:Int
 vU:Int
 pW:Int
 nD:Int
 oZ:Int
 rY:Int
def fV (s:lH):List AV:=rK s.sL++(rK s.vU++(rK s.pW++(rK s.nD++(rK s.oZ++(lV s.rY)))))
@[simp] theorem gD (s:lH):(fV s).length=6:=by simp[fV]
theorem vE (s:lH):∀x∈fV s,Flat x:=by
 intro x hx;simp only[fV,mem_append,mem_singleton] at hx;rcases hx with hx|hx|hx|hx|hx|hx
 ·(exact mJ _ _ hx)
 ·(exact mJ _ _ hx)
 ·(exact mJ _ _ hx)
 ·(exact mJ _ _ hx)
 ·(exact mJ _ _ hx)
 ·(exact eD _ _ hx)
theorem Gg (s:lH):(fV s)[0]? = some (.v (.int .i64 s.sL)):=rfl
theorem Yn (s:lH) (x:Int):dP (fV s) 0 ([.v (.int .i64 x)]) 1=fV { s with sL:=x }:=cJ (bJ _)
theorem Gh (s:lH):(fV s)[1]? = some (.v (.int .i64 s.vU)):=(aK rfl (bJ _)).trans (rfl)
theorem Yo (s:lH) (x:Int):dP (fV s) 1 ([.v (.int .i64 x)]) 2=fV { s with vU:=x }:=(aD rfl rfl (bJ _)).trans (bL (cJ (bJ _)))
theorem De (s:lH):(fV s)[2]? = some (.v (.int .i64 s.pW)):=(aK rfl (bJ _)).trans ((aK rfl (bJ _)).trans (rfl))
theorem Vz (s:lH) (x:Int):dP (fV s) 2 ([.v (.int .i64 x)]) 3=fV { s with pW:=x }:=(aD rfl rfl (bJ _)).trans (bL ((aD rfl rfl (bJ _)).trans (bL (cJ (bJ _)))))
theorem Df (s:lH):(fV s)[3]? = some (.v (.int .i64 s.nD)):=(aK rfl (bJ _)).trans ((aK rfl (bJ _)).trans ((aK rfl (bJ _)).trans (rfl)))
theorem Wa (s:lH) (x:Int):dP (fV s) 3 ([.v (.int .i64 x)]) 4=fV { s with nD:=x }:=(aD rfl rfl (bJ _)).trans (bL ((aD rfl rfl (bJ _)).trans (bL ((aD rfl rfl (bJ _)).trans (bL (cJ (bJ _)))))))
theorem Dg (s:lH):(fV s)[4]? = some (.v (.int .i64 s.oZ)):=(aK rfl (bJ _)).trans ((aK rfl (bJ _)).trans ((aK rfl (bJ _)).trans ((aK rfl (bJ _)).trans (rfl))))
theorem Wb (s:lH) (x:Int):dP (fV s) 4 ([.v (.int .i64 x)]) 5=fV { s with oZ:=x }:=(aD rfl rfl (bJ _)).trans (bL ((aD rfl rfl (bJ _)).trans (bL ((aD rfl rfl (bJ _)).trans (bL ((aD rfl rfl (bJ _)).trans (bL (cJ (bJ _)))))))))
theorem Bs (s:lH):(fV s)[5]? = some (.v (.int .u64 s.rY)):=(aK rfl (bJ _)).trans ((aK rfl (bJ _)).trans ((aK rfl (bJ _)).trans ((aK rfl (bJ _)).trans ((aK rfl (bJ _)).trans (rfl)))))
theorem Tg (s:lH) (x:Int):dP (fV s) 5 ([.v (.int .u64 x)]) 6=fV { s with rY:=x }:=(aD rfl rfl (bJ _)).trans (bL ((aD rfl rfl (bJ _)).trans (bL ((aD rfl rfl (bJ _)).trans (bL ((aD rfl rfl (bJ _)).trans (bL ((aD rfl rfl (bJ _)).trans (bL (eP (aZ _)))))))))))
def NY:lH:=⟨0,0,0,0,0,0⟩
def Th:List Value:=[.int .i64 0]++([.int .i64 0]++([.int .i64 0]++([.int .i64 0]++([.int .i64 0]++([.int .u64 0])))))
theorem Wc:Th.map AV.v=fV NY:=by simp only[Th,map_append,map_cons,map_nil,jQ,jR];rfl
def K9:List Bool:=[true]++([true]++([true]++([true]++([true]++([true])))))
theorem NZ (a b:lH):iS K9 (fV a) (fV b):=(fZ (show iS [true] [_] [_] from ⟨rfl,trivial⟩) (fZ (show iS [true] [_] [_] from ⟨rfl,trivial⟩) (fZ (show iS [true] [_] [_] from ⟨rfl,trivial⟩) (fZ (show iS [true] [_] [_] from ⟨rfl,trivial⟩) (fZ (show iS [true] [_] [_] from ⟨rfl,trivial⟩) (show iS [true] [_] [_] from ⟨rfl,trivial⟩))))))
theorem WA (a b:lH):fV a=fV b↔a=b:=by
 refine⟨fun h=>?_,fun h=>by rw[h]⟩
 cases a;cases b
 simp only[fV] at h;obtain⟨h0,h⟩:=append_inj h (by simp)
 obtain⟨h1,h⟩:=append_inj h (by simp)
 obtain⟨h2,h⟩:=append_inj h (by simp)
 obtain⟨h3,h⟩:=append_inj h (by simp)
 obtain⟨h4,h⟩:=append_inj h (by simp)
 have e0:=(yL _ _).1 h0
 have e1:=(yL _ _).1 h1
 have e2:=(yL _ _).1 h2
 have e3:=(yL _ _).1 h3
 have e4:=(yL _ _).1 h4
 have e5:=(Kj _ _).1 h
 subst e0 e1 e2 e3 e4 e5;rfl
structure Config where
 kU:lH
 jS:Int
 Js:Int
 BC:rD
 cV:cC
 iF:AV
def bX (s:Config):List AV:=fV s.kU++(lV s.jS++(lV s.Js++(gI s.BC++(bC s.cV++([s.iF])))))
@[simp] theorem bU (s:Config):(bX s).length=45:=by simp[bX]
theorem uU (s:Config) (h0:Flat s.iF):∀x∈bX s,Flat x:=by
 intro x hx;simp only[bX,mem_append,mem_singleton] at hx;rcases hx with hx|hx|hx|hx|hx|hx
 ·(exact vE _ _ hx)
 ·(exact eD _ _ hx)
 ·(exact eD _ _ hx)
 ·(exact iQ _ _ hx)
 ·(exact dY _ _ hx)
 ·(subst hx;assumption)
theorem HA (s:Config):rd (bX s) 0 6=fV s.kU:=gK (gD _)
theorem HB (s:Config) (x:lH):dP (bX s) 0 (fV x) 6=bX { s with kU:=x }:=cJ (gD _)
theorem yM (s:Config):(bX s)[0]? = some (.v (.int .i64 s.kU.sL)):=(eU (by rw[gD];decide)).trans (Gg _)
theorem yN (s:Config):(bX s)[1]? = some (.v (.int .i64 s.kU.vU)):=(eU (by rw[gD];decide)).trans (Gh _)
theorem vY (s:Config):(bX s)[2]? = some (.v (.int .i64 s.kU.pW)):=(eU (by rw[gD];decide)).trans (De _)
theorem vZ (s:Config):(bX s)[3]? = some (.v (.int .i64 s.kU.nD)):=(eU (by rw[gD];decide)).trans (Df _)
theorem wA (s:Config):(bX s)[4]? = some (.v (.int .i64 s.kU.oZ)):=(eU (by rw[gD];decide)).trans (Dg _)
theorem vM (s:Config):(bX s)[5]? = some (.v (.int .u64 s.kU.rY)):=(eU (by rw[gD];decide)).trans (Bs _)
theorem Kp (s:Config):(bX s)[6]? = some (.v (.int .u64 s.jS)):=(aK rfl (gD _)).trans (rfl)
theorem HC (s:Config) (x:Int):dP (bX s) 6 ([.v (.int .u64 x)]) 7=bX { s with jS:=x }:=(aD rfl rfl (gD _)).trans (bL (cJ (aZ _)))
theorem Ti (s:Config):(bX s)[7]? = some (.v (.int .u64 s.Js)):=(aK rfl (gD _)).trans ((aK rfl (aZ _)).trans (rfl))
theorem Wd (s:Config) (x:Int):dP (bX s) 7 ([.v (.int .u64 x)]) 8=bX { s with Js:=x }:=(aD rfl rfl (gD _)).trans (bL ((aD rfl rfl (aZ _)).trans (bL (cJ (aZ _)))))
theorem Oa (s:Config):rd (bX s) 8 4=gI s.BC:=(bD rfl (gD _)).trans ((bD rfl (aZ _)).trans ((bD rfl (aZ _)).trans (gK (eA _))))
theorem HD (s:Config) (x:rD):dP (bX s) 8 (gI x) 12=bX { s with BC:=x }:=(aD rfl rfl (gD _)).trans (bL ((aD rfl rfl (aZ _)).trans (bL ((aD rfl rfl (aZ _)).trans (bL (cJ (eA _)))))))
theorem Tj (s:Config):rd (bX s) 12 32=bC s.cV:=(bD rfl (gD _)).trans ((bD rfl (aZ _)).trans ((bD rfl (aZ _)).trans ((bD rfl (eA _)).trans (gK (aO _)))))
theorem Tk (s:Config) (x:cC):dP (bX s) 12 (bC x) 44=bX { s with cV:=x }:=(aD rfl rfl (gD _)).trans (bL ((aD rfl rfl (aZ _)).trans (bL ((aD rfl rfl (aZ _)).trans (bL ((aD rfl rfl (eA _)).trans (bL (cJ (aO _)))))))))
theorem Au (s:Config):(bX s)[44]? = some (s.iF):=(aK rfl (gD _)).trans ((aK rfl (aZ _)).trans ((aK rfl (aZ _)).trans ((aK rfl (eA _)).trans ((aK rfl (aO _)).trans (rfl)))))
theorem Ob (s:Config) (x:AV):dP (bX s) 44 ([x]) 45=bX { s with iF:=x }:=(aD rfl rfl (gD _)).trans (bL ((aD rfl rfl (aZ _)).trans (bL ((aD rfl rfl (aZ _)).trans (bL ((aD rfl rfl (eA _)).trans (bL ((aD rfl rfl (aO _)).trans (bL (eP rfl))))))))))
def mX:Config:=⟨NY,0,0,KK,cO,(.v (.slice none 0 0))⟩
def Tl:List Value:=Th++([.int .u64 0]++([.int .u64 0]++(DQ++(uC++([.slice none 0 0])))))
theorem We:Tl.map AV.v=bX mX:=by simp only[Tl,map_append,map_cons,map_nil,jQ,jR,Wc];rfl
theorem Pf (st:St) (s:Config):Yd st (bX s)=cT (cN st s.iF) fun aCO=>some (bX { s with iF:=aCO }):=by
 simp only[bX,xP,lJ (vE _),lJ (eD _),lJ (iQ _),lJ (dY _),zU,kJ,cF]
theorem HE (s:Config):rd (bX s) 0 45=bX s:=jF (bU _)
theorem HF (s x:Config):dP (bX s) 0 (bX x) 45=bX x:=eP (bU _)
structure kN where
 has:Bool
 aE:Int
 root:cC
def jT (s:kN):List AV:=vW s.has++(lV s.aE++(bC s.root))
@[simp] theorem sG (s:kN):(jT s).length=34:=by simp[jT]
theorem B8 (s:kN):∀x∈jT s,Flat x:=by
 intro x hx;simp only[jT,mem_append,mem_singleton] at hx;rcases hx with hx|hx|hx
 ·(exact tR _ _ hx)
 ·(exact eD _ _ hx)
 ·(exact dY _ _ hx)
theorem OA (s:kN):(jT s)[0]? = some (.v (.bool s.has)):=rfl
theorem WB (s:kN) (x:Bool):dP (jT s) 0 ([.v (.bool x)]) 1=jT { s with has:=x }:=cJ (iC _)
theorem DZ (s:kN):(jT s)[1]? = some (.v (.int .u64 s.aE)):=(aK rfl (iC _)).trans (rfl)
theorem HG (s:kN) (x:Int):dP (jT s) 1 ([.v (.int .u64 x)]) 2=jT { s with aE:=x }:=(aD rfl rfl (iC _)).trans (bL (cJ (aZ _)))
theorem OB (s:kN):rd (jT s) 2 32=bC s.root:=(bD rfl (iC _)).trans ((bD rfl (aZ _)).trans (jF (aO _)))
theorem OC (s:kN) (x:cC):dP (jT s) 2 (bC x) 34=jT { s with root:=x }:=(aD rfl rfl (iC _)).trans (bL ((aD rfl rfl (aZ _)).trans (bL (eP (aO _)))))
def pN:kN:=⟨false,0,cO⟩
def L1:List Value:=[.bool false]++([.int .u64 0]++(uC))
theorem L2:L1.map AV.v=jT pN:=by simp only[L1,map_append,map_cons,map_nil,jQ,jR];rfl
def aHh:List Bool:=[false]++([true]++(Kk))
theorem B9 (a b:kN):iS aHh (jT a) (jT b):=(fZ (show iS [false] [_] [_] from trivial) (fZ (show iS [true] [_] [_] from ⟨rfl,trivial⟩) (oL _ _)))
theorem V5 (a b:kN):jT a=jT b↔a=b:=by
 refine⟨fun h=>?_,fun h=>by rw[h]⟩
 cases a;cases b
 simp only[jT] at h;obtain⟨h0,h⟩:=append_inj h (by simp)
 obtain⟨h1,h⟩:=append_inj h (by simp)
 have e0:=(KJ _ _).1 h0
 have e1:=(Kj _ _).1 h1
 have e2:=(qP _ _).1 h
 subst e0 e1 e2;rfl
theorem WC (s:kN):rd (jT s) 0 34=jT s:=jF (sG _)
theorem WD (s x:kN):dP (jT s) 0 (jT x) 34=jT x:=eP (sG _)
structure rX where
 slot:Int
 root:cC
 target:dL
 eM:AV
def iD (s:rX):List AV:=lV s.slot++(bC s.root++(bG s.target++([s.eM])))
@[simp] theorem iI (s:rX):(iD s).length=67:=by simp[iD]
theorem Uj (s:rX) (h0:Flat s.eM):∀x∈iD s,Flat x:=by
 intro x hx;simp only[iD,mem_append,mem_singleton] at hx;rcases hx with hx|hx|hx|hx
 ·(exact eD _ _ hx)
 ·(exact dY _ _ hx)
 ·(exact bR _ _ hx)
 ·(subst hx;assumption)
theorem OD (s:rX):(iD s)[0]? = some (.v (.int .u64 s.slot)):=rfl
theorem WE (s:rX) (x:Int):dP (iD s) 0 ([.v (.int .u64 x)]) 1=iD { s with slot:=x }:=cJ (aZ _)
theorem WG (s:rX):rd (iD s) 1 32=bC s.root:=(bD rfl (aZ _)).trans (gK (aO _))
theorem WH (s:rX) (x:cC):dP (iD s) 1 (bC x) 33=iD { s with root:=x }:=(aD rfl rfl (aZ _)).trans (bL (cJ (aO _)))
theorem HH (s:rX):rd (iD s) 33 33=bG s.target:=(bD rfl (aZ _)).trans ((bD rfl (aO _)).trans (gK (bW _)))
theorem HI (s:rX) (x:dL):dP (iD s) 33 (bG x) 66=iD { s with target:=x }:=(aD rfl rfl (aZ _)).trans (bL ((aD rfl rfl (aO _)).trans (bL (cJ (bW _)))))
theorem Kq (s:rX):(iD s)[33]? = some (.v (.int .u64 s.target.aE)):=(aK rfl (aZ _)).trans ((aK rfl (aO _)).trans ((eU (by rw[bW];decide)).trans (kH _)))
theorem Nc (s:rX) (x:Int):dP (iD s) 33 ([.v (.int .u64 x)]) 34=iD { s with target:={ s.target with aE:=x }}:=(aD rfl rfl (aZ _)).trans (bL ((aD rfl rfl (aO _)).trans (bL ((vX (by rw[bW];decide)).trans (Io (Ea _ x))))))
theorem Py (s:rX):rd (iD s) 34 32=bC s.target.root:=(bD rfl (aZ _)).trans ((bD rfl (aO _)).trans ((sN (by rw[bW];decide)).trans (vK _)))
theorem Pz (s:rX) (x:cC):dP (iD s) 34 (bC x) 66=iD { s with target:={ s.target with root:=x }}:=(aD rfl rfl (aZ _)).trans (bL ((aD rfl rfl (aO _)).trans (bL ((vX (by rw[bW];decide)).trans (Io (Hn _ x))))))
theorem Gx (s:rX):(iD s)[66]? = some (s.eM):=(aK rfl (aZ _)).trans ((aK rfl (aO _)).trans ((aK rfl (bW _)).trans (rfl)))
theorem WI (s:rX) (x:AV):dP (iD s) 66 ([x]) 67=iD { s with eM:=x }:=(aD rfl rfl (aZ _)).trans (bL ((aD rfl rfl (aO _)).trans (bL ((aD rfl rfl (bW _)).trans (bL (eP rfl))))))
def Jx:rX:=⟨0,cO,gM,(.v (.slice none 0 0))⟩
def aCP:List Value:=[.int .u64 0]++(uC++(Et++([.slice none 0 0])))
theorem C0:aCP.map AV.v=iD Jx:=by simp only[aCP,map_append,map_cons,map_nil,jQ,jR,Cr];rfl
theorem mA (st:St) (s:rX):Yd st (iD s)=cT (cN st s.eM) fun C1=>some (iD { s with eM:=C1 }):=by
 simp only[iD,xP,lJ (eD _),lJ (dY _),lJ (bR _),zU,kJ,cF]
theorem C2 (s:rX):rd (iD s) 0 67=iD s:=jF (iI _)
theorem C3 (s x:rX):dP (iD s) 0 (iD x) 67=iD x:=eP (iI _)
structure Claim where
 source:Int
 target:Int
 root:cC
 eM:AV
def gU (s:Claim):List AV:=lV s.source++(lV s.target++(bC s.root++([s.eM])))
@[simp] theorem iR (s:Claim):(gU s).length=35:=by simp[gU]
theorem Jk (s:Claim) (h0:Flat s.eM):∀x∈gU s,Flat x:=by
 intro x hx;simp only[gU,mem_append,mem_singleton] at hx;rcases hx with hx|hx|hx|hx
 ·(exact eD _ _ hx)
 ·(exact eD _ _ hx)
 ·(exact dY _ _ hx)
 ·(subst hx;assumption)
theorem xD (s:Claim):(gU s)[0]? = some (.v (.int .u64 s.source)):=rfl
theorem Ia (s:Claim) (x:Int):dP (gU s) 0 ([.v (.int .u64 x)]) 1=gU { s with source:=x }:=cJ (aZ _)
theorem xE (s:Claim):(gU s)[1]? = some (.v (.int .u64 s.target)):=(aK rfl (aZ _)).trans (rfl)
theorem Ib (s:Claim) (x:Int):dP (gU s) 1 ([.v (.int .u64 x)]) 2=gU { s with target:=x }:=(aD rfl rfl (aZ _)).trans (bL (cJ (aZ _)))
theorem HJ (s:Claim):rd (gU s) 2 32=bC s.root:=(bD rfl (aZ _)).trans ((bD rfl (aZ _)).trans (gK (aO _)))
theorem Oc (s:Claim) (x:cC):dP (gU s) 2 (bC x) 34=gU { s with root:=x }:=(aD rfl rfl (aZ _)).trans (bL ((aD rfl rfl (aZ _)).trans (bL (cJ (aO _)))))
theorem uX (s:Claim):(gU s)[34]? = some (s.eM):=(aK rfl (aZ _)).trans ((aK rfl (aZ _)).trans ((aK rfl (aO _)).trans (rfl)))
theorem HK (s:Claim) (x:AV):dP (gU s) 34 ([x]) 35=gU { s with eM:=x }:=(aD rfl rfl (aZ _)).trans (bL ((aD rfl rfl (aZ _)).trans (bL ((aD rfl rfl (aO _)).trans (bL (eP rfl))))))
def OE:Claim:=⟨0,0,cO,(.v (.slice none 0 0))⟩
def Wf:List Value:=[.int .u64 0]++([.int .u64 0]++(uC++([.slice none 0 0])))
theorem EA:Wf.map AV.v=gU OE:=by simp only[Wf,map_append,map_cons,map_nil,jQ,jR];rfl
theorem wR (st:St) (s:Claim):Yd st (gU s)=cT (cN st s.eM) fun C1=>some (gU { s with eM:=C1 }):=by
 simp only[gU,xP,lJ (eD _),lJ (dY _),zU,kJ,cF]
structure gB where
 first:Claim
 second:Claim
def cD (s:gB):List AV:=gU s.first++(gU s.second)
@[simp] theorem fR (s:gB):(cD s).length=70:=by simp[cD]
theorem Jl (s:gB) (h0:Flat s.first.eM) (h1:Flat s.second.eM):∀x∈cD s,Flat x:=by
 intro x hx;simp only[cD,mem_append,mem_singleton] at hx;rcases hx with hx|hx
 ·(exact Jk _ (by assumption) _ hx)
 ·(exact Jk _ (by assumption) _ hx)
theorem Tm (s:gB):rd (cD s) 0 35=gU s.first:=gK (iR _)
theorem Tn (s:gB) (x:Claim):dP (cD s) 0 (gU x) 35=cD { s with first:=x }:=cJ (iR _)
theorem Cd (s:gB):(cD s)[0]? = some (.v (.int .u64 s.first.source)):=(eU (by rw[iR];decide)).trans (xD _)
theorem Ce (s:gB):(cD s)[1]? = some (.v (.int .u64 s.first.target)):=(eU (by rw[iR];decide)).trans (xE _)
theorem oX (s:gB):(cD s)[34]? = some (s.first.eM):=(eU (by rw[iR];decide)).trans (uX _)
theorem Qa (s:gB):rd (cD s) 35 35=gU s.second:=(bD rfl (iR _)).trans (jF (iR _))
theorem Qb (s:gB) (x:Claim):dP (cD s) 35 (gU x) 70=cD { s with second:=x }:=(aD rfl rfl (iR _)).trans (bL (eP (iR _)))
theorem Bt (s:gB):(cD s)[35]? = some (.v (.int .u64 s.second.source)):=(aK rfl (iR _)).trans (xD _)
theorem Cf (s:gB) (x:Int):dP (cD s) 35 ([.v (.int .u64 x)]) 36=cD { s with second:={ s.second with source:=x }}:=(aD rfl rfl (iR _)).trans (bL (Ia _ x))
theorem Bu (s:gB):(cD s)[36]? = some (.v (.int .u64 s.second.target)):=(aK rfl (iR _)).trans (xE _)
theorem Cg (s:gB) (x:Int):dP (cD s) 36 ([.v (.int .u64 x)]) 37=cD { s with second:={ s.second with target:=x }}:=(aD rfl rfl (iR _)).trans (bL (Ib _ x))
theorem Gi (s:gB) (x:cC):dP (cD s) 37 (bC x) 69=cD { s with second:={ s.second with root:=x }}:=(aD rfl rfl (iR _)).trans (bL (Oc _ x))
theorem oG (s:gB):(cD s)[69]? = some (s.second.eM):=(aK rfl (iR _)).trans (uX _)
def Wg:gB:=⟨OE,OE⟩
def Gj:List Value:=Wf++(Wf)
theorem Kr:Gj.map AV.v=cD Wg:=by simp only[Gj,map_append,map_cons,map_nil,jQ,jR,EA];rfl
theorem sA (st:St) (s:gB):Yd st (cD s)=cT (cN st s.first.eM) fun x_first_vals=>cT (cN st s.second.eM) fun x_second_vals=>some (cD { s with first:={ s.first with eM:=x_first_vals },second:={ s.second with eM:=x_second_vals }}):=by
 simp only[cD,xP,wR,kJ,cF]
theorem Yp (s:gB):rd (cD s) 0 70=cD s:=jF (fR _)
theorem Yq (s x:gB):dP (cD s) 0 (cD x) 70=cD x:=eP (fR _)
structure Table where
 ck:dL
 iF:AV
def bZ (s:Table):List AV:=bG s.ck++([s.iF])
@[simp] theorem eR (s:Table):(bZ s).length=34:=by simp[bZ]
theorem Jm (s:Table) (h0:Flat s.iF):∀x∈bZ s,Flat x:=by
 intro x hx;simp only[bZ,mem_append,mem_singleton] at hx;rcases hx with hx|hx
 ·(exact bR _ _ hx)
 ·(subst hx;assumption)
theorem WJ (s:Table):rd (bZ s) 0 33=bG s.ck:=gK (bW _)
theorem WK (s:Table) (x:dL):dP (bZ s) 0 (bG x) 33=bZ { s with ck:=x }:=cJ (bW _)
theorem Qc (s:Table):(bZ s)[0]? = some (.v (.int .u64 s.ck.aE)):=(eU (by rw[bW];decide)).trans (kH _)
theorem Wh (s:Table):rd (bZ s) 1 32=bC s.ck.root:=(sN (by rw[bW];decide)).trans (vK _)
theorem Dq (s:Table):(bZ s)[33]? = some (s.iF):=(aK rfl (bW _)).trans (rfl)
theorem OF (s:Table) (x:AV):dP (bZ s) 33 ([x]) 34=bZ { s with iF:=x }:=(aD rfl rfl (bW _)).trans (bL (eP rfl))
def dM:Table:=⟨gM,(.v (.slice none 0 0))⟩
def Ph:List Value:=Et++([.slice none 0 0])
theorem EB:Ph.map AV.v=bZ dM:=by simp only[Ph,map_append,map_cons,map_nil,jQ,jR,Cr];rfl
theorem tZ (st:St) (s:Table):Yd st (bZ s)=cT (cN st s.iF) fun aCO=>some (bZ { s with iF:=aCO }):=by
 simp only[bZ,xP,lJ (bR _),zU,kJ,cF]
theorem OG (s:Table):rd (bZ s) 0 34=bZ s:=jF (eR _)
theorem OH (s x:Table):dP (bZ s) 0 (bZ x) 34=bZ x:=eP (eR _)
structure Request where
 tagged:zB
 block:cC
 tries:Int
 due:Int
def dF (s:Request):List AV:=mY s.tagged++(bC s.block++(rK s.tries++(lV s.due)))
@[simp] theorem gR (s:Request):(dF s).length=35:=by simp[dF]
theorem jV (s:Request):∀x∈dF s,Flat x:=by
 intro x hx;simp only[dF,mem_append,mem_singleton] at hx;rcases hx with hx|hx|hx|hx
 ·(exact Tc _ _ hx)
 ·(exact dY _ _ hx)
 ·(exact mJ _ _ hx)
 ·(exact eD _ _ hx)
theorem To (s:Request) (x:zB):dP (dF s) 0 (mY x) 1=dF { s with tagged:=x }:=cJ (gW _)
theorem Hp (s:Request):(dF s)[0]? = some (.v (.int .u64 s.tagged.tag)):=(eU (by rw[gW];decide)).trans (Br _)
theorem Wi (s:Request):rd (dF s) 1 32=bC s.block:=(bD rfl (gW _)).trans (gK (aO _))
theorem Wj (s:Request) (x:cC):dP (dF s) 1 (bC x) 33=dF { s with block:=x }:=(aD rfl rfl (gW _)).trans (bL (cJ (aO _)))
theorem Tp (s:Request):(dF s)[33]? = some (.v (.int .i64 s.tries)):=(aK rfl (gW _)).trans ((aK rfl (aO _)).trans (rfl))
theorem Wk (s:Request) (x:Int):dP (dF s) 33 ([.v (.int .i64 x)]) 34=dF { s with tries:=x }:=(aD rfl rfl (gW _)).trans (bL ((aD rfl rfl (aO _)).trans (bL (cJ (bJ _)))))
theorem Yr (s:Request):(dF s)[34]? = some (.v (.int .u64 s.due)):=(aK rfl (gW _)).trans ((aK rfl (aO _)).trans ((aK rfl (bJ _)).trans (rfl)))
theorem EC (s:Request) (x:Int):dP (dF s) 34 ([.v (.int .u64 x)]) 35=dF { s with due:=x }:=(aD rfl rfl (gW _)).trans (bL ((aD rfl rfl (aO _)).trans (bL ((aD rfl rfl (bJ _)).trans (bL (eP (aZ _)))))))
def dA:Request:=⟨Zp,cO,0,0⟩
def Tq:List Value:=Mq++(uC++([.int .i64 0]++([.int .u64 0])))
theorem ED:Tq.map AV.v=dF dA:=by simp only[Tq,map_append,map_cons,map_nil,jQ,jR,Mr];rfl
theorem EE (s:Request):rd (dF s) 0 35=dF s:=jF (gR _)
theorem EF (s x:Request):dP (dF s) 0 (dF x) 35=dF x:=eP (gR _)
structure Command where
 head:cC
 safe:cC
 fin:cC
def eN (s:Command):List AV:=bC s.head++(bC s.safe++(bC s.fin))
@[simp] theorem nY (s:Command):(eN s).length=96:=by simp[eN]
theorem tA (s:Command):∀x∈eN s,Flat x:=by
 intro x hx;simp only[eN,mem_append,mem_singleton] at hx;rcases hx with hx|hx|hx
 ·(exact dY _ _ hx)
 ·(exact dY _ _ hx)
 ·(exact dY _ _ hx)
theorem Ys (s:Command) (x:cC):dP (eN s) 0 (bC x) 32=eN { s with head:=x }:=cJ (aO _)
theorem Yt (s:Command) (x:cC):dP (eN s) 32 (bC x) 64=eN { s with safe:=x }:=(aD rfl rfl (aO _)).trans (bL (cJ (aO _)))
theorem EG (s:Command) (x:cC):dP (eN s) 64 (bC x) 96=eN { s with fin:=x }:=(aD rfl rfl (aO _)).trans (bL ((aD rfl rfl (aO _)).trans (bL (eP (aO _)))))
def EH:Command:=⟨cO,cO,cO⟩
def Ks:List Value:=uC++(uC++(uC))
theorem Qd:Ks.map AV.v=eN EH:=by simp only[Ks,map_append,map_cons,map_nil,jQ,jR];rfl
def WL:List Bool:=Kk++(Kk++(Kk))
theorem HL (a b:Command):iS WL (eN a) (eN b):=(fZ (oL _ _) (fZ (oL _ _) (oL _ _)))
theorem OI (a b:Command):eN a=eN b↔a=b:=by
 refine⟨fun h=>?_,fun h=>by rw[h]⟩
 cases a;cases b
 simp only[eN] at h;obtain⟨h0,h⟩:=append_inj h (by simp)
 obtain⟨h1,h⟩:=append_inj h (by simp)
 have e0:=(qP _ _).1 h0
 have e1:=(qP _ _).1 h1
 have e2:=(qP _ _).1 h
 subst e0 e1 e2;rfl
theorem EI (s:Command):rd (eN s) 0 96=eN s:=jF (nY _)
theorem EJ (s x:Command):dP (eN s) 0 (eN x) 96=eN x:=eP (nY _)
structure vT where
 dS:AV
 gA:AV
def eQ (s:vT):List AV:=[s.dS]++([s.gA])
@[simp] theorem dI (s:vT):(eQ s).length=2:=by simp[eQ]
theorem pK (s:vT) (h0:Flat s.dS) (h1:Flat s.gA):∀x∈eQ s,Flat x:=by
 intro x hx;simp only[eQ,mem_append,mem_singleton] at hx;rcases hx with hx|hx
 ·(subst hx;assumption)
 ·(subst hx;assumption)
theorem wI (s:vT):(eQ s)[0]? = some (s.dS):=rfl
theorem Ic (s:vT) (x:AV):dP (eQ s) 0 ([x]) 1=eQ { s with dS:=x }:=cJ rfl
theorem yU (s:vT):(eQ s)[1]? = some (s.gA):=(aK rfl rfl).trans (rfl)
theorem Kt (s:vT) (x:AV):dP (eQ s) 1 ([x]) 2=eQ { s with gA:=x }:=(aD rfl rfl rfl).trans (bL (eP rfl))
def Ou:vT:=⟨(.v (.slice none 0 0)),(.v (.slice none 0 0))⟩
def EK:List Value:=[.slice none 0 0]++([.slice none 0 0])
theorem EL:EK.map AV.v=eQ Ou:=by simp only[EK,map_append,map_cons,map_nil,jQ,jR];rfl
theorem V6 (st:St) (s:vT):Yd st (eQ s)=cT (cN st s.dS) fun x_latest=>cT (cN st s.gA) fun x_equiv=>some (eQ { s with dS:=x_latest,gA:=x_equiv }):=by
 simp only[eQ,xP,zU,kJ,cF]
theorem OJ (s:vT):rd (eQ s) 0 2=eQ s:=jF (dI _)
theorem OK (s x:vT):dP (eQ s) 0 (eQ x) 2=eQ x:=eP (dI _)
structure kF where
 eI:dL
 fin:dL
def eW (s:kF):List AV:=bG s.eI++(bG s.fin)
@[simp] theorem dC (s:kF):(eW s).length=66:=by simp[eW]
theorem lG (s:kF):∀x∈eW s,Flat x:=by
 intro x hx;simp only[eW,mem_append,mem_singleton] at hx;rcases hx with hx|hx
 ·(exact bR _ _ hx)
 ·(exact bR _ _ hx)
theorem Gk (s:kF):rd (eW s) 0 33=bG s.eI:=gK (bW _)
theorem Gl (s:kF) (x:dL):dP (eW s) 0 (bG x) 33=eW { s with eI:=x }:=cJ (bW _)
theorem uI (s:kF):(eW s)[0]? = some (.v (.int .u64 s.eI.aE)):=(eU (by rw[bW];decide)).trans (kH _)
theorem wB (s:kF):rd (eW s) 1 32=bC s.eI.root:=(sN (by rw[bW];decide)).trans (vK _)
theorem Ie (s:kF):rd (eW s) 33 33=bG s.fin:=(bD rfl (bW _)).trans (jF (bW _))
theorem Ig (s:kF) (x:dL):dP (eW s) 33 (bG x) 66=eW { s with fin:=x }:=(aD rfl rfl (bW _)).trans (bL (eP (bW _)))
theorem vN (s:kF):(eW s)[33]? = some (.v (.int .u64 s.fin.aE)):=(aK rfl (bW _)).trans (kH _)
theorem yO (s:kF):rd (eW s) 34 32=bC s.fin.root:=(bD rfl (bW _)).trans (vK _)
def Wl:kF:=⟨gM,gM⟩
def Gm:List Value:=Et++(Et)
theorem Ku:Gm.map AV.v=eW Wl:=by simp only[Gm,map_append,map_cons,map_nil,jQ,jR,Cr];rfl
def KL:List Bool:=Xt++(Xt)
theorem EM (a b:kF):iS KL (eW a) (eW b):=(fZ (tS _ _) (tS _ _))
theorem HM (a b:kF):eW a=eW b↔a=b:=by
 refine⟨fun h=>?_,fun h=>by rw[h]⟩
 cases a;cases b
 simp only[eW] at h;obtain⟨h0,h⟩:=append_inj h (by simp)
 have e0:=(nI _ _).1 h0
 have e1:=(nI _ _).1 h
 subst e0 e1;rfl
structure Av where
 early:AV
 bN:AV
def jZ (s:Av):List AV:=[s.early]++([s.bN])
@[simp] theorem iJ (s:Av):(jZ s).length=2:=by simp[jZ]
theorem Qz (s:Av) (h0:Flat s.early) (h1:Flat s.bN):∀x∈jZ s,Flat x:=by
 intro x hx;simp only[jZ,mem_append,mem_singleton] at hx;rcases hx with hx|hx
 ·(subst hx;assumption)
 ·(subst hx;assumption)
theorem wJ (s:Av):(jZ s)[0]? = some (s.early):=rfl
theorem Ih (s:Av) (x:AV):dP (jZ s) 0 ([x]) 1=jZ { s with early:=x }:=cJ rfl
theorem tL (s:Av):(jZ s)[1]? = some (s.bN):=(aK rfl rfl).trans (rfl)
theorem Dh (s:Av) (x:AV):dP (jZ s) 1 ([x]) 2=jZ { s with bN:=x }:=(aD rfl rfl rfl).trans (bL (eP rfl))
def Hc:Av:=⟨(.v (.slice none 0 0)),(.v (.slice none 0 0))⟩
def Zq:List Value:=[.slice none 0 0]++([.slice none 0 0])
theorem KM:Zq.map AV.v=jZ Hc:=by simp only[Zq,map_append,map_cons,map_nil,jQ,jR];rfl
theorem C4 (st:St) (s:Av):Yd st (jZ s)=cT (cN st s.early) fun x_early=>cT (cN st s.bN) fun x_orphans=>some (jZ { s with early:=x_early,bN:=x_orphans }):=by
 simp only[jZ,xP,zU,kJ,cF]
structure Eo where
 nodes:AV
def nA (s:Eo):List AV:=[s.nodes]
@[simp] theorem mU (s:Eo):(nA s).length=1:=by simp[nA]
theorem xW (s:Eo) (h0:Flat s.nodes):∀x∈nA s,Flat x:=by
 intro x hx;simp only[nA,mem_append,mem_singleton] at hx;(subst hx;assumption)
theorem yV (s:Eo):(nA s)[0]? = some (s.nodes):=rfl
theorem Kv (s:Eo) (x:AV):dP (nA s) 0 ([x]) 1=nA { s with nodes:=x }:=eP rfl
def Uo:Eo:=⟨(.v (.slice none 0 0))⟩
def C5:List Value:=[.slice none 0 0]
theorem WM:C5.map AV.v=nA Uo:=by simp only[C5,map_append,map_cons,map_nil,jQ,jR];rfl
theorem V7 (st:St) (s:Eo):Yd st (nA s)=cT (cN st s.nodes) fun x_nodes=>some (nA { s with nodes:=x_nodes }):=by
 simp only[nA,xP,zU,kJ,cF]
structure aL where
 cFg:Config
 fP:vT
 aI:kF
 cM:Av
 tree:Eo
 now:Int
 dV:cC
 tables:AV
def aA (s:aL):List AV:=bX s.cFg++(eQ s.fP++(eW s.aI++(jZ s.cM++(nA s.tree++(lV s.now++(bC s.dV++([s.tables])))))))
@[simp] theorem dG (s:aL):(aA s).length=150:=by simp[aA]
theorem Xa (s:aL) (h0:Flat s.cFg.iF) (h1:Flat s.fP.dS) (h2:Flat s.fP.gA) (h3:Flat s.cM.early) (h4:Flat s.cM.bN) (h5:Flat s.tree.nodes) (h6:Flat s.tables):∀x∈aA s,Flat x:=by
 intro x hx;simp only[aA,mem_append,mem_singleton] at hx;rcases hx with hx|hx|hx|hx|hx|hx|hx|hx
 ·(exact uU _ (by assumption) _ hx)
 ·(exact pK _ (by assumption) (by assumption) _ hx)
 ·(exact lG _ _ hx)
 ·(exact Qz _ (by assumption) (by assumption) _ hx)
 ·(exact xW _ (by assumption) _ hx)
 ·(exact eD _ _ hx)
 ·(exact dY _ _ hx)
 ·(subst hx;assumption)
theorem Yu (s:aL):rd (aA s) 0 45=bX s.cFg:=gK (bU _)
theorem Yv (s:aL) (x:Config):dP (aA s) 0 (bX x) 45=aA { s with cFg:=x }:=cJ (bU _)
theorem Bv (s:aL):(aA s)[0]? = some (.v (.int .i64 s.cFg.kU.sL)):=(eU (by rw[bU];decide)).trans (yM _)
theorem Bw (s:aL):(aA s)[1]? = some (.v (.int .i64 s.cFg.kU.vU)):=(eU (by rw[bU];decide)).trans (yN _)
theorem zV (s:aL):(aA s)[2]? = some (.v (.int .i64 s.cFg.kU.pW)):=(eU (by rw[bU];decide)).trans (vY _)
theorem zW (s:aL):(aA s)[3]? = some (.v (.int .i64 s.cFg.kU.nD)):=(eU (by rw[bU];decide)).trans (vZ _)
theorem qX (s:aL):(aA s)[4]? = some (.v (.int .i64 s.cFg.kU.oZ)):=(eU (by rw[bU];decide)).trans (wA _)
theorem qK (s:aL):(aA s)[5]? = some (.v (.int .u64 s.cFg.kU.rY)):=(eU (by rw[bU];decide)).trans (vM _)
theorem Kw (s:aL):(aA s)[6]? = some (.v (.int .u64 s.cFg.jS)):=(eU (by rw[bU];decide)).trans (Kp _)
theorem Nd (s:aL):rd (aA s) 8 4=gI s.cFg.BC:=(sN (by rw[bU];decide)).trans (Oa _)
theorem rM (s:aL):(aA s)[44]? = some (s.cFg.iF):=(eU (by rw[bU];decide)).trans (Au _)
theorem Nf (s:aL) (x:AV):dP (aA s) 44 ([x]) 45=aA { s with cFg:={ s.cFg with iF:=x }}:=(vX (by rw[bU];decide)).trans (Io (Ob _ x))
theorem EO (s:aL):rd (aA s) 45 2=eQ s.fP:=(bD rfl (bU _)).trans (gK (dI _))
theorem EP (s:aL) (x:vT):dP (aA s) 45 (eQ x) 47=aA { s with fP:=x }:=(aD rfl rfl (bU _)).trans (bL (cJ (dI _)))
theorem pS (s:aL):(aA s)[45]? = some (s.fP.dS):=(aK rfl (bU _)).trans ((eU (by rw[dI];decide)).trans (wI _))
theorem Ir (s:aL) (x:AV):dP (aA s) 45 ([x]) 46=aA { s with fP:={ s.fP with dS:=x }}:=(aD rfl rfl (bU _)).trans (bL ((vX (by rw[dI];decide)).trans (Io (Ic _ x))))
theorem qS (s:aL):(aA s)[46]? = some (s.fP.gA):=(aK rfl (bU _)).trans ((eU (by rw[dI];decide)).trans (yU _))
theorem Kx (s:aL) (x:AV):dP (aA s) 46 ([x]) 47=aA { s with fP:={ s.fP with gA:=x }}:=(aD rfl rfl (bU _)).trans (bL ((vX (by rw[dI];decide)).trans (Io (Kt _ x))))
theorem Tr (s:aL):rd (aA s) 47 66=eW s.aI:=(bD rfl (bU _)).trans ((bD rfl (dI _)).trans (gK (dC _)))
theorem Ts (s:aL) (x:kF):dP (aA s) 47 (eW x) 113=aA { s with aI:=x }:=(aD rfl rfl (bU _)).trans (bL ((aD rfl rfl (dI _)).trans (bL (cJ (dC _)))))
theorem Hq (s:aL):rd (aA s) 47 33=bG s.aI.eI:=(bD rfl (bU _)).trans ((bD rfl (dI _)).trans ((sN (by rw[dC];decide)).trans (Gk _)))
theorem Hr (s:aL) (x:dL):dP (aA s) 47 (bG x) 80=aA { s with aI:={ s.aI with eI:=x }}:=(aD rfl rfl (bU _)).trans (bL ((aD rfl rfl (dI _)).trans (bL ((vX (by rw[dC];decide)).trans (Io (Gl _ x))))))
theorem yP (s:aL):(aA s)[47]? = some (.v (.int .u64 s.aI.eI.aE)):=(aK rfl (bU _)).trans ((aK rfl (dI _)).trans ((eU (by rw[dC];decide)).trans (uI _)))
theorem qY (s:aL):rd (aA s) 48 32=bC s.aI.eI.root:=(bD rfl (bU _)).trans ((bD rfl (dI _)).trans ((sN (by rw[dC];decide)).trans (wB _)))
theorem Is (s:aL):rd (aA s) 80 33=bG s.aI.fin:=(bD rfl (bU _)).trans ((bD rfl (dI _)).trans ((sN (by rw[dC];decide)).trans (Ie _)))
theorem It (s:aL) (x:dL):dP (aA s) 80 (bG x) 113=aA { s with aI:={ s.aI with fin:=x }}:=(aD rfl rfl (bU _)).trans (bL ((aD rfl rfl (dI _)).trans (bL ((vX (by rw[dC];decide)).trans (Io (Ig _ x))))))
theorem zC (s:aL):(aA s)[80]? = some (.v (.int .u64 s.aI.fin.aE)):=(aK rfl (bU _)).trans ((aK rfl (dI _)).trans ((eU (by rw[dC];decide)).trans (vN _)))
theorem rT (s:aL):rd (aA s) 81 32=bC s.aI.fin.root:=(bD rfl (bU _)).trans ((bD rfl (dI _)).trans ((sN (by rw[dC];decide)).trans (yO _)))
theorem pT (s:aL):(aA s)[113]? = some (s.cM.early):=(aK rfl (bU _)).trans ((aK rfl (dI _)).trans ((aK rfl (dC _)).trans ((eU (by rw[iJ];decide)).trans (wJ _))))
theorem Iu (s:aL) (x:AV):dP (aA s) 113 ([x]) 114=aA { s with cM:={ s.cM with early:=x }}:=(aD rfl rfl (bU _)).trans (bL ((aD rfl rfl (dI _)).trans (bL ((aD rfl rfl (dC _)).trans (bL ((vX (by rw[iJ];decide)).trans (Io (Ih _ x))))))))
theorem oF (s:aL):(aA s)[114]? = some (s.cM.bN):=(aK rfl (bU _)).trans ((aK rfl (dI _)).trans ((aK rfl (dC _)).trans ((eU (by rw[iJ];decide)).trans (tL _))))
theorem Gn (s:aL) (x:AV):dP (aA s) 114 ([x]) 115=aA { s with cM:={ s.cM with bN:=x }}:=(aD rfl rfl (bU _)).trans (bL ((aD rfl rfl (dI _)).trans (bL ((aD rfl rfl (dC _)).trans (bL ((vX (by rw[iJ];decide)).trans (Io (Dh _ x))))))))
theorem Od (s:aL):rd (aA s) 115 1=nA s.tree:=(bD rfl (bU _)).trans ((bD rfl (dI _)).trans ((bD rfl (dC _)).trans ((bD rfl (iJ _)).trans (gK (mU _)))))
theorem Ec (s:aL) (x:Eo):dP (aA s) 115 (nA x) 116=aA { s with tree:=x }:=(aD rfl rfl (bU _)).trans (bL ((aD rfl rfl (dI _)).trans (bL ((aD rfl rfl (dC _)).trans (bL ((aD rfl rfl (iJ _)).trans (bL (cJ (mU _)))))))))
theorem rO (s:aL):(aA s)[115]? = some (s.tree.nodes):=(aK rfl (bU _)).trans ((aK rfl (dI _)).trans ((aK rfl (dC _)).trans ((aK rfl (iJ _)).trans ((eU (by rw[mU];decide)).trans (yV _)))))
theorem Ng (s:aL) (x:AV):dP (aA s) 115 ([x]) 116=aA { s with tree:={ s.tree with nodes:=x }}:=(aD rfl rfl (bU _)).trans (bL ((aD rfl rfl (dI _)).trans (bL ((aD rfl rfl (dC _)).trans (bL ((aD rfl rfl (iJ _)).trans (bL ((vX (by rw[mU];decide)).trans (Io (Kv _ x))))))))))
theorem Oe (s:aL):(aA s)[116]? = some (.v (.int .u64 s.now)):=(aK rfl (bU _)).trans ((aK rfl (dI _)).trans ((aK rfl (dC _)).trans ((aK rfl (iJ _)).trans ((aK rfl (mU _)).trans (rfl)))))
theorem OL (s:aL) (x:Int):dP (aA s) 116 ([.v (.int .u64 x)]) 117=aA { s with now:=x }:=(aD rfl rfl (bU _)).trans (bL ((aD rfl rfl (dI _)).trans (bL ((aD rfl rfl (dC _)).trans (bL ((aD rfl rfl (iJ _)).trans (bL ((aD rfl rfl (mU _)).trans (bL (cJ (aZ _)))))))))))
theorem Ky (s:aL):rd (aA s) 117 32=bC s.dV:=(bD rfl (bU _)).trans ((bD rfl (dI _)).trans ((bD rfl (dC _)).trans ((bD rfl (iJ _)).trans ((bD rfl (mU _)).trans ((bD rfl (aZ _)).trans (gK (aO _)))))))
theorem Kz (s:aL) (x:cC):dP (aA s) 117 (bC x) 149=aA { s with dV:=x }:=(aD rfl rfl (bU _)).trans (bL ((aD rfl rfl (dI _)).trans (bL ((aD rfl rfl (dC _)).trans (bL ((aD rfl rfl (iJ _)).trans (bL ((aD rfl rfl (mU _)).trans (bL ((aD rfl rfl (aZ _)).trans (bL (cJ (aO _)))))))))))))
theorem wK (s:aL):(aA s)[149]? = some (s.tables):=(aK rfl (bU _)).trans ((aK rfl (dI _)).trans ((aK rfl (dC _)).trans ((aK rfl (iJ _)).trans ((aK rfl (mU _)).trans ((aK rfl (aZ _)).trans ((aK rfl (aO _)).trans (rfl)))))))
theorem Yw (s:aL) (x:AV):dP (aA s) 149 ([x]) 150=aA { s with tables:=x }:=(aD rfl rfl (bU _)).trans (bL ((aD rfl rfl (dI _)).trans (bL ((aD rfl rfl (dC _)).trans (bL ((aD rfl rfl (iJ _)).trans (bL ((aD rfl rfl (mU _)).trans (bL ((aD rfl rfl (aZ _)).trans (bL ((aD rfl rfl (aO _)).trans (bL (eP rfl))))))))))))))
def gC:aL:=⟨mX,Ou,Wl,Hc,Uo,0,cO,(.v (.slice none 0 0))⟩
def ER:List Value:=Tl++(EK++(Gm++(Zq++(C5++([.int .u64 0]++(uC++([.slice none 0 0])))))))
theorem ES:ER.map AV.v=aA gC:=by simp only[ER,map_append,map_cons,map_nil,jQ,jR,We,EL,Ku,KM,WM];rfl
theorem gH (st:St) (s:aL):Yd st (aA s)=cT (cN st s.cFg.iF) fun x_config_bal=>cT (cN st s.fP.dS) fun x_votes_latest=>cT (cN st s.fP.gA) fun x_votes_equiv=>cT (cN st s.cM.early) fun x_queues_early=>cT (cN st s.cM.bN) fun x_queues_orphans=>cT (cN st s.tree.nodes) fun x_tree_nodes=>cT (cN st s.tables) fun x_tables=>some (aA { s with cFg:={ s.cFg with iF:=x_config_bal },fP:={ s.fP with dS:=x_votes_latest,gA:=x_votes_equiv },cM:={ s.cM with early:=x_queues_early,bN:=x_queues_orphans },tree:={ s.tree with nodes:=x_tree_nodes },tables:=x_tables }):=by
 simp only[aA,xP,Pf,V6,lJ (lG _),C4,V7,lJ (eD _),lJ (dY _),zU,kJ,cF]
theorem OM (s:aL):rd (aA s) 0 150=aA s:=jF (dG _)
theorem ON (s x:aL):dP (aA s) 0 (aA x) 150=aA x:=eP (dG _)
structure State where
 store:aL
 jA:AV
 rW:AV
 dB:Int
 Ox:Bool
 last:Command
 overflow:Bool
 halted:Bool
def aP (s:State):List AV:=aA s.store++([s.jA]++([s.rW]++(lV s.dB++(vW s.Ox++(eN s.last++(vW s.overflow++(vW s.halted)))))))
@[simp] theorem Qe (s:State):(aP s).length=252:=by simp[aP]
theorem QL (s:State) (h0:Flat s.store.cFg.iF) (h1:Flat s.store.fP.dS) (h2:Flat s.store.fP.gA) (h3:Flat s.store.cM.early) (h4:Flat s.store.cM.bN) (h5:Flat s.store.tree.nodes) (h6:Flat s.store.tables) (h7:Flat s.jA) (h8:Flat s.rW):∀x∈aP s,Flat x:=by
 intro x hx;simp only[aP,mem_append,mem_singleton] at hx;rcases hx with hx|hx|hx|hx|hx|hx|hx|hx
 ·(exact Xa _ (by assumption) (by assumption) (by assumption) (by assumption) (by assumption) (by assumption) (by assumption) _ hx)
 ·(subst hx;assumption)
 ·(subst hx;assumption)
 ·(exact eD _ _ hx)
 ·(exact tR _ _ hx)
 ·(exact tA _ _ hx)
 ·(exact tR _ _ hx)
 ·(exact tR _ _ hx)
theorem ET (s:State):rd (aP s) 0 150=aA s.store:=gK (dG _)
theorem EU (s:State) (x:aL):dP (aP s) 0 (aA x) 150=aP { s with store:=x }:=cJ (dG _)
theorem uL (s:State):(aP s)[4]? = some (.v (.int .i64 s.store.cFg.kU.oZ)):=(eU (by rw[dG];decide)).trans (qX _)
theorem tT (s:State):(aP s)[5]? = some (.v (.int .u64 s.store.cFg.kU.rY)):=(eU (by rw[dG];decide)).trans (qK _)
theorem rP (s:State):(aP s)[44]? = some (s.store.cFg.iF):=(eU (by rw[dG];decide)).trans (rM _)
theorem qE (s:State):(aP s)[45]? = some (s.store.fP.dS):=(eU (by rw[dG];decide)).trans (pS _)
theorem qW (s:State):(aP s)[46]? = some (s.store.fP.gA):=(eU (by rw[dG];decide)).trans (qS _)
theorem uM (s:State):rd (aP s) 48 32=bC s.store.aI.eI.root:=(sN (by rw[dG];decide)).trans (qY _)
theorem vO (s:State):rd (aP s) 81 32=bC s.store.aI.fin.root:=(sN (by rw[dG];decide)).trans (rT _)
theorem qF (s:State):(aP s)[113]? = some (s.store.cM.early):=(eU (by rw[dG];decide)).trans (pT _)
theorem oW (s:State):(aP s)[114]? = some (s.store.cM.bN):=(eU (by rw[dG];decide)).trans (oF _)
theorem Nh (s:State):rd (aP s) 115 1=nA s.store.tree:=(sN (by rw[dG];decide)).trans (Od _)
theorem zJ (s:State) (x:Eo):dP (aP s) 115 (nA x) 116=aP { s with store:={ s.store with tree:=x }}:=(vX (by rw[dG];decide)).trans (Io (Ec _ x))
theorem rQ (s:State):(aP s)[115]? = some (s.store.tree.nodes):=(eU (by rw[dG];decide)).trans (rO _)
theorem Ni (s:State):(aP s)[116]? = some (.v (.int .u64 s.store.now)):=(eU (by rw[dG];decide)).trans (Oe _)
theorem La (s:State):rd (aP s) 117 32=bC s.store.dV:=(sN (by rw[dG];decide)).trans (Ky _)
theorem Lb (s:State) (x:cC):dP (aP s) 117 (bC x) 149=aP { s with store:={ s.store with dV:=x }}:=(vX (by rw[dG];decide)).trans (Io (Kz _ x))
theorem uW (s:State):(aP s)[149]? = some (s.store.tables):=(eU (by rw[dG];decide)).trans (wK _)
theorem Aw (s:State):(aP s)[150]? = some (s.jA):=(aK rfl (dG _)).trans (rfl)
theorem Tt (s:State) (x:AV):dP (aP s) 150 ([x]) 151=aP { s with jA:=x }:=(aD rfl rfl (dG _)).trans (bL (cJ rfl))
theorem Co (s:State):(aP s)[151]? = some (s.rW):=(aK rfl (dG _)).trans ((aK rfl rfl).trans (rfl))
theorem Wm (s:State) (x:AV):dP (aP s) 151 ([x]) 152=aP { s with rW:=x }:=(aD rfl rfl (dG _)).trans (bL ((aD rfl rfl rfl).trans (bL (cJ rfl))))
theorem Tu (s:State):(aP s)[152]? = some (.v (.int .u64 s.dB)):=(aK rfl (dG _)).trans ((aK rfl rfl).trans ((aK rfl rfl).trans (rfl)))
theorem Wn (s:State) (x:Int):dP (aP s) 152 ([.v (.int .u64 x)]) 153=aP { s with dB:=x }:=(aD rfl rfl (dG _)).trans (bL ((aD rfl rfl rfl).trans (bL ((aD rfl rfl rfl).trans (bL (cJ (aZ _)))))))
theorem EW (s:State):(aP s)[153]? = some (.v (.bool s.Ox)):=(aK rfl (dG _)).trans ((aK rfl rfl).trans ((aK rfl rfl).trans ((aK rfl (aZ _)).trans (rfl))))
theorem HN (s:State) (x:Bool):dP (aP s) 153 ([.v (.bool x)]) 154=aP { s with Ox:=x }:=(aD rfl rfl (dG _)).trans (bL ((aD rfl rfl rfl).trans (bL ((aD rfl rfl rfl).trans (bL ((aD rfl rfl (aZ _)).trans (bL (cJ (iC _)))))))))
theorem HO (s:State):rd (aP s) 154 96=eN s.last:=(bD rfl (dG _)).trans ((bD rfl rfl).trans ((bD rfl rfl).trans ((bD rfl (aZ _)).trans ((bD rfl (iC _)).trans (gK (nY _))))))
theorem HP (s:State) (x:Command):dP (aP s) 154 (eN x) 250=aP { s with last:=x }:=(aD rfl rfl (dG _)).trans (bL ((aD rfl rfl rfl).trans (bL ((aD rfl rfl rfl).trans (bL ((aD rfl rfl (aZ _)).trans (bL ((aD rfl rfl (iC _)).trans (bL (cJ (nY _)))))))))))
theorem Tv (s:State) (x:Bool):dP (aP s) 250 ([.v (.bool x)]) 251=aP { s with overflow:=x }:=(aD rfl rfl (dG _)).trans (bL ((aD rfl rfl rfl).trans (bL ((aD rfl rfl rfl).trans (bL ((aD rfl rfl (aZ _)).trans (bL ((aD rfl rfl (iC _)).trans (bL ((aD rfl rfl (nY _)).trans (bL (cJ (iC _)))))))))))))
theorem Wo (s:State):(aP s)[251]? = some (.v (.bool s.halted)):=(aK rfl (dG _)).trans ((aK rfl rfl).trans ((aK rfl rfl).trans ((aK rfl (aZ _)).trans ((aK rfl (iC _)).trans ((aK rfl (nY _)).trans ((aK rfl (iC _)).trans (rfl)))))))
theorem Yx (s:State) (x:Bool):dP (aP s) 251 ([.v (.bool x)]) 252=aP { s with halted:=x }:=(aD rfl rfl (dG _)).trans (bL ((aD rfl rfl rfl).trans (bL ((aD rfl rfl rfl).trans (bL ((aD rfl rfl (aZ _)).trans (bL ((aD rfl rfl (iC _)).trans (bL ((aD rfl rfl (nY _)).trans (bL ((aD rfl rfl (iC _)).trans (bL (eP (iC _)))))))))))))))
def lZ:State:=⟨gC,(.v (.slice none 0 0)),(.v (.slice none 0 0)),0,false,EH,false,false⟩
def OO:List Value:=ER++([.slice none 0 0]++([.slice none 0 0]++([.int .u64 0]++([.bool false]++(Ks++([.bool false]++([.bool false])))))))
theorem WN:OO.map AV.v=aP lZ:=by simp only[OO,map_append,map_cons,map_nil,jQ,jR,ES,Qd];rfl
theorem wS (st:St) (s:State):Yd st (aP s)=cT (cN st s.store.cFg.iF) fun x_store_config_bal=>cT (cN st s.store.fP.dS) fun x_store_votes_latest=>cT (cN st s.store.fP.gA) fun x_store_votes_equiv=>cT (cN st s.store.cM.early) fun x_store_queues_early=>cT (cN st s.store.cM.bN) fun x_store_queues_orphans=>cT (cN st s.store.tree.nodes) fun x_store_tree_nodes=>cT (cN st s.store.tables) fun x_store_tables=>cT (cN st s.jA) fun x_requests=>cT (cN st s.rW) fun x_retries=>some (aP { s with store:={ s.store with cFg:={ s.store.cFg with iF:=x_store_config_bal },fP:={ s.store.fP with dS:=x_store_votes_latest,gA:=x_store_votes_equiv },cM:={ s.store.cM with early:=x_store_queues_early,bN:=x_store_queues_orphans },tree:={ s.store.tree with nodes:=x_store_tree_nodes },tables:=x_store_tables },jA:=x_requests,rW:=x_retries }):=by
 simp only[aP,xP,gH,zU,lJ (eD _),lJ (tR _),lJ (tA _),kJ,cF]
theorem OQ (s:State):rd (aP s) 0 252=aP s:=jF (Qe _)
theorem OR (s x:State):dP (aP s) 0 (aP x) 252=aP x:=eP (Qe _)
structure yQ where
 kind:Int
 block:Block
 Il:rX
 pL:gB
 table:Table
 verdict:gV
 write:Int
 pI:Int
def lD (s:yQ):List AV:=rK s.kind++(aU s.block++(iD s.Il++(cD s.pL++(bZ s.table++(dK s.verdict++(rK s.write++(rK s.pI)))))))
@[simp] theorem EX (s:yQ):(lD s).length=446:=by simp[lD]
theorem O2 (s:yQ) (h0:Flat s.Il.eM) (h1:Flat s.pL.first.eM) (h2:Flat s.pL.second.eM) (h3:Flat s.table.iF):∀x∈lD s,Flat x:=by
 intro x hx;simp only[lD,mem_append,mem_singleton] at hx;rcases hx with hx|hx|hx|hx|hx|hx|hx|hx
 ·(exact mJ _ _ hx)
 ·(exact Dc _ _ hx)
 ·(exact Uj _ (by assumption) _ hx)
 ·(exact Jl _ (by assumption) (by assumption) _ hx)
 ·(exact Jm _ (by assumption) _ hx)
 ·(exact jW _ _ hx)
 ·(exact mJ _ _ hx)
 ·(exact mJ _ _ hx)
theorem OS (s:yQ):(lD s)[0]? = some (.v (.int .i64 s.kind)):=rfl
theorem WO (s:yQ) (x:Int):dP (lD s) 0 ([.v (.int .i64 x)]) 1=lD { s with kind:=x }:=cJ (bJ _)
theorem OT (s:yQ):rd (lD s) 1 238=aU s.block:=(bD rfl (bJ _)).trans (gK (bO _))
theorem OU (s:yQ) (x:Block):dP (lD s) 1 (aU x) 239=lD { s with block:=x }:=(aD rfl rfl (bJ _)).trans (bL (cJ (bO _)))
theorem C6 (s:yQ):rd (lD s) 239 67=iD s.Il:=(bD rfl (bJ _)).trans ((bD rfl (bO _)).trans (gK (iI _)))
theorem C7 (s:yQ) (x:rX):dP (lD s) 239 (iD x) 306=lD { s with Il:=x }:=(aD rfl rfl (bJ _)).trans (bL ((aD rfl rfl (bO _)).trans (bL (cJ (iI _)))))
theorem Ep (s:yQ):(lD s)[305]? = some (s.Il.eM):=(aK rfl (bJ _)).trans ((aK rfl (bO _)).trans ((eU (by rw[iI];decide)).trans (Gx _)))
theorem OV (s:yQ):rd (lD s) 306 70=cD s.pL:=(bD rfl (bJ _)).trans ((bD rfl (bO _)).trans ((bD rfl (iI _)).trans (gK (fR _))))
theorem OW (s:yQ) (x:gB):dP (lD s) 306 (cD x) 376=lD { s with pL:=x }:=(aD rfl rfl (bJ _)).trans (bL ((aD rfl rfl (bO _)).trans (bL ((aD rfl rfl (iI _)).trans (bL (cJ (fR _)))))))
theorem sY (s:yQ):(lD s)[340]? = some (s.pL.first.eM):=(aK rfl (bJ _)).trans ((aK rfl (bO _)).trans ((aK rfl (iI _)).trans ((eU (by rw[fR];decide)).trans (oX _))))
theorem sI (s:yQ):(lD s)[375]? = some (s.pL.second.eM):=(aK rfl (bJ _)).trans ((aK rfl (bO _)).trans ((aK rfl (iI _)).trans ((eU (by rw[fR];decide)).trans (oG _))))
theorem OX (s:yQ):rd (lD s) 376 34=bZ s.table:=(bD rfl (bJ _)).trans ((bD rfl (bO _)).trans ((bD rfl (iI _)).trans ((bD rfl (fR _)).trans (gK (eR _)))))
theorem OY (s:yQ) (x:Table):dP (lD s) 376 (bZ x) 410=lD { s with table:=x }:=(aD rfl rfl (bJ _)).trans (bL ((aD rfl rfl (bO _)).trans (bL ((aD rfl rfl (iI _)).trans (bL ((aD rfl rfl (fR _)).trans (bL (cJ (eR _)))))))))
theorem Cp (s:yQ):(lD s)[409]? = some (s.table.iF):=(aK rfl (bJ _)).trans ((aK rfl (bO _)).trans ((aK rfl (iI _)).trans ((aK rfl (fR _)).trans ((eU (by rw[eR];decide)).trans (Dq _)))))
theorem EY (s:yQ):rd (lD s) 410 34=dK s.verdict:=(bD rfl (bJ _)).trans ((bD rfl (bO _)).trans ((bD rfl (iI _)).trans ((bD rfl (fR _)).trans ((bD rfl (eR _)).trans (gK (mE _))))))
theorem EZ (s:yQ) (x:gV):dP (lD s) 410 (dK x) 444=lD { s with verdict:=x }:=(aD rfl rfl (bJ _)).trans (bL ((aD rfl rfl (bO _)).trans (bL ((aD rfl rfl (iI _)).trans (bL ((aD rfl rfl (fR _)).trans (bL ((aD rfl rfl (eR _)).trans (bL (cJ (mE _)))))))))))
theorem HQ (s:yQ):(lD s)[444]? = some (.v (.int .i64 s.write)):=(aK rfl (bJ _)).trans ((aK rfl (bO _)).trans ((aK rfl (iI _)).trans ((aK rfl (fR _)).trans ((aK rfl (eR _)).trans ((aK rfl (mE _)).trans (rfl))))))
theorem OZ (s:yQ) (x:Int):dP (lD s) 444 ([.v (.int .i64 x)]) 445=lD { s with write:=x }:=(aD rfl rfl (bJ _)).trans (bL ((aD rfl rfl (bO _)).trans (bL ((aD rfl rfl (iI _)).trans (bL ((aD rfl rfl (fR _)).trans (bL ((aD rfl rfl (eR _)).trans (bL ((aD rfl rfl (mE _)).trans (bL (cJ (bJ _)))))))))))))
theorem PA (s:yQ):(lD s)[445]? = some (.v (.int .i64 s.pI)):=(aK rfl (bJ _)).trans ((aK rfl (bO _)).trans ((aK rfl (iI _)).trans ((aK rfl (fR _)).trans ((aK rfl (eR _)).trans ((aK rfl (mE _)).trans ((aK rfl (bJ _)).trans (rfl)))))))
theorem WQ (s:yQ) (x:Int):dP (lD s) 445 ([.v (.int .i64 x)]) 446=lD { s with pI:=x }:=(aD rfl rfl (bJ _)).trans (bL ((aD rfl rfl (bO _)).trans (bL ((aD rfl rfl (iI _)).trans (bL ((aD rfl rfl (fR _)).trans (bL ((aD rfl rfl (eR _)).trans (bL ((aD rfl rfl (mE _)).trans (bL ((aD rfl rfl (bJ _)).trans (bL (eP (bJ _)))))))))))))))
def Be:yQ:=⟨0,dO,Jx,Wg,dM,DW,0,0⟩
def aFu:List Value:=[.int .i64 0]++(Jz++(aCP++(Gj++(Ph++(Fh++([.int .i64 0]++([.int .i64 0])))))))
theorem aCQ:aFu.map AV.v=lD Be:=by simp only[aFu,map_append,map_cons,map_nil,jQ,jR,Ta,C0,Kr,EB,Px];rfl
theorem C8 (s:yQ):rd (lD s) 0 446=lD s:=jF (EX _)
theorem C9 (s x:yQ):dP (lD s) 0 (lD x) 446=lD x:=eP (EX _)
def dE (l:List kN):List AV:=l.flatMap jT
@[simp] theorem D0 (l:List (kN)):(dE l).length=l.length * 34:=by
 induction l with
 | nil=>rfl
 | cons x l ih=>simp only[dE,flatMap_cons,length_append,sG,length_cons] at *;omega
theorem nN (l:List (kN)):∀x∈dE l,Flat x:=by
 intro x hx;obtain⟨y,_,hy⟩:=mem_flatMap.1 hx
 exact B8 y x hy
def dT (l:List rX):List AV:=l.flatMap iD
@[simp] theorem aLj (l:List (rX)):(dT l).length=l.length * 67:=by
 induction l with
 | nil=>rfl
 | cons x l ih=>simp only[dT,flatMap_cons,length_append,iI,length_cons] at *;omega
theorem tO (l:List (rX)) (h:∀y∈l,Flat y.eM):∀x∈dT l,Flat x:=by
 intro x hx;obtain⟨y,hm,hy⟩:=mem_flatMap.1 hx
 exact Uj y (h y hm) x hy
def aN (l:List Table):List AV:=l.flatMap bZ
@[simp] theorem yF (l:List (Table)):(aN l).length=l.length * 34:=by
 induction l with
 | nil=>rfl
 | cons x l ih=>simp only[aN,flatMap_cons,length_append,eR,length_cons] at *;omega
theorem kD (l:List (Table)) (h:∀y∈l,Flat y.iF):∀x∈aN l,Flat x:=by
 intro x hx;obtain⟨y,hm,hy⟩:=mem_flatMap.1 hx
 exact Jm y (h y hm) x hy
def aF (l:List Request):List AV:=l.flatMap dF
@[simp] theorem HR (l:List (Request)):(aF l).length=l.length * 35:=by
 induction l with
 | nil=>rfl
 | cons x l ih=>simp only[aF,flatMap_cons,length_append,gR,length_cons] at *;omega
theorem uY (l:List (Request)):∀x∈aF l,Flat x:=by
 intro x hx;obtain⟨y,_,hy⟩:=mem_flatMap.1 hx
 exact jV y x hy
end Go.Ab
end
