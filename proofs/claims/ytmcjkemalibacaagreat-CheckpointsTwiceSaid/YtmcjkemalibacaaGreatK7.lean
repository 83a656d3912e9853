/-
  Part 7 of the proof: an evaluator of programs, its soundness, and what functions of this program compute.
-/
import Derived.Test.YtmcjkemalibacaaGreatK6
set_option linter.all false
set_option maxRecDepth 20000
set_option maxHeartbeats 40000000
section
namespace Go.Ab
open Classical
variable [Ext]
noncomputable def Tt (st:St) (cs:List AV):Option (List AV):=cM (cs.map (cJ st))
theorem wU (st:St) (a b:List AV):Tt st (a++b)=cT (Tt st a) fun x=>cT (Tt st b) fun y=>some (x++y):=by
 unfold Tt;induction a with
 | nil=>simp[cM,cT];cases cM (b.map (cJ st))<;>rfl
 | cons c a ih =>
   simp only[List.cons_append,List.map_cons];cases cJ st c with
   | none=>rfl
   | some c' =>
     simp only[cM,ih];cases cM (a.map (cJ st)) with
     | none=>rfl
     | some a' =>
       simp only[cT,Option.map_some];cases cM (b.map (cJ st))<;>rfl
theorem zC (st:St) (x:AV):Tt st [x]=cT (cJ st x) fun y=>some [y]:=by
 unfold Tt;simp only[List.map_cons,List.map_nil];cases cJ st x<;>rfl
theorem lI {st:St} {cs:List AV} (h:∀c∈cs,Flat c):Tt st cs=some cs:=by
 unfold Tt;induction cs with
 | nil=>rfl
 | cons c cs ih =>
   simp only[List.map_cons,cS (h c (by simp)),cM,ih fun x hx=>h x (by simp[hx]),Option.map_some]
theorem bP (st:St) (cs:List AV):fP st (.agg cs)=cT (Tt st cs) fun x=>some (.agg x):=by
 unfold fP;by_cases h:Flat (.agg cs)
 ·rw[if_pos h];have h':∀c∈cs,Flat c:=by cases h with|agg _ h=>exact h
  rw[lI h'];rfl
 ·rw[if_neg h];simp only[Tt];cases cM (cs.map (cJ st))<;>rfl
def ov {α:Type} (c:List α→List AV):Option (List α)→AV
 | none=>.v (.slice none 0 0)
 | some l=>.sl l.length (c l)
def ol {α:Type} (o:Option (List α)):List α:=o.getD []
theorem yY {α:Type} (l:List α):ol (some l)=l:=rfl
theorem aD2 {α:Type}:ol (none:Option (List α))=[]:=rfl
def gx {α:Type} (z:α) (l:List α) (i:Int):α:=l.getD i.toNat z
theorem ZD {α:Type} {z:α} {l:List α} {i:Int} (h0:0≤i) (h1:i<l.length):∃h:i.toNat<l.length,gx z l i=l[i.toNat]:=by
 have h:i.toNat<l.length:=by omega
 exact⟨h,by simp[gx,h]⟩
theorem sH {α:Type} {z:α} {l:List α} {i:Int} (h0:0≤i) (h1:i<l.length):gx z l i∈l:=by
 obtain⟨h,e⟩:=ZD (z:=z) h0 h1
 rw[e];exact List.getElem_mem h
def pF (l:List dQ):List AV:=l.flatMap bB
@[simp] theorem Zp (l:List (dQ)):(pF l).length=l.length * 33:=by
 induction l with
 | nil=>rfl
 | cons x l ih=>simp only[pF,List.flatMap_cons,List.length_append,bV,List.length_cons] at *;omega
def aF (l:List Block):List AV:=l.flatMap aV
@[simp] theorem oX (l:List (Block)):(aF l).length=l.length * 238:=by
 induction l with
 | nil=>rfl
 | cons x l ih=>simp only[aF,List.flatMap_cons,List.length_append,bS,List.length_cons] at *;omega
theorem lC (l:List (Block)):∀x∈aF l,Flat x:=by
 intro x hx;obtain⟨y,_,hy⟩:=List.mem_flatMap.1 hx
 exact Ck y x hy
def mX (l:List Bool):List AV:=l.flatMap vD
@[simp] theorem aHI (l:List (Bool)):(mX l).length=l.length * 1:=by
 induction l with
 | nil=>rfl
 | cons x l ih=>simp only[mX,List.flatMap_cons,List.length_append,iB,List.length_cons] at *;omega
theorem Vs (l:List (Bool)):∀x∈mX l,Flat x:=by
 intro x hx;obtain⟨y,_,hy⟩:=List.mem_flatMap.1 hx
 exact tE y x hy
structure yI where
 tag:Int
def mT (s:yI):List AV:=lV s.tag
@[simp] theorem gY (s:yI):(mT s).length=1:=by simp[mT]
theorem Ry (s:yI):∀x∈mT s,Flat x:=by
 intro x hx;simp only[mT,List.mem_append,List.mem_singleton] at hx;(exact dY _ _ hx)
theorem Ay (s:yI):(mT s)[0]? = some (.v (.int .u64 s.tag)):=rfl
theorem Mt (s:yI) (x:Int):dS (mT s) 0 ([.v (.int .u64 x)]) 1=mT { s with tag:=x }:=eM (aZ _)
def Yh:yI:=⟨0⟩
def Lp:List Value:=[.int .u64 0]
theorem Lq:Lp.map AV.v=mT Yh:=by simp only[Lp,List.map_append,List.map_cons,List.map_nil,jN,jO];rfl
def C7:List Bool:=[true]
theorem LU (a b:yI):iR C7 (mT a) (mT b):=(show iR [true] [_] [_] from ⟨rfl,trivial⟩)
theorem TF (a b:yI):mT a=mT b↔a=b:=by
 refine⟨fun h=>?_,fun h=>by rw[h]⟩
 cases a;cases b
 simp only[mT] at h;have e0:=(Jm _ _).1 h
 subst e0;rfl
structure gW where
 tagged:yI
 kind:Int
 dU:cN
def dJ (s:gW):List AV:=mT s.tagged++(qR s.kind++(bD s.dU))
@[simp] theorem mC (s:gW):(dJ s).length=34:=by simp[dJ]
theorem jS (s:gW):∀x∈dJ s,Flat x:=by
 intro x hx;simp only[dJ,List.mem_append,List.mem_singleton] at hx;rcases hx with hx|hx|hx
 ·(exact Ry _ _ hx)
 ·(exact mI _ _ hx)
 ·(exact dO _ _ hx)
theorem Rz (s:gW) (x:yI):dS (dJ s) 0 (mT x) 1=dJ { s with tagged:=x }:=cK (gY _)
theorem Gr (s:gW):(dJ s)[0]? = some (.v (.int .u64 s.tagged.tag)):=(eP (by rw[gY];decide)).trans (Ay _)
theorem Hp (s:gW) (x:Int):dS (dJ s) 0 ([.v (.int .u64 x)]) 1=dJ { s with tagged:={ s.tagged with tag:=x }}:=(vE (by rw[gY];decide)).trans (Hn (Mt _ x))
theorem Ur (s:gW):(dJ s)[1]? = some (.v (.int .i64 s.kind)):=(aJ rfl (gY _)).trans (rfl)
theorem Xc (s:gW) (x:Int):dS (dJ s) 1 ([.v (.int .i64 x)]) 2=dJ { s with kind:=x }:=(aD rfl rfl (gY _)).trans (bN (cK (bJ _)))
theorem Sa (s:gW):rd (dJ s) 2 32=bD s.dU:=(bE rfl (gY _)).trans ((bE rfl (bJ _)).trans (jB (aP _)))
theorem Sb (s:gW) (x:cN):dS (dJ s) 2 (bD x) 34=dJ { s with dU:=x }:=(aD rfl rfl (gY _)).trans (bN ((aD rfl rfl (bJ _)).trans (bN (eM (aP _)))))
def CF:gW:=⟨Yh,0,dR⟩
def Eh:List Value:=Lp++([.int .i64 0]++(tO))
theorem On:Eh.map AV.v=dJ CF:=by simp only[Eh,List.map_append,List.map_cons,List.map_nil,jN,jO,Lq];rfl
def TG:List Bool:=C7++([true]++(Jn))
theorem FH (a b:gW):iR TG (dJ a) (dJ b):=(gA (LU _ _) (gA (show iR [true] [_] [_] from ⟨rfl,trivial⟩) (nN _ _)))
theorem LV (a b:gW):dJ a=dJ b↔a=b:=by
 refine⟨fun h=>?_,fun h=>by rw[h]⟩
 cases a;cases b
 simp only[dJ] at h;obtain⟨h0,h⟩:=List.append_inj h (by simp)
 obtain⟨h1,h⟩:=List.append_inj h (by simp)
 have e0:=(TF _ _).1 h0
 have e1:=(xS _ _).1 h1
 have e2:=(pZ _ _).1 h
 subst e0 e1 e2;rfl
theorem CG (s:gW):rd (dJ s) 0 34=dJ s:=jB (mC _)
theorem CH (s x:gW):dS (dJ s) 0 (dJ x) 34=dJ x:=eM (mC _)
structure lE where
 sK:Int
 xB:Int
 qD:Int
 qC:Int
 oI:Int
 rL:Int
def fR (s:lE):List AV:=qR s.sK++(qR s.xB++(qR s.qD++(qR s.qC++(qR s.oI++(lV s.rL)))))
@[simp] theorem gC (s:lE):(fR s).length=6:=by simp[fR]
theorem rQ (s:lE):∀x∈fR s,Flat x:=by
 intro x hx;simp only[fR,List.mem_append,List.mem_singleton] at hx;rcases hx with hx|hx|hx|hx|hx|hx
 ·(exact mI _ _ hx)
 ·(exact mI _ _ hx)
 ·(exact mI _ _ hx)
 ·(exact mI _ _ hx)
 ·(exact mI _ _ hx)
 ·(exact dY _ _ hx)
theorem Fh (s:lE):(fR s)[0]? = some (.v (.int .i64 s.sK)):=rfl
theorem Xd (s:lE) (x:Int):dS (fR s) 0 ([.v (.int .i64 x)]) 1=fR { s with sK:=x }:=cK (bJ _)
theorem Fi (s:lE):(fR s)[1]? = some (.v (.int .i64 s.xB)):=(aJ rfl (bJ _)).trans (rfl)
theorem Xe (s:lE) (x:Int):dS (fR s) 1 ([.v (.int .i64 x)]) 2=fR { s with xB:=x }:=(aD rfl rfl (bJ _)).trans (bN (cK (bJ _)))
theorem Cm (s:lE):(fR s)[2]? = some (.v (.int .i64 s.qD)):=(aJ rfl (bJ _)).trans ((aJ rfl (bJ _)).trans (rfl))
theorem Us (s:lE) (x:Int):dS (fR s) 2 ([.v (.int .i64 x)]) 3=fR { s with qD:=x }:=(aD rfl rfl (bJ _)).trans (bN ((aD rfl rfl (bJ _)).trans (bN (cK (bJ _)))))
theorem Cn (s:lE):(fR s)[3]? = some (.v (.int .i64 s.qC)):=(aJ rfl (bJ _)).trans ((aJ rfl (bJ _)).trans ((aJ rfl (bJ _)).trans (rfl)))
theorem Ut (s:lE) (x:Int):dS (fR s) 3 ([.v (.int .i64 x)]) 4=fR { s with qC:=x }:=(aD rfl rfl (bJ _)).trans (bN ((aD rfl rfl (bJ _)).trans (bN ((aD rfl rfl (bJ _)).trans (bN (cK (bJ _)))))))
theorem Co (s:lE):(fR s)[4]? = some (.v (.int .i64 s.oI)):=(aJ rfl (bJ _)).trans ((aJ rfl (bJ _)).trans ((aJ rfl (bJ _)).trans ((aJ rfl (bJ _)).trans (rfl))))
theorem Uu (s:lE) (x:Int):dS (fR s) 4 ([.v (.int .i64 x)]) 5=fR { s with oI:=x }:=(aD rfl rfl (bJ _)).trans (bN ((aD rfl rfl (bJ _)).trans (bN ((aD rfl rfl (bJ _)).trans (bN ((aD rfl rfl (bJ _)).trans (bN (cK (bJ _)))))))))
theorem Az (s:lE):(fR s)[5]? = some (.v (.int .u64 s.rL)):=(aJ rfl (bJ _)).trans ((aJ rfl (bJ _)).trans ((aJ rfl (bJ _)).trans ((aJ rfl (bJ _)).trans ((aJ rfl (bJ _)).trans (rfl)))))
theorem Sc (s:lE) (x:Int):dS (fR s) 5 ([.v (.int .u64 x)]) 6=fR { s with rL:=x }:=(aD rfl rfl (bJ _)).trans (bN ((aD rfl rfl (bJ _)).trans (bN ((aD rfl rfl (bJ _)).trans (bN ((aD rfl rfl (bJ _)).trans (bN ((aD rfl rfl (bJ _)).trans (bN (eM (aZ _)))))))))))
def LW:lE:=⟨0,0,0,0,0,0⟩
def Sd:List Value:=[.int .i64 0]++([.int .i64 0]++([.int .i64 0]++([.int .i64 0]++([.int .i64 0]++([.int .u64 0])))))
theorem Uv:Sd.map AV.v=fR LW:=by simp only[Sd,List.map_append,List.map_cons,List.map_nil,jN,jO];rfl
def C8:List Bool:=[true]++([true]++([true]++([true]++([true]++([true])))))
theorem LX (a b:lE):iR C8 (fR a) (fR b):=(gA (show iR [true] [_] [_] from ⟨rfl,trivial⟩) (gA (show iR [true] [_] [_] from ⟨rfl,trivial⟩) (gA (show iR [true] [_] [_] from ⟨rfl,trivial⟩) (gA (show iR [true] [_] [_] from ⟨rfl,trivial⟩) (gA (show iR [true] [_] [_] from ⟨rfl,trivial⟩) (show iR [true] [_] [_] from ⟨rfl,trivial⟩))))))
theorem TH (a b:lE):fR a=fR b↔a=b:=by
 refine⟨fun h=>?_,fun h=>by rw[h]⟩
 cases a;cases b
 simp only[fR] at h;obtain⟨h0,h⟩:=List.append_inj h (by simp)
 obtain⟨h1,h⟩:=List.append_inj h (by simp)
 obtain⟨h2,h⟩:=List.append_inj h (by simp)
 obtain⟨h3,h⟩:=List.append_inj h (by simp)
 obtain⟨h4,h⟩:=List.append_inj h (by simp)
 have e0:=(xS _ _).1 h0
 have e1:=(xS _ _).1 h1
 have e2:=(xS _ _).1 h2
 have e3:=(xS _ _).1 h3
 have e4:=(xS _ _).1 h4
 have e5:=(Jm _ _).1 h
 subst e0 e1 e2 e3 e4 e5;rfl
structure Config where
 lJ:lE
 jH:Int
 Iu:Int
 DW:qM
 cX:cN
 iP:AV
def bW (s:Config):List AV:=fR s.lJ++(lV s.jH++(lV s.Iu++(gJ s.DW++(bD s.cX++([s.iP])))))
@[simp] theorem bT (s:Config):(bW s).length=45:=by simp[bW]
theorem uG (s:Config) (h0:Flat s.iP):∀x∈bW s,Flat x:=by
 intro x hx;simp only[bW,List.mem_append,List.mem_singleton] at hx;rcases hx with hx|hx|hx|hx|hx|hx
 ·(exact rQ _ _ hx)
 ·(exact dY _ _ hx)
 ·(exact dY _ _ hx)
 ·(exact iF _ _ hx)
 ·(exact dO _ _ hx)
 ·(subst hx;assumption)
theorem FI (s:Config):rd (bW s) 0 6=fR s.lJ:=gL (gC _)
theorem FJ (s:Config) (x:lE):dS (bW s) 0 (fR x) 6=bW { s with lJ:=x }:=cK (gC _)
theorem xT (s:Config):(bW s)[0]? = some (.v (.int .i64 s.lJ.sK)):=(eP (by rw[gC];decide)).trans (Fh _)
theorem xU (s:Config):(bW s)[1]? = some (.v (.int .i64 s.lJ.xB)):=(eP (by rw[gC];decide)).trans (Fi _)
theorem vF (s:Config):(bW s)[2]? = some (.v (.int .i64 s.lJ.qD)):=(eP (by rw[gC];decide)).trans (Cm _)
theorem vG (s:Config):(bW s)[3]? = some (.v (.int .i64 s.lJ.qC)):=(eP (by rw[gC];decide)).trans (Cn _)
theorem vH (s:Config):(bW s)[4]? = some (.v (.int .i64 s.lJ.oI)):=(eP (by rw[gC];decide)).trans (Co _)
theorem uV (s:Config):(bW s)[5]? = some (.v (.int .u64 s.lJ.rL)):=(eP (by rw[gC];decide)).trans (Az _)
theorem Jr (s:Config):(bW s)[6]? = some (.v (.int .u64 s.jH)):=(aJ rfl (gC _)).trans (rfl)
theorem FK (s:Config) (x:Int):dS (bW s) 6 ([.v (.int .u64 x)]) 7=bW { s with jH:=x }:=(aD rfl rfl (gC _)).trans (bN (cK (aZ _)))
theorem Se (s:Config):(bW s)[7]? = some (.v (.int .u64 s.Iu)):=(aJ rfl (gC _)).trans ((aJ rfl (aZ _)).trans (rfl))
theorem Uw (s:Config) (x:Int):dS (bW s) 7 ([.v (.int .u64 x)]) 8=bW { s with Iu:=x }:=(aD rfl rfl (gC _)).trans (bN ((aD rfl rfl (aZ _)).trans (bN (cK (aZ _)))))
theorem Mu (s:Config):rd (bW s) 8 4=gJ s.DW:=(bE rfl (gC _)).trans ((bE rfl (aZ _)).trans ((bE rfl (aZ _)).trans (gL (dZ _))))
theorem FL (s:Config) (x:qM):dS (bW s) 8 (gJ x) 12=bW { s with DW:=x }:=(aD rfl rfl (gC _)).trans (bN ((aD rfl rfl (aZ _)).trans (bN ((aD rfl rfl (aZ _)).trans (bN (cK (dZ _)))))))
theorem Sf (s:Config):rd (bW s) 12 32=bD s.cX:=(bE rfl (gC _)).trans ((bE rfl (aZ _)).trans ((bE rfl (aZ _)).trans ((bE rfl (dZ _)).trans (gL (aP _)))))
theorem Sg (s:Config) (x:cN):dS (bW s) 12 (bD x) 44=bW { s with cX:=x }:=(aD rfl rfl (gC _)).trans (bN ((aD rfl rfl (aZ _)).trans (bN ((aD rfl rfl (aZ _)).trans (bN ((aD rfl rfl (dZ _)).trans (bN (cK (aP _)))))))))
theorem Ae (s:Config):(bW s)[44]? = some (s.iP):=(aJ rfl (gC _)).trans ((aJ rfl (aZ _)).trans ((aJ rfl (aZ _)).trans ((aJ rfl (dZ _)).trans ((aJ rfl (aP _)).trans (rfl)))))
theorem Mv (s:Config) (x:AV):dS (bW s) 44 ([x]) 45=bW { s with iP:=x }:=(aD rfl rfl (gC _)).trans (bN ((aD rfl rfl (aZ _)).trans (bN ((aD rfl rfl (aZ _)).trans (bN ((aD rfl rfl (dZ _)).trans (bN ((aD rfl rfl (aP _)).trans (bN (eM rfl))))))))))
def mS:Config:=⟨LW,0,0,IJ,dR,(.v (.slice none 0 0))⟩
def Sh:List Value:=Sd++([.int .u64 0]++([.int .u64 0]++(BZ++(tO++([.slice none 0 0])))))
theorem Ux:Sh.map AV.v=bW mS:=by simp only[Sh,List.map_append,List.map_cons,List.map_nil,jN,jO,Uv];rfl
theorem Nw (st:St) (s:Config):Tt st (bW s)=cT (cJ st s.iP) fun aBu=>some (bW { s with iP:=aBu }):=by
 simp only[bW,wU,lI (rQ _),lI (dY _),lI (iF _),lI (dO _),zC,kE,cF]
theorem FM (s:Config):rd (bW s) 0 45=bW s:=jB (bT _)
theorem FN (s x:Config):dS (bW s) 0 (bW x) 45=bW x:=eM (bT _)
structure kO where
 has:Bool
 aG:Int
 root:cN
def jP (s:kO):List AV:=vD s.has++(lV s.aG++(bD s.root))
@[simp] theorem rV (s:kO):(jP s).length=34:=by simp[jP]
theorem ZE (s:kO):∀x∈jP s,Flat x:=by
 intro x hx;simp only[jP,List.mem_append,List.mem_singleton] at hx;rcases hx with hx|hx|hx
 ·(exact tE _ _ hx)
 ·(exact dY _ _ hx)
 ·(exact dO _ _ hx)
theorem LY (s:kO):(jP s)[0]? = some (.v (.bool s.has)):=rfl
theorem TJ (s:kO) (x:Bool):dS (jP s) 0 ([.v (.bool x)]) 1=jP { s with has:=x }:=cK (iB _)
theorem CI (s:kO):(jP s)[1]? = some (.v (.int .u64 s.aG)):=(aJ rfl (iB _)).trans (rfl)
theorem FO (s:kO) (x:Int):dS (jP s) 1 ([.v (.int .u64 x)]) 2=jP { s with aG:=x }:=(aD rfl rfl (iB _)).trans (bN (cK (aZ _)))
theorem LZ (s:kO):rd (jP s) 2 32=bD s.root:=(bE rfl (iB _)).trans ((bE rfl (aZ _)).trans (jB (aP _)))
theorem MA (s:kO) (x:cN):dS (jP s) 2 (bD x) 34=jP { s with root:=x }:=(aD rfl rfl (iB _)).trans (bN ((aD rfl rfl (aZ _)).trans (bN (eM (aP _)))))
def tN:kO:=⟨false,0,dR⟩
def C9:List Value:=[.bool false]++([.int .u64 0]++(tO))
theorem D0:C9.map AV.v=jP tN:=by simp only[C9,List.map_append,List.map_cons,List.map_nil,jN,jO];rfl
def aFY:List Bool:=[false]++([true]++(Jn))
theorem ZF (a b:kO):iR aFY (jP a) (jP b):=(gA (show iR [false] [_] [_] from trivial) (gA (show iR [true] [_] [_] from ⟨rfl,trivial⟩) (nN _ _)))
theorem N1 (a b:kO):jP a=jP b↔a=b:=by
 refine⟨fun h=>?_,fun h=>by rw[h]⟩
 cases a;cases b
 simp only[jP] at h;obtain⟨h0,h⟩:=List.append_inj h (by simp)
 obtain⟨h1,h⟩:=List.append_inj h (by simp)
 have e0:=(II _ _).1 h0
 have e1:=(Jm _ _).1 h1
 have e2:=(pZ _ _).1 h
 subst e0 e1 e2;rfl
theorem TK (s:kO):rd (jP s) 0 34=jP s:=jB (rV _)
theorem TL (s x:kO):dS (jP s) 0 (jP x) 34=jP x:=eM (rV _)
structure sG where
 slot:Int
 root:cN
 target:dQ
 fB:AV
def iC (s:sG):List AV:=lV s.slot++(bD s.root++(bB s.target++([s.fB])))
@[simp] theorem iH (s:sG):(iC s).length=67:=by simp[iC]
theorem Sy (s:sG) (h0:Flat s.fB):∀x∈iC s,Flat x:=by
 intro x hx;simp only[iC,List.mem_append,List.mem_singleton] at hx;rcases hx with hx|hx|hx|hx
 ·(exact dY _ _ hx)
 ·(exact dO _ _ hx)
 ·(exact bR _ _ hx)
 ·(subst hx;assumption)
theorem MB (s:sG):(iC s)[0]? = some (.v (.int .u64 s.slot)):=rfl
theorem TM (s:sG) (x:Int):dS (iC s) 0 ([.v (.int .u64 x)]) 1=iC { s with slot:=x }:=cK (aZ _)
theorem TN (s:sG):rd (iC s) 1 32=bD s.root:=(bE rfl (aZ _)).trans (gL (aP _))
theorem TO (s:sG) (x:cN):dS (iC s) 1 (bD x) 33=iC { s with root:=x }:=(aD rfl rfl (aZ _)).trans (bN (cK (aP _)))
theorem FP (s:sG):rd (iC s) 33 33=bB s.target:=(bE rfl (aZ _)).trans ((bE rfl (aP _)).trans (gL (bV _)))
theorem FQ (s:sG) (x:dQ):dS (iC s) 33 (bB x) 66=iC { s with target:=x }:=(aD rfl rfl (aZ _)).trans (bN ((aD rfl rfl (aP _)).trans (bN (cK (bV _)))))
theorem Js (s:sG):(iC s)[33]? = some (.v (.int .u64 s.target.aG)):=(aJ rfl (aZ _)).trans ((aJ rfl (aP _)).trans ((eP (by rw[bV];decide)).trans (kA _)))
theorem Ly (s:sG) (x:Int):dS (iC s) 33 ([.v (.int .u64 x)]) 34=iC { s with target:={ s.target with aG:=x }}:=(aD rfl rfl (aZ _)).trans (bN ((aD rfl rfl (aP _)).trans (bN ((vE (by rw[bV];decide)).trans (Hn (Dg _ x))))))
theorem Oo (s:sG):rd (iC s) 34 32=bD s.target.root:=(bE rfl (aZ _)).trans ((bE rfl (aP _)).trans ((sO (by rw[bV];decide)).trans (uT _)))
theorem Oq (s:sG) (x:cN):dS (iC s) 34 (bD x) 66=iC { s with target:={ s.target with root:=x }}:=(aD rfl rfl (aZ _)).trans (bN ((aD rfl rfl (aP _)).trans (bN ((vE (by rw[bV];decide)).trans (Hn (Gq _ x))))))
theorem Fy (s:sG):(iC s)[66]? = some (s.fB):=(aJ rfl (aZ _)).trans ((aJ rfl (aP _)).trans ((aJ rfl (bV _)).trans (rfl)))
theorem TP (s:sG) (x:AV):dS (iC s) 66 ([x]) 67=iC { s with fB:=x }:=(aD rfl rfl (aZ _)).trans (bN ((aD rfl rfl (aP _)).trans (bN ((aD rfl rfl (bV _)).trans (bN (eM rfl))))))
def Lu:sG:=⟨0,dR,gP,(.v (.slice none 0 0))⟩
def aBv:List Value:=[.int .u64 0]++(tO++(Dx++([.slice none 0 0])))
theorem ZH:aBv.map AV.v=iC Lu:=by simp only[aBv,List.map_append,List.map_cons,List.map_nil,jN,jO,Bz];rfl
theorem lY (st:St) (s:sG):Tt st (iC s)=cT (cJ st s.fB) fun ZI=>some (iC { s with fB:=ZI }):=by
 simp only[iC,wU,lI (dY _),lI (dO _),lI (bR _),zC,kE,cF]
theorem ZJ (s:sG):rd (iC s) 0 67=iC s:=jB (iH _)
theorem ZK (s x:sG):dS (iC s) 0 (iC x) 67=iC x:=eM (iH _)
structure Claim where
 source:Int
 target:Int
 root:cN
 fB:AV
def gV (s:Claim):List AV:=lV s.source++(lV s.target++(bD s.root++([s.fB])))
@[simp] theorem iQ (s:Claim):(gV s).length=35:=by simp[gV]
theorem Im (s:Claim) (h0:Flat s.fB):∀x∈gV s,Flat x:=by
 intro x hx;simp only[gV,List.mem_append,List.mem_singleton] at hx;rcases hx with hx|hx|hx|hx
 ·(exact dY _ _ hx)
 ·(exact dY _ _ hx)
 ·(exact dO _ _ hx)
 ·(subst hx;assumption)
theorem wJ (s:Claim):(gV s)[0]? = some (.v (.int .u64 s.source)):=rfl
theorem Hb (s:Claim) (x:Int):dS (gV s) 0 ([.v (.int .u64 x)]) 1=gV { s with source:=x }:=cK (aZ _)
theorem wK (s:Claim):(gV s)[1]? = some (.v (.int .u64 s.target)):=(aJ rfl (aZ _)).trans (rfl)
theorem Hc (s:Claim) (x:Int):dS (gV s) 1 ([.v (.int .u64 x)]) 2=gV { s with target:=x }:=(aD rfl rfl (aZ _)).trans (bN (cK (aZ _)))
theorem FR (s:Claim):rd (gV s) 2 32=bD s.root:=(bE rfl (aZ _)).trans ((bE rfl (aZ _)).trans (gL (aP _)))
theorem Mw (s:Claim) (x:cN):dS (gV s) 2 (bD x) 34=gV { s with root:=x }:=(aD rfl rfl (aZ _)).trans (bN ((aD rfl rfl (aZ _)).trans (bN (cK (aP _)))))
theorem uJ (s:Claim):(gV s)[34]? = some (s.fB):=(aJ rfl (aZ _)).trans ((aJ rfl (aZ _)).trans ((aJ rfl (aP _)).trans (rfl)))
theorem FU (s:Claim) (x:AV):dS (gV s) 34 ([x]) 35=gV { s with fB:=x }:=(aD rfl rfl (aZ _)).trans (bN ((aD rfl rfl (aZ _)).trans (bN ((aD rfl rfl (aP _)).trans (bN (eM rfl))))))
def MC:Claim:=⟨0,0,dR,(.v (.slice none 0 0))⟩
def Uy:List Value:=[.int .u64 0]++([.int .u64 0]++(tO++([.slice none 0 0])))
theorem CJ:Uy.map AV.v=gV MC:=by simp only[Uy,List.map_append,List.map_cons,List.map_nil,jN,jO];rfl
theorem vV (st:St) (s:Claim):Tt st (gV s)=cT (cJ st s.fB) fun ZI=>some (gV { s with fB:=ZI }):=by
 simp only[gV,wU,lI (dY _),lI (dO _),zC,kE,cF]
structure gB where
 first:Claim
 second:Claim
def cD (s:gB):List AV:=gV s.first++(gV s.second)
@[simp] theorem fO (s:gB):(cD s).length=70:=by simp[cD]
theorem Io (s:gB) (h0:Flat s.first.fB) (h1:Flat s.second.fB):∀x∈cD s,Flat x:=by
 intro x hx;simp only[cD,List.mem_append,List.mem_singleton] at hx;rcases hx with hx|hx
 ·(exact Im _ (by assumption) _ hx)
 ·(exact Im _ (by assumption) _ hx)
theorem Si (s:gB):rd (cD s) 0 35=gV s.first:=gL (iQ _)
theorem Sj (s:gB) (x:Claim):dS (cD s) 0 (gV x) 35=cD { s with first:=x }:=cK (iQ _)
theorem Bk (s:gB):(cD s)[0]? = some (.v (.int .u64 s.first.source)):=(eP (by rw[iQ];decide)).trans (wJ _)
theorem Bl (s:gB):(cD s)[1]? = some (.v (.int .u64 s.first.target)):=(eP (by rw[iQ];decide)).trans (wK _)
theorem oH (s:gB):(cD s)[34]? = some (s.first.fB):=(eP (by rw[iQ];decide)).trans (uJ _)
theorem Ot (s:gB):rd (cD s) 35 35=gV s.second:=(bE rfl (iQ _)).trans (jB (iQ _))
theorem Ou (s:gB) (x:Claim):dS (cD s) 35 (gV x) 70=cD { s with second:=x }:=(aD rfl rfl (iQ _)).trans (bN (eM (iQ _)))
theorem Ba (s:gB):(cD s)[35]? = some (.v (.int .u64 s.second.source)):=(aJ rfl (iQ _)).trans (wJ _)
theorem Bm (s:gB) (x:Int):dS (cD s) 35 ([.v (.int .u64 x)]) 36=cD { s with second:={ s.second with source:=x }}:=(aD rfl rfl (iQ _)).trans (bN (Hb _ x))
theorem Bb (s:gB):(cD s)[36]? = some (.v (.int .u64 s.second.target)):=(aJ rfl (iQ _)).trans (wK _)
theorem Bn (s:gB) (x:Int):dS (cD s) 36 ([.v (.int .u64 x)]) 37=cD { s with second:={ s.second with target:=x }}:=(aD rfl rfl (iQ _)).trans (bN (Hc _ x))
theorem Fj (s:gB) (x:cN):dS (cD s) 37 (bD x) 69=cD { s with second:={ s.second with root:=x }}:=(aD rfl rfl (iQ _)).trans (bN (Mw _ x))
theorem nJ (s:gB):(cD s)[69]? = some (s.second.fB):=(aJ rfl (iQ _)).trans (uJ _)
def Uz:gB:=⟨MC,MC⟩
def Fk:List Value:=Uy++(Uy)
theorem Jt:Fk.map AV.v=cD Uz:=by simp only[Fk,List.map_append,List.map_cons,List.map_nil,jN,jO,CJ];rfl
theorem rO (st:St) (s:gB):Tt st (cD s)=cT (cJ st s.first.fB) fun x_first_vals=>cT (cJ st s.second.fB) fun x_second_vals=>some (cD { s with first:={ s.first with fB:=x_first_vals },second:={ s.second with fB:=x_second_vals }}):=by
 simp only[cD,wU,vV,kE,cF]
theorem Xf (s:gB):rd (cD s) 0 70=cD s:=jB (fO _)
theorem Xg (s x:gB):dS (cD s) 0 (cD x) 70=cD x:=eM (fO _)
structure Table where
 ck:dQ
 iP:AV
def cA (s:Table):List AV:=bB s.ck++([s.iP])
@[simp] theorem eN (s:Table):(cA s).length=34:=by simp[cA]
theorem Ip (s:Table) (h0:Flat s.iP):∀x∈cA s,Flat x:=by
 intro x hx;simp only[cA,List.mem_append,List.mem_singleton] at hx;rcases hx with hx|hx
 ·(exact bR _ _ hx)
 ·(subst hx;assumption)
theorem TS (s:Table):rd (cA s) 0 33=bB s.ck:=gL (bV _)
theorem TT (s:Table) (x:dQ):dS (cA s) 0 (bB x) 33=cA { s with ck:=x }:=cK (bV _)
theorem Ov (s:Table):(cA s)[0]? = some (.v (.int .u64 s.ck.aG)):=(eP (by rw[bV];decide)).trans (kA _)
theorem Va (s:Table):rd (cA s) 1 32=bD s.ck.root:=(sO (by rw[bV];decide)).trans (uT _)
theorem Cw (s:Table):(cA s)[33]? = some (s.iP):=(aJ rfl (bV _)).trans (rfl)
theorem MD (s:Table) (x:AV):dS (cA s) 33 ([x]) 34=cA { s with iP:=x }:=(aD rfl rfl (bV _)).trans (bN (eM rfl))
def eI:Table:=⟨gP,(.v (.slice none 0 0))⟩
def Nz:List Value:=Dx++([.slice none 0 0])
theorem CK:Nz.map AV.v=cA eI:=by simp only[Nz,List.map_append,List.map_cons,List.map_nil,jN,jO,Bz];rfl
theorem tM (st:St) (s:Table):Tt st (cA s)=cT (cJ st s.iP) fun aBu=>some (cA { s with iP:=aBu }):=by
 simp only[cA,wU,lI (bR _),zC,kE,cF]
theorem ME (s:Table):rd (cA s) 0 34=cA s:=jB (eN _)
theorem MF (s x:Table):dS (cA s) 0 (cA x) 34=cA x:=eM (eN _)
structure Request where
 tagged:yI
 block:cN
 tries:Int
 due:Int
def dD (s:Request):List AV:=mT s.tagged++(bD s.block++(qR s.tries++(lV s.due)))
@[simp] theorem gS (s:Request):(dD s).length=35:=by simp[dD]
theorem jR (s:Request):∀x∈dD s,Flat x:=by
 intro x hx;simp only[dD,List.mem_append,List.mem_singleton] at hx;rcases hx with hx|hx|hx|hx
 ·(exact Ry _ _ hx)
 ·(exact dO _ _ hx)
 ·(exact mI _ _ hx)
 ·(exact dY _ _ hx)
theorem Sk (s:Request) (x:yI):dS (dD s) 0 (mT x) 1=dD { s with tagged:=x }:=cK (gY _)
theorem Gs (s:Request):(dD s)[0]? = some (.v (.int .u64 s.tagged.tag)):=(eP (by rw[gY];decide)).trans (Ay _)
theorem Vb (s:Request):rd (dD s) 1 32=bD s.block:=(bE rfl (gY _)).trans (gL (aP _))
theorem Vc (s:Request) (x:cN):dS (dD s) 1 (bD x) 33=dD { s with block:=x }:=(aD rfl rfl (gY _)).trans (bN (cK (aP _)))
theorem Sl (s:Request):(dD s)[33]? = some (.v (.int .i64 s.tries)):=(aJ rfl (gY _)).trans ((aJ rfl (aP _)).trans (rfl))
theorem Vd (s:Request) (x:Int):dS (dD s) 33 ([.v (.int .i64 x)]) 34=dD { s with tries:=x }:=(aD rfl rfl (gY _)).trans (bN ((aD rfl rfl (aP _)).trans (bN (cK (bJ _)))))
theorem Xh (s:Request):(dD s)[34]? = some (.v (.int .u64 s.due)):=(aJ rfl (gY _)).trans ((aJ rfl (aP _)).trans ((aJ rfl (bJ _)).trans (rfl)))
theorem CL (s:Request) (x:Int):dS (dD s) 34 ([.v (.int .u64 x)]) 35=dD { s with due:=x }:=(aD rfl rfl (gY _)).trans (bN ((aD rfl rfl (aP _)).trans (bN ((aD rfl rfl (bJ _)).trans (bN (eM (aZ _)))))))
def cZ:Request:=⟨Yh,dR,0,0⟩
def Sm:List Value:=Lp++(tO++([.int .i64 0]++([.int .u64 0])))
theorem CM:Sm.map AV.v=dD cZ:=by simp only[Sm,List.map_append,List.map_cons,List.map_nil,jN,jO,Lq];rfl
theorem CN (s:Request):rd (dD s) 0 35=dD s:=jB (gS _)
theorem CO (s x:Request):dS (dD s) 0 (dD x) 35=dD x:=eM (gS _)
structure Command where
 head:cN
 safe:cN
 fin:cN
def eK (s:Command):List AV:=bD s.head++(bD s.safe++(bD s.fin))
@[simp] theorem nF (s:Command):(eK s).length=96:=by simp[eK]
theorem sL (s:Command):∀x∈eK s,Flat x:=by
 intro x hx;simp only[eK,List.mem_append,List.mem_singleton] at hx;rcases hx with hx|hx|hx
 ·(exact dO _ _ hx)
 ·(exact dO _ _ hx)
 ·(exact dO _ _ hx)
theorem Xi (s:Command) (x:cN):dS (eK s) 0 (bD x) 32=eK { s with head:=x }:=cK (aP _)
theorem Xj (s:Command) (x:cN):dS (eK s) 32 (bD x) 64=eK { s with safe:=x }:=(aD rfl rfl (aP _)).trans (bN (cK (aP _)))
theorem CP (s:Command) (x:cN):dS (eK s) 64 (bD x) 96=eK { s with fin:=x }:=(aD rfl rfl (aP _)).trans (bN ((aD rfl rfl (aP _)).trans (bN (eM (aP _)))))
def CQ:Command:=⟨dR,dR,dR⟩
def Ju:List Value:=tO++(tO++(tO))
theorem Ow:Ju.map AV.v=eK CQ:=by simp only[Ju,List.map_append,List.map_cons,List.map_nil,jN,jO];rfl
def TU:List Bool:=Jn++(Jn++(Jn))
theorem FV (a b:Command):iR TU (eK a) (eK b):=(gA (nN _ _) (gA (nN _ _) (nN _ _)))
theorem MG (a b:Command):eK a=eK b↔a=b:=by
 refine⟨fun h=>?_,fun h=>by rw[h]⟩
 cases a;cases b
 simp only[eK] at h;obtain⟨h0,h⟩:=List.append_inj h (by simp)
 obtain⟨h1,h⟩:=List.append_inj h (by simp)
 have e0:=(pZ _ _).1 h0
 have e1:=(pZ _ _).1 h1
 have e2:=(pZ _ _).1 h
 subst e0 e1 e2;rfl
theorem CR (s:Command):rd (eK s) 0 96=eK s:=jB (nF _)
theorem CS (s x:Command):dS (eK s) 0 (eK x) 96=eK x:=eM (nF _)
structure vB where
 dU:AV
 gN:AV
def eZ (s:vB):List AV:=[s.dU]++([s.gN])
@[simp] theorem dG (s:vB):(eZ s).length=2:=by simp[eZ]
theorem qS (s:vB) (h0:Flat s.dU) (h1:Flat s.gN):∀x∈eZ s,Flat x:=by
 intro x hx;simp only[eZ,List.mem_append,List.mem_singleton] at hx;rcases hx with hx|hx
 ·(subst hx;assumption)
 ·(subst hx;assumption)
theorem vP (s:vB):(eZ s)[0]? = some (s.dU):=rfl
theorem Hd (s:vB) (x:AV):dS (eZ s) 0 ([x]) 1=eZ { s with dU:=x }:=cK rfl
theorem yB (s:vB):(eZ s)[1]? = some (s.gN):=(aJ rfl rfl).trans (rfl)
theorem Jv (s:vB) (x:AV):dS (eZ s) 1 ([x]) 2=eZ { s with gN:=x }:=(aD rfl rfl rfl).trans (bN (eM rfl))
def Nl:vB:=⟨(.v (.slice none 0 0)),(.v (.slice none 0 0))⟩
def CT:List Value:=[.slice none 0 0]++([.slice none 0 0])
theorem CU:CT.map AV.v=eZ Nl:=by simp only[CT,List.map_append,List.map_cons,List.map_nil,jN,jO];rfl
theorem N2 (st:St) (s:vB):Tt st (eZ s)=cT (cJ st s.dU) fun x_latest=>cT (cJ st s.gN) fun x_equiv=>some (eZ { s with dU:=x_latest,gN:=x_equiv }):=by
 simp only[eZ,wU,zC,kE,cF]
theorem MH (s:vB):rd (eZ s) 0 2=eZ s:=jB (dG _)
theorem MI (s x:vB):dS (eZ s) 0 (eZ x) 2=eZ x:=eM (dG _)
structure jA where
 gI:dQ
 fin:dQ
def eR (s:jA):List AV:=bB s.gI++(bB s.fin)
@[simp] theorem dC (s:jA):(eR s).length=66:=by simp[eR]
theorem jZ (s:jA):∀x∈eR s,Flat x:=by
 intro x hx;simp only[eR,List.mem_append,List.mem_singleton] at hx;rcases hx with hx|hx
 ·(exact bR _ _ hx)
 ·(exact bR _ _ hx)
theorem Fl (s:jA):rd (eR s) 0 33=bB s.gI:=gL (bV _)
theorem Fm (s:jA) (x:dQ):dS (eR s) 0 (bB x) 33=eR { s with gI:=x }:=cK (bV _)
theorem tT (s:jA):(eR s)[0]? = some (.v (.int .u64 s.gI.aG)):=(eP (by rw[bV];decide)).trans (kA _)
theorem vI (s:jA):rd (eR s) 1 32=bD s.gI.root:=(sO (by rw[bV];decide)).trans (uT _)
theorem He (s:jA):rd (eR s) 33 33=bB s.fin:=(bE rfl (bV _)).trans (jB (bV _))
theorem Hf (s:jA) (x:dQ):dS (eR s) 33 (bB x) 66=eR { s with fin:=x }:=(aD rfl rfl (bV _)).trans (bN (eM (bV _)))
theorem uW (s:jA):(eR s)[33]? = some (.v (.int .u64 s.fin.aG)):=(aJ rfl (bV _)).trans (kA _)
theorem xV (s:jA):rd (eR s) 34 32=bD s.fin.root:=(bE rfl (bV _)).trans (uT _)
def Ve:jA:=⟨gP,gP⟩
def Fo:List Value:=Dx++(Dx)
theorem Jw:Fo.map AV.v=eR Ve:=by simp only[Fo,List.map_append,List.map_cons,List.map_nil,jN,jO,Bz];rfl
def IK:List Bool:=Wi++(Wi)
theorem CV (a b:jA):iR IK (eR a) (eR b):=(gA (tF _ _) (tF _ _))
theorem FW (a b:jA):eR a=eR b↔a=b:=by
 refine⟨fun h=>?_,fun h=>by rw[h]⟩
 cases a;cases b
 simp only[eR] at h;obtain⟨h0,h⟩:=List.append_inj h (by simp)
 have e0:=(mY _ _).1 h0
 have e1:=(mY _ _).1 h
 subst e0 e1;rfl
structure Af where
 early:AV
 bL:AV
def jM (s:Af):List AV:=[s.early]++([s.bL])
@[simp] theorem iI (s:Af):(jM s).length=2:=by simp[jM]
theorem Py (s:Af) (h0:Flat s.early) (h1:Flat s.bL):∀x∈jM s,Flat x:=by
 intro x hx;simp only[jM,List.mem_append,List.mem_singleton] at hx;rcases hx with hx|hx
 ·(subst hx;assumption)
 ·(subst hx;assumption)
theorem vQ (s:Af):(jM s)[0]? = some (s.early):=rfl
theorem Hg (s:Af) (x:AV):dS (jM s) 0 ([x]) 1=jM { s with early:=x }:=cK rfl
theorem sX (s:Af):(jM s)[1]? = some (s.bL):=(aJ rfl rfl).trans (rfl)
theorem Cp (s:Af) (x:AV):dS (jM s) 1 ([x]) 2=jM { s with bL:=x }:=(aD rfl rfl rfl).trans (bN (eM rfl))
def Gd:Af:=⟨(.v (.slice none 0 0)),(.v (.slice none 0 0))⟩
def Yi:List Value:=[.slice none 0 0]++([.slice none 0 0])
theorem IL:Yi.map AV.v=jM Gd:=by simp only[Yi,List.map_append,List.map_cons,List.map_nil,jN,jO];rfl
theorem ZL (st:St) (s:Af):Tt st (jM s)=cT (cJ st s.early) fun x_early=>cT (cJ st s.bL) fun x_orphans=>some (jM { s with early:=x_early,bL:=x_orphans }):=by
 simp only[jM,wU,zC,kE,cF]
structure Du where
 nodes:AV
def mL (s:Du):List AV:=[s.nodes]
@[simp] theorem mQ (s:Du):(mL s).length=1:=by simp[mL]
theorem xA (s:Du) (h0:Flat s.nodes):∀x∈mL s,Flat x:=by
 intro x hx;simp only[mL,List.mem_append,List.mem_singleton] at hx;(subst hx;assumption)
theorem yC (s:Du):(mL s)[0]? = some (s.nodes):=rfl
theorem Jx (s:Du) (x:AV):dS (mL s) 0 ([x]) 1=mL { s with nodes:=x }:=eM rfl
def Td:Du:=⟨(.v (.slice none 0 0))⟩
def ZM:List Value:=[.slice none 0 0]
theorem TV:ZM.map AV.v=mL Td:=by simp only[ZM,List.map_append,List.map_cons,List.map_nil,jN,jO];rfl
theorem N3 (st:St) (s:Du):Tt st (mL s)=cT (cJ st s.nodes) fun x_nodes=>some (mL { s with nodes:=x_nodes }):=by
 simp only[mL,wU,zC,kE,cF]
structure aM where
 cFg:Config
 gH:vB
 aL:jA
 cC:Af
 tree:Du
 now:Int
 eE:cN
 tables:AV
def aA (s:aM):List AV:=bW s.cFg++(eZ s.gH++(eR s.aL++(jM s.cC++(mL s.tree++(lV s.now++(bD s.eE++([s.tables])))))))
@[simp] theorem dE (s:aM):(aA s).length=150:=by simp[aA]
theorem Vr (s:aM) (h0:Flat s.cFg.iP) (h1:Flat s.gH.dU) (h2:Flat s.gH.gN) (h3:Flat s.cC.early) (h4:Flat s.cC.bL) (h5:Flat s.tree.nodes) (h6:Flat s.tables):∀x∈aA s,Flat x:=by
 intro x hx;simp only[aA,List.mem_append,List.mem_singleton] at hx;rcases hx with hx|hx|hx|hx|hx|hx|hx|hx
 ·(exact uG _ (by assumption) _ hx)
 ·(exact qS _ (by assumption) (by assumption) _ hx)
 ·(exact jZ _ _ hx)
 ·(exact Py _ (by assumption) (by assumption) _ hx)
 ·(exact xA _ (by assumption) _ hx)
 ·(exact dY _ _ hx)
 ·(exact dO _ _ hx)
 ·(subst hx;assumption)
theorem Xk (s:aM):rd (aA s) 0 45=bW s.cFg:=gL (bT _)
theorem Xl (s:aM) (x:Config):dS (aA s) 0 (bW x) 45=aA { s with cFg:=x }:=cK (bT _)
theorem Bc (s:aM):(aA s)[0]? = some (.v (.int .i64 s.cFg.lJ.sK)):=(eP (by rw[bT];decide)).trans (xT _)
theorem Bd (s:aM):(aA s)[1]? = some (.v (.int .i64 s.cFg.lJ.xB)):=(eP (by rw[bT];decide)).trans (xU _)
theorem zD (s:aM):(aA s)[2]? = some (.v (.int .i64 s.cFg.lJ.qD)):=(eP (by rw[bT];decide)).trans (vF _)
theorem zF (s:aM):(aA s)[3]? = some (.v (.int .i64 s.cFg.lJ.qC)):=(eP (by rw[bT];decide)).trans (vG _)
theorem qJ (s:aM):(aA s)[4]? = some (.v (.int .i64 s.cFg.lJ.oI)):=(eP (by rw[bT];decide)).trans (vH _)
theorem pU (s:aM):(aA s)[5]? = some (.v (.int .u64 s.cFg.lJ.rL)):=(eP (by rw[bT];decide)).trans (uV _)
theorem Jy (s:aM):(aA s)[6]? = some (.v (.int .u64 s.cFg.jH)):=(eP (by rw[bT];decide)).trans (Jr _)
theorem Lz (s:aM):rd (aA s) 8 4=gJ s.cFg.DW:=(sO (by rw[bT];decide)).trans (Mu _)
theorem qT (s:aM):(aA s)[44]? = some (s.cFg.iP):=(eP (by rw[bT];decide)).trans (Ae _)
theorem Ma (s:aM) (x:AV):dS (aA s) 44 ([x]) 45=aA { s with cFg:={ s.cFg with iP:=x }}:=(vE (by rw[bT];decide)).trans (Hn (Mv _ x))
theorem CW (s:aM):rd (aA s) 45 2=eZ s.gH:=(bE rfl (bT _)).trans (gL (dG _))
theorem CX (s:aM) (x:vB):dS (aA s) 45 (eZ x) 47=aA { s with gH:=x }:=(aD rfl rfl (bT _)).trans (bN (cK (dG _)))
theorem pC (s:aM):(aA s)[45]? = some (s.gH.dU):=(aJ rfl (bT _)).trans ((eP (by rw[dG];decide)).trans (vP _))
theorem Hq (s:aM) (x:AV):dS (aA s) 45 ([x]) 46=aA { s with gH:={ s.gH with dU:=x }}:=(aD rfl rfl (bT _)).trans (bN ((vE (by rw[dG];decide)).trans (Hn (Hd _ x))))
theorem qB (s:aM):(aA s)[46]? = some (s.gH.gN):=(aJ rfl (bT _)).trans ((eP (by rw[dG];decide)).trans (yB _))
theorem Jz (s:aM) (x:AV):dS (aA s) 46 ([x]) 47=aA { s with gH:={ s.gH with gN:=x }}:=(aD rfl rfl (bT _)).trans (bN ((vE (by rw[dG];decide)).trans (Hn (Jv _ x))))
theorem Sn (s:aM):rd (aA s) 47 66=eR s.aL:=(bE rfl (bT _)).trans ((bE rfl (dG _)).trans (gL (dC _)))
theorem So (s:aM) (x:jA):dS (aA s) 47 (eR x) 113=aA { s with aL:=x }:=(aD rfl rfl (bT _)).trans (bN ((aD rfl rfl (dG _)).trans (bN (cK (dC _)))))
theorem Gt (s:aM):rd (aA s) 47 33=bB s.aL.gI:=(bE rfl (bT _)).trans ((bE rfl (dG _)).trans ((sO (by rw[dC];decide)).trans (Fl _)))
theorem Gu (s:aM) (x:dQ):dS (aA s) 47 (bB x) 80=aA { s with aL:={ s.aL with gI:=x }}:=(aD rfl rfl (bT _)).trans (bN ((aD rfl rfl (dG _)).trans (bN ((vE (by rw[dC];decide)).trans (Hn (Fm _ x))))))
theorem xW (s:aM):(aA s)[47]? = some (.v (.int .u64 s.aL.gI.aG)):=(aJ rfl (bT _)).trans ((aJ rfl (dG _)).trans ((eP (by rw[dC];decide)).trans (tT _)))
theorem qK (s:aM):rd (aA s) 48 32=bD s.aL.gI.root:=(bE rfl (bT _)).trans ((bE rfl (dG _)).trans ((sO (by rw[dC];decide)).trans (vI _)))
theorem Hr (s:aM):rd (aA s) 80 33=bB s.aL.fin:=(bE rfl (bT _)).trans ((bE rfl (dG _)).trans ((sO (by rw[dC];decide)).trans (He _)))
theorem Hs (s:aM) (x:dQ):dS (aA s) 80 (bB x) 113=aA { s with aL:={ s.aL with fin:=x }}:=(aD rfl rfl (bT _)).trans (bN ((aD rfl rfl (dG _)).trans (bN ((vE (by rw[dC];decide)).trans (Hn (Hf _ x))))))
theorem yJ (s:aM):(aA s)[80]? = some (.v (.int .u64 s.aL.fin.aG)):=(aJ rfl (bT _)).trans ((aJ rfl (dG _)).trans ((eP (by rw[dC];decide)).trans (uW _)))
theorem rC (s:aM):rd (aA s) 81 32=bD s.aL.fin.root:=(bE rfl (bT _)).trans ((bE rfl (dG _)).trans ((sO (by rw[dC];decide)).trans (xV _)))
theorem pD (s:aM):(aA s)[113]? = some (s.cC.early):=(aJ rfl (bT _)).trans ((aJ rfl (dG _)).trans ((aJ rfl (dC _)).trans ((eP (by rw[iI];decide)).trans (vQ _))))
theorem Ht (s:aM) (x:AV):dS (aA s) 113 ([x]) 114=aA { s with cC:={ s.cC with early:=x }}:=(aD rfl rfl (bT _)).trans (bN ((aD rfl rfl (dG _)).trans (bN ((aD rfl rfl (dC _)).trans (bN ((vE (by rw[iI];decide)).trans (Hn (Hg _ x))))))))
theorem nI (s:aM):(aA s)[114]? = some (s.cC.bL):=(aJ rfl (bT _)).trans ((aJ rfl (dG _)).trans ((aJ rfl (dC _)).trans ((eP (by rw[iI];decide)).trans (sX _))))
theorem Fp (s:aM) (x:AV):dS (aA s) 114 ([x]) 115=aA { s with cC:={ s.cC with bL:=x }}:=(aD rfl rfl (bT _)).trans (bN ((aD rfl rfl (dG _)).trans (bN ((aD rfl rfl (dC _)).trans (bN ((vE (by rw[iI];decide)).trans (Hn (Cp _ x))))))))
theorem Mx (s:aM):rd (aA s) 115 1=mL s.tree:=(bE rfl (bT _)).trans ((bE rfl (dG _)).trans ((bE rfl (dC _)).trans ((bE rfl (iI _)).trans (gL (mQ _)))))
theorem Di (s:aM) (x:Du):dS (aA s) 115 (mL x) 116=aA { s with tree:=x }:=(aD rfl rfl (bT _)).trans (bN ((aD rfl rfl (dG _)).trans (bN ((aD rfl rfl (dC _)).trans (bN ((aD rfl rfl (iI _)).trans (bN (cK (mQ _)))))))))
theorem qU (s:aM):(aA s)[115]? = some (s.tree.nodes):=(aJ rfl (bT _)).trans ((aJ rfl (dG _)).trans ((aJ rfl (dC _)).trans ((aJ rfl (iI _)).trans ((eP (by rw[mQ];decide)).trans (yC _)))))
theorem Mb (s:aM) (x:AV):dS (aA s) 115 ([x]) 116=aA { s with tree:={ s.tree with nodes:=x }}:=(aD rfl rfl (bT _)).trans (bN ((aD rfl rfl (dG _)).trans (bN ((aD rfl rfl (dC _)).trans (bN ((aD rfl rfl (iI _)).trans (bN ((vE (by rw[mQ];decide)).trans (Hn (Jx _ x))))))))))
theorem My (s:aM):(aA s)[116]? = some (.v (.int .u64 s.now)):=(aJ rfl (bT _)).trans ((aJ rfl (dG _)).trans ((aJ rfl (dC _)).trans ((aJ rfl (iI _)).trans ((aJ rfl (mQ _)).trans (rfl)))))
theorem MJ (s:aM) (x:Int):dS (aA s) 116 ([.v (.int .u64 x)]) 117=aA { s with now:=x }:=(aD rfl rfl (bT _)).trans (bN ((aD rfl rfl (dG _)).trans (bN ((aD rfl rfl (dC _)).trans (bN ((aD rfl rfl (iI _)).trans (bN ((aD rfl rfl (mQ _)).trans (bN (cK (aZ _)))))))))))
theorem Ka (s:aM):rd (aA s) 117 32=bD s.eE:=(bE rfl (bT _)).trans ((bE rfl (dG _)).trans ((bE rfl (dC _)).trans ((bE rfl (iI _)).trans ((bE rfl (mQ _)).trans ((bE rfl (aZ _)).trans (gL (aP _)))))))
theorem Kb (s:aM) (x:cN):dS (aA s) 117 (bD x) 149=aA { s with eE:=x }:=(aD rfl rfl (bT _)).trans (bN ((aD rfl rfl (dG _)).trans (bN ((aD rfl rfl (dC _)).trans (bN ((aD rfl rfl (iI _)).trans (bN ((aD rfl rfl (mQ _)).trans (bN ((aD rfl rfl (aZ _)).trans (bN (cK (aP _)))))))))))))
theorem vR (s:aM):(aA s)[149]? = some (s.tables):=(aJ rfl (bT _)).trans ((aJ rfl (dG _)).trans ((aJ rfl (dC _)).trans ((aJ rfl (iI _)).trans ((aJ rfl (mQ _)).trans ((aJ rfl (aZ _)).trans ((aJ rfl (aP _)).trans (rfl)))))))
theorem Xm (s:aM) (x:AV):dS (aA s) 149 ([x]) 150=aA { s with tables:=x }:=(aD rfl rfl (bT _)).trans (bN ((aD rfl rfl (dG _)).trans (bN ((aD rfl rfl (dC _)).trans (bN ((aD rfl rfl (iI _)).trans (bN ((aD rfl rfl (mQ _)).trans (bN ((aD rfl rfl (aZ _)).trans (bN ((aD rfl rfl (aP _)).trans (bN (eM rfl))))))))))))))
def fW:aM:=⟨mS,Nl,Ve,Gd,Td,0,dR,(.v (.slice none 0 0))⟩
def CY:List Value:=Sh++(CT++(Fo++(Yi++(ZM++([.int .u64 0]++(tO++([.slice none 0 0])))))))
theorem CZ:CY.map AV.v=aA fW:=by simp only[CY,List.map_append,List.map_cons,List.map_nil,jN,jO,Ux,CU,Jw,IL,TV];rfl
theorem gG (st:St) (s:aM):Tt st (aA s)=cT (cJ st s.cFg.iP) fun x_config_bal=>cT (cJ st s.gH.dU) fun x_votes_latest=>cT (cJ st s.gH.gN) fun x_votes_equiv=>cT (cJ st s.cC.early) fun x_queues_early=>cT (cJ st s.cC.bL) fun x_queues_orphans=>cT (cJ st s.tree.nodes) fun x_tree_nodes=>cT (cJ st s.tables) fun x_tables=>some (aA { s with cFg:={ s.cFg with iP:=x_config_bal },gH:={ s.gH with dU:=x_votes_latest,gN:=x_votes_equiv },cC:={ s.cC with early:=x_queues_early,bL:=x_queues_orphans },tree:={ s.tree with nodes:=x_tree_nodes },tables:=x_tables }):=by
 simp only[aA,wU,Nw,N2,lI (jZ _),ZL,N3,lI (dY _),lI (dO _),zC,kE,cF]
theorem MK (s:aM):rd (aA s) 0 150=aA s:=jB (dE _)
theorem ML (s x:aM):dS (aA s) 0 (aA x) 150=aA x:=eM (dE _)
structure State where
 store:aM
 iY:AV
 rK:AV
 dA:Int
 Nn:Bool
 last:Command
 overflow:Bool
 halted:Bool
def aT (s:State):List AV:=aA s.store++([s.iY]++([s.rK]++(lV s.dA++(vD s.Nn++(eK s.last++(vD s.overflow++(vD s.halted)))))))
@[simp] theorem Ox (s:State):(aT s).length=252:=by simp[aT]
theorem OD (s:State) (h0:Flat s.store.cFg.iP) (h1:Flat s.store.gH.dU) (h2:Flat s.store.gH.gN) (h3:Flat s.store.cC.early) (h4:Flat s.store.cC.bL) (h5:Flat s.store.tree.nodes) (h6:Flat s.store.tables) (h7:Flat s.iY) (h8:Flat s.rK):∀x∈aT s,Flat x:=by
 intro x hx;simp only[aT,List.mem_append,List.mem_singleton] at hx;rcases hx with hx|hx|hx|hx|hx|hx|hx|hx
 ·(exact Vr _ (by assumption) (by assumption) (by assumption) (by assumption) (by assumption) (by assumption) (by assumption) _ hx)
 ·(subst hx;assumption)
 ·(subst hx;assumption)
 ·(exact dY _ _ hx)
 ·(exact tE _ _ hx)
 ·(exact sL _ _ hx)
 ·(exact tE _ _ hx)
 ·(exact tE _ _ hx)
theorem DA (s:State):rd (aT s) 0 150=aA s.store:=gL (dE _)
theorem DB (s:State) (x:aM):dS (aT s) 0 (aA x) 150=aT { s with store:=x }:=cK (dE _)
theorem tX (s:State):(aT s)[4]? = some (.v (.int .i64 s.store.cFg.lJ.oI)):=(eP (by rw[dE];decide)).trans (qJ _)
theorem tG (s:State):(aT s)[5]? = some (.v (.int .u64 s.store.cFg.lJ.rL)):=(eP (by rw[dE];decide)).trans (pU _)
theorem qV (s:State):(aT s)[44]? = some (s.store.cFg.iP):=(eP (by rw[dE];decide)).trans (qT _)
theorem pO (s:State):(aT s)[45]? = some (s.store.gH.dU):=(eP (by rw[dE];decide)).trans (pC _)
theorem qI (s:State):(aT s)[46]? = some (s.store.gH.gN):=(eP (by rw[dE];decide)).trans (qB _)
theorem tY (s:State):rd (aT s) 48 32=bD s.store.aL.gI.root:=(sO (by rw[dE];decide)).trans (qK _)
theorem uX (s:State):rd (aT s) 81 32=bD s.store.aL.fin.root:=(sO (by rw[dE];decide)).trans (rC _)
theorem pP (s:State):(aT s)[113]? = some (s.store.cC.early):=(eP (by rw[dE];decide)).trans (pD _)
theorem oG (s:State):(aT s)[114]? = some (s.store.cC.bL):=(eP (by rw[dE];decide)).trans (nI _)
theorem Mc (s:State):rd (aT s) 115 1=mL s.store.tree:=(sO (by rw[dE];decide)).trans (Mx _)
theorem yP (s:State) (x:Du):dS (aT s) 115 (mL x) 116=aT { s with store:={ s.store with tree:=x }}:=(vE (by rw[dE];decide)).trans (Hn (Di _ x))
theorem qW (s:State):(aT s)[115]? = some (s.store.tree.nodes):=(eP (by rw[dE];decide)).trans (qU _)
theorem Md (s:State):(aT s)[116]? = some (.v (.int .u64 s.store.now)):=(eP (by rw[dE];decide)).trans (My _)
theorem Kc (s:State):rd (aT s) 117 32=bD s.store.eE:=(sO (by rw[dE];decide)).trans (Ka _)
theorem Kd (s:State) (x:cN):dS (aT s) 117 (bD x) 149=aT { s with store:={ s.store with eE:=x }}:=(vE (by rw[dE];decide)).trans (Hn (Kb _ x))
theorem uI (s:State):(aT s)[149]? = some (s.store.tables):=(eP (by rw[dE];decide)).trans (vR _)
theorem Ag (s:State):(aT s)[150]? = some (s.iY):=(aJ rfl (dE _)).trans (rfl)
theorem Sp (s:State) (x:AV):dS (aT s) 150 ([x]) 151=aT { s with iY:=x }:=(aD rfl rfl (dE _)).trans (bN (cK rfl))
theorem Bv (s:State):(aT s)[151]? = some (s.rK):=(aJ rfl (dE _)).trans ((aJ rfl rfl).trans (rfl))
theorem Vf (s:State) (x:AV):dS (aT s) 151 ([x]) 152=aT { s with rK:=x }:=(aD rfl rfl (dE _)).trans (bN ((aD rfl rfl rfl).trans (bN (cK rfl))))
theorem Sq (s:State):(aT s)[152]? = some (.v (.int .u64 s.dA)):=(aJ rfl (dE _)).trans ((aJ rfl rfl).trans ((aJ rfl rfl).trans (rfl)))
theorem Vg (s:State) (x:Int):dS (aT s) 152 ([.v (.int .u64 x)]) 153=aT { s with dA:=x }:=(aD rfl rfl (dE _)).trans (bN ((aD rfl rfl rfl).trans (bN ((aD rfl rfl rfl).trans (bN (cK (aZ _)))))))
theorem DC (s:State):(aT s)[153]? = some (.v (.bool s.Nn)):=(aJ rfl (dE _)).trans ((aJ rfl rfl).trans ((aJ rfl rfl).trans ((aJ rfl (aZ _)).trans (rfl))))
theorem FX (s:State) (x:Bool):dS (aT s) 153 ([.v (.bool x)]) 154=aT { s with Nn:=x }:=(aD rfl rfl (dE _)).trans (bN ((aD rfl rfl rfl).trans (bN ((aD rfl rfl rfl).trans (bN ((aD rfl rfl (aZ _)).trans (bN (cK (iB _)))))))))
theorem FY (s:State):rd (aT s) 154 96=eK s.last:=(bE rfl (dE _)).trans ((bE rfl rfl).trans ((bE rfl rfl).trans ((bE rfl (aZ _)).trans ((bE rfl (iB _)).trans (gL (nF _))))))
theorem FZ (s:State) (x:Command):dS (aT s) 154 (eK x) 250=aT { s with last:=x }:=(aD rfl rfl (dE _)).trans (bN ((aD rfl rfl rfl).trans (bN ((aD rfl rfl rfl).trans (bN ((aD rfl rfl (aZ _)).trans (bN ((aD rfl rfl (iB _)).trans (bN (cK (nF _)))))))))))
theorem Sr (s:State) (x:Bool):dS (aT s) 250 ([.v (.bool x)]) 251=aT { s with overflow:=x }:=(aD rfl rfl (dE _)).trans (bN ((aD rfl rfl rfl).trans (bN ((aD rfl rfl rfl).trans (bN ((aD rfl rfl (aZ _)).trans (bN ((aD rfl rfl (iB _)).trans (bN ((aD rfl rfl (nF _)).trans (bN (cK (iB _)))))))))))))
theorem Vh (s:State):(aT s)[251]? = some (.v (.bool s.halted)):=(aJ rfl (dE _)).trans ((aJ rfl rfl).trans ((aJ rfl rfl).trans ((aJ rfl (aZ _)).trans ((aJ rfl (iB _)).trans ((aJ rfl (nF _)).trans ((aJ rfl (iB _)).trans (rfl)))))))
theorem Xn (s:State) (x:Bool):dS (aT s) 251 ([.v (.bool x)]) 252=aT { s with halted:=x }:=(aD rfl rfl (dE _)).trans (bN ((aD rfl rfl rfl).trans (bN ((aD rfl rfl rfl).trans (bN ((aD rfl rfl (aZ _)).trans (bN ((aD rfl rfl (iB _)).trans (bN ((aD rfl rfl (nF _)).trans (bN ((aD rfl rfl (iB _)).trans (bN (eM (iB _)))))))))))))))
def lX:State:=⟨fW,(.v (.slice none 0 0)),(.v (.slice none 0 0)),0,false,CQ,false,false⟩
def MM:List Value:=CY++([.slice none 0 0]++([.slice none 0 0]++([.int .u64 0]++([.bool false]++(Ju++([.bool false]++([.bool false])))))))
theorem TW:MM.map AV.v=aT lX:=by simp only[MM,List.map_append,List.map_cons,List.map_nil,jN,jO,CZ,Ow];rfl
theorem vW (st:St) (s:State):Tt st (aT s)=cT (cJ st s.store.cFg.iP) fun x_store_config_bal=>cT (cJ st s.store.gH.dU) fun x_store_votes_latest=>cT (cJ st s.store.gH.gN) fun x_store_votes_equiv=>cT (cJ st s.store.cC.early) fun x_store_queues_early=>cT (cJ st s.store.cC.bL) fun x_store_queues_orphans=>cT (cJ st s.store.tree.nodes) fun x_store_tree_nodes=>cT (cJ st s.store.tables) fun x_store_tables=>cT (cJ st s.iY) fun x_requests=>cT (cJ st s.rK) fun x_retries=>some (aT { s with store:={ s.store with cFg:={ s.store.cFg with iP:=x_store_config_bal },gH:={ s.store.gH with dU:=x_store_votes_latest,gN:=x_store_votes_equiv },cC:={ s.store.cC with early:=x_store_queues_early,bL:=x_store_queues_orphans },tree:={ s.store.tree with nodes:=x_store_tree_nodes },tables:=x_store_tables },iY:=x_requests,rK:=x_retries }):=by
 simp only[aT,wU,gG,zC,lI (dY _),lI (tE _),lI (sL _),kE,cF]
theorem MN (s:State):rd (aT s) 0 252=aT s:=jB (Ox _)
theorem MO (s x:State):dS (aT s) 0 (aT x) 252=aT x:=eM (Ox _)
structure xY where
 kind:Int
 block:Block
 Hl:sG
 oV:gB
 table:Table
 verdict:gW
 write:Int
 qL:Int
def lB (s:xY):List AV:=qR s.kind++(aV s.block++(iC s.Hl++(cD s.oV++(cA s.table++(dJ s.verdict++(qR s.write++(qR s.qL)))))))
@[simp] theorem DD (s:xY):(lB s).length=446:=by simp[lB]
theorem G8 (s:xY) (h0:Flat s.Hl.fB) (h1:Flat s.oV.first.fB) (h2:Flat s.oV.second.fB) (h3:Flat s.table.iP):∀x∈lB s,Flat x:=by
 intro x hx;simp only[lB,List.mem_append,List.mem_singleton] at hx;rcases hx with hx|hx|hx|hx|hx|hx|hx|hx
 ·(exact mI _ _ hx)
 ·(exact Ck _ _ hx)
 ·(exact Sy _ (by assumption) _ hx)
 ·(exact Io _ (by assumption) (by assumption) _ hx)
 ·(exact Ip _ (by assumption) _ hx)
 ·(exact jS _ _ hx)
 ·(exact mI _ _ hx)
 ·(exact mI _ _ hx)
theorem MP (s:xY):(lB s)[0]? = some (.v (.int .i64 s.kind)):=rfl
theorem TX (s:xY) (x:Int):dS (lB s) 0 ([.v (.int .i64 x)]) 1=lB { s with kind:=x }:=cK (bJ _)
theorem MQ (s:xY):rd (lB s) 1 238=aV s.block:=(bE rfl (bJ _)).trans (gL (bS _))
theorem MR (s:xY) (x:Block):dS (lB s) 1 (aV x) 239=lB { s with block:=x }:=(aD rfl rfl (bJ _)).trans (bN (cK (bS _)))
theorem ZN (s:xY):rd (lB s) 239 67=iC s.Hl:=(bE rfl (bJ _)).trans ((bE rfl (bS _)).trans (gL (iH _)))
theorem ZO (s:xY) (x:sG):dS (lB s) 239 (iC x) 306=lB { s with Hl:=x }:=(aD rfl rfl (bJ _)).trans (bN ((aD rfl rfl (bS _)).trans (bN (cK (iH _)))))
theorem Dv (s:xY):(lB s)[305]? = some (s.Hl.fB):=(aJ rfl (bJ _)).trans ((aJ rfl (bS _)).trans ((eP (by rw[iH];decide)).trans (Fy _)))
theorem MS (s:xY):rd (lB s) 306 70=cD s.oV:=(bE rfl (bJ _)).trans ((bE rfl (bS _)).trans ((bE rfl (iH _)).trans (gL (fO _))))
theorem MT (s:xY) (x:gB):dS (lB s) 306 (cD x) 376=lB { s with oV:=x }:=(aD rfl rfl (bJ _)).trans (bN ((aD rfl rfl (bS _)).trans (bN ((aD rfl rfl (iH _)).trans (bN (cK (fO _)))))))
theorem sJ (s:xY):(lB s)[340]? = some (s.oV.first.fB):=(aJ rfl (bJ _)).trans ((aJ rfl (bS _)).trans ((aJ rfl (iH _)).trans ((eP (by rw[fO];decide)).trans (oH _))))
theorem rY (s:xY):(lB s)[375]? = some (s.oV.second.fB):=(aJ rfl (bJ _)).trans ((aJ rfl (bS _)).trans ((aJ rfl (iH _)).trans ((eP (by rw[fO];decide)).trans (nJ _))))
theorem MU (s:xY):rd (lB s) 376 34=cA s.table:=(bE rfl (bJ _)).trans ((bE rfl (bS _)).trans ((bE rfl (iH _)).trans ((bE rfl (fO _)).trans (gL (eN _)))))
theorem MV (s:xY) (x:Table):dS (lB s) 376 (cA x) 410=lB { s with table:=x }:=(aD rfl rfl (bJ _)).trans (bN ((aD rfl rfl (bS _)).trans (bN ((aD rfl rfl (iH _)).trans (bN ((aD rfl rfl (fO _)).trans (bN (cK (eN _)))))))))
theorem Bw (s:xY):(lB s)[409]? = some (s.table.iP):=(aJ rfl (bJ _)).trans ((aJ rfl (bS _)).trans ((aJ rfl (iH _)).trans ((aJ rfl (fO _)).trans ((eP (by rw[eN];decide)).trans (Cw _)))))
theorem DE (s:xY):rd (lB s) 410 34=dJ s.verdict:=(bE rfl (bJ _)).trans ((bE rfl (bS _)).trans ((bE rfl (iH _)).trans ((bE rfl (fO _)).trans ((bE rfl (eN _)).trans (gL (mC _))))))
theorem DF (s:xY) (x:gW):dS (lB s) 410 (dJ x) 444=lB { s with verdict:=x }:=(aD rfl rfl (bJ _)).trans (bN ((aD rfl rfl (bS _)).trans (bN ((aD rfl rfl (iH _)).trans (bN ((aD rfl rfl (fO _)).trans (bN ((aD rfl rfl (eN _)).trans (bN (cK (mC _)))))))))))
theorem GA (s:xY):(lB s)[444]? = some (.v (.int .i64 s.write)):=(aJ rfl (bJ _)).trans ((aJ rfl (bS _)).trans ((aJ rfl (iH _)).trans ((aJ rfl (fO _)).trans ((aJ rfl (eN _)).trans ((aJ rfl (mC _)).trans (rfl))))))
theorem MW (s:xY) (x:Int):dS (lB s) 444 ([.v (.int .i64 x)]) 445=lB { s with write:=x }:=(aD rfl rfl (bJ _)).trans (bN ((aD rfl rfl (bS _)).trans (bN ((aD rfl rfl (iH _)).trans (bN ((aD rfl rfl (fO _)).trans (bN ((aD rfl rfl (eN _)).trans (bN ((aD rfl rfl (mC _)).trans (bN (cK (bJ _)))))))))))))
theorem MX (s:xY):(lB s)[445]? = some (.v (.int .i64 s.qL)):=(aJ rfl (bJ _)).trans ((aJ rfl (bS _)).trans ((aJ rfl (iH _)).trans ((aJ rfl (fO _)).trans ((aJ rfl (eN _)).trans ((aJ rfl (mC _)).trans ((aJ rfl (bJ _)).trans (rfl)))))))
theorem TY (s:xY) (x:Int):dS (lB s) 445 ([.v (.int .i64 x)]) 446=lB { s with qL:=x }:=(aD rfl rfl (bJ _)).trans (bN ((aD rfl rfl (bS _)).trans (bN ((aD rfl rfl (iH _)).trans (bN ((aD rfl rfl (fO _)).trans (bN ((aD rfl rfl (eN _)).trans (bN ((aD rfl rfl (mC _)).trans (bN ((aD rfl rfl (bJ _)).trans (bN (eM (bJ _)))))))))))))))
def An:xY:=⟨0,dX,Lu,Uz,eI,CF,0,0⟩
def aD3:List Value:=[.int .i64 0]++(Jb++(aBv++(Fk++(Nz++(Eh++([.int .i64 0]++([.int .i64 0])))))))
theorem aBw:aD3.map AV.v=lB An:=by simp only[aD3,List.map_append,List.map_cons,List.map_nil,jN,jO,Rw,ZH,Jt,CK,On];rfl
theorem ZP (s:xY):rd (lB s) 0 446=lB s:=jB (DD _)
theorem ZQ (s x:xY):dS (lB s) 0 (lB x) 446=lB x:=eM (DD _)
def cW (l:List kO):List AV:=l.flatMap jP
@[simp] theorem ZR (l:List (kO)):(cW l).length=l.length * 34:=by
 induction l with
 | nil=>rfl
 | cons x l ih=>simp only[cW,List.flatMap_cons,List.length_append,rV,List.length_cons] at *;omega
theorem mF (l:List (kO)):∀x∈cW l,Flat x:=by
 intro x hx;obtain⟨y,_,hy⟩:=List.mem_flatMap.1 hx
 exact ZE y x hy
def dM (l:List sG):List AV:=l.flatMap iC
@[simp] theorem aJM (l:List (sG)):(dM l).length=l.length * 67:=by
 induction l with
 | nil=>rfl
 | cons x l ih=>simp only[dM,List.flatMap_cons,List.length_append,iH,List.length_cons] at *;omega
theorem qY (l:List (sG)) (h:∀y∈l,Flat y.fB):∀x∈dM l,Flat x:=by
 intro x hx;obtain⟨y,hm,hy⟩:=List.mem_flatMap.1 hx
 exact Sy y (h y hm) x hy
def aI (l:List Table):List AV:=l.flatMap cA
@[simp] theorem xK (l:List (Table)):(aI l).length=l.length * 34:=by
 induction l with
 | nil=>rfl
 | cons x l ih=>simp only[aI,List.flatMap_cons,List.length_append,eN,List.length_cons] at *;omega
theorem iL (l:List (Table)) (h:∀y∈l,Flat y.iP):∀x∈aI l,Flat x:=by
 intro x hx;obtain⟨y,hm,hy⟩:=List.mem_flatMap.1 hx
 exact Ip y (h y hm) x hy
def aE (l:List Request):List AV:=l.flatMap dD
@[simp] theorem GB (l:List (Request)):(aE l).length=l.length * 35:=by
 induction l with
 | nil=>rfl
 | cons x l ih=>simp only[aE,List.flatMap_cons,List.length_append,gS,List.length_cons] at *;omega
theorem uK (l:List (Request)):∀x∈aE l,Flat x:=by
 intro x hx;obtain⟨y,_,hy⟩:=List.mem_flatMap.1 hx
 exact jR y x hy
end Go.Ab
end
