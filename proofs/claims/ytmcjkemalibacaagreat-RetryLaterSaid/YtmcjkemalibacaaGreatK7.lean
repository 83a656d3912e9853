/-
  Part 7 of the proof: an evaluator of programs, its soundness, and what functions of this program compute.
-/
import Derived.Test.YtmcjkemalibacaaGreatK6
set_option linter.all false
set_option maxRecDepth 20000
set_option maxHeartbeats 40000000
section
namespace Go.Ab
open Classical
variable [Ext]
noncomputable def Tb (st:St) (cs:List AV):Option (List AV):=bK (cs.map (cC st))
theorem uR (st:St) (a b:List AV):Tb st (a++b)=cA (Tb st a) fun x=>cA (Tb st b) fun y=>some (x++y):=by
 unfold Tb;induction a with
 | nil=>simp[bK,cA];cases bK (b.map (cC st))<;>rfl
 | cons c a ih =>
   simp only[List.cons_append,List.map_cons];cases cC st c with
   | none=>rfl
   | some c' =>
     simp only[bK,ih];cases bK (a.map (cC st)) with
     | none=>rfl
     | some a' =>
       simp only[cA,Option.map_some];cases bK (b.map (cC st))<;>rfl
theorem wY (st:St) (x:AV):Tb st [x]=cA (cC st x) fun y=>some [y]:=by
 unfold Tb;simp only[List.map_cons,List.map_nil];cases cC st x<;>rfl
theorem jF {st:St} {cs:List AV} (h:∀c∈cs,Flat c):Tb st cs=some cs:=by
 unfold Tb;induction cs with
 | nil=>rfl
 | cons c cs ih =>
   simp only[List.map_cons,cN (h c (by simp)),bK,ih fun x hx=>h x (by simp[hx]),Option.map_some]
theorem bQ (st:St) (cs:List AV):eW st (.agg cs)=cA (Tb st cs) fun x=>some (.agg x):=by
 unfold eW;by_cases h:Flat (.agg cs)
 ·rw[if_pos h];have h':∀c∈cs,Flat c:=by cases h with|agg _ h=>exact h
  rw[jF h'];rfl
 ·rw[if_neg h];simp only[Tb];cases bK (cs.map (cC st))<;>rfl
def ov {α:Type} (c:List α->List AV):Option (List α)->AV
 | none=>.v (.slice none 0 0)
 | some l=>.sl l.length (c l)
def ol {α:Type} (o:Option (List α)):List α:=o.getD []
theorem Qx {α:Type} (l:List α):ol (some l)=l:=rfl
theorem aFz {α:Type}:ol (none:Option (List α))=[]:=rfl
def gx {α:Type} (z:α) (l:List α) (i:Int):α:=l.getD i.toNat z
theorem u5 {α:Type} {z:α} {l:List α} {i:Int} (h0:0<=i) (h1:i<l.length):∃h:i.toNat<l.length,gx z l i=l[i.toNat]:=by
 have h:i.toNat<l.length:=by omega
 exact⟨h,by simp[gx,h]⟩
theorem uM {α:Type} {z:α} {l:List α} {i:Int} (h0:0<=i) (h1:i<l.length):gx z l i∈l:=by
 obtain⟨h,e⟩:=u5 (z:=z) h0 h1
 rw[e];exact List.getElem_mem h
def Aj (l:List fU):List AV:=l.flatMap bY
@[simp] theorem AH (l:List (fU)):(Aj l).length=l.length * 33:=by
 induction l with
 | nil=>rfl
 | cons x l ih=>simp only[Aj,List.flatMap_cons,List.length_append,bS,List.length_cons] at *;omega
def aH (l:List Block):List AV:=l.flatMap aT
@[simp] theorem Ce (l:List (Block)):(aH l).length=l.length * 238:=by
 induction l with
 | nil=>rfl
 | cons x l ih=>simp only[aH,List.flatMap_cons,List.length_append,bP,List.length_cons] at *;omega
theorem pF (l:List (Block)):∀x∈aH l,Flat x:=by
 intro x hx;obtain⟨y,_,hy⟩:=List.mem_flatMap.1 hx
 exact Cl y x hy
def mV (l:List Bool):List AV:=l.flatMap uA
@[simp] theorem aJF (l:List (Bool)):(mV l).length=l.length * 1:=by
 induction l with
 | nil=>rfl
 | cons x l ih=>simp only[mV,List.flatMap_cons,List.length_append,gP,List.length_cons] at *;omega
theorem Vx (l:List (Bool)):∀x∈mV l,Flat x:=by
 intro x hx;obtain⟨y,_,hy⟩:=List.mem_flatMap.1 hx
 exact mM y x hy
structure yG where
 tag:Int
def mR (s:yG):List AV:=sW s.tag
@[simp] theorem gQ (s:yG):(mR s).length=1:=by simp[mR]
theorem Sd (s:yG):∀x∈mR s,Flat x:=by
 intro x hx;simp only[mR,List.mem_append,List.mem_singleton] at hx;(exact dZ _ _ hx)
theorem Bd (s:yG):(mR s)[0]? = some (.v (.int .u64 s.tag)):=rfl
theorem Ng (s:yG) (x:Int):dG (mR s) 0 ([.v (.int .u64 x)]) 1=mR { s with tag:=x }:=eG (aV _)
def Yy:yG:=⟨0⟩
def Lv:List Value:=[.int .u64 0]
theorem Lw:Lv.map AV.v=mR Yy:=by simp only[Lv,List.map_append,List.map_cons,List.map_nil,jM,jN];rfl
def NB:List Bool:=[true]
theorem Se (a b:yG):gU NB (mR a) (mR b):=(show gU [true] [_] [_] from ⟨rfl,trivial⟩)
theorem Wu (a b:yG):mR a=mR b↔a=b:=by
 refine⟨fun h=>?_,fun h=>by rw[h]⟩
 cases a;cases b
 simp only[mR] at h;have e0:=(Ev _ _).1 h
 subst e0;rfl
structure gO where
 tagged:yG
 kind:Int
 dO:cJ
def dD (s:gO):List AV:=mR s.tagged++(qD s.kind++(aX s.dO))
@[simp] theorem lX (s:gO):(dD s).length=34:=by simp[dD]
theorem jT (s:gO):∀x∈dD s,Flat x:=by
 intro x hx;simp only[dD,List.mem_append,List.mem_singleton] at hx;rcases hx with hx|hx|hx
 ·(exact Sd _ _ hx)
 ·(exact mG _ _ hx)
 ·(exact dH _ _ hx)
theorem Sf (s:gO) (x:yG):dG (dD s) 0 (mR x) 1=dD { s with tagged:=x }:=cH (gQ _)
theorem Gw (s:gO):(dD s)[0]? = some (.v (.int .u64 s.tagged.tag)):=(eH (by rw[gQ];decide)).trans (Bd _)
theorem Hs (s:gO) (x:Int):dG (dD s) 0 ([.v (.int .u64 x)]) 1=dD { s with tagged:={ s.tagged with tag:=x }}:=(tA (by rw[gQ];decide)).trans (Dd (Ng _ x))
theorem Uy (s:gO):(dD s)[1]? = some (.v (.int .i64 s.kind)):=(aG rfl (gQ _)).trans (rfl)
theorem Xo (s:gO) (x:Int):dG (dD s) 1 ([.v (.int .i64 x)]) 2=dD { s with kind:=x }:=(aD rfl rfl (gQ _)).trans (bI (cH (bC _)))
theorem Sg (s:gO):rd (dD s) 2 32=aX s.dO:=(aY rfl (gQ _)).trans ((aY rfl (bC _)).trans (iZ (aM _)))
theorem Sh (s:gO) (x:cJ):dG (dD s) 2 (aX x) 34=dD { s with dO:=x }:=(aD rfl rfl (gQ _)).trans (bI ((aD rfl rfl (bC _)).trans (bI (eG (aM _)))))
def DE:gO:=⟨Yy,0,dK⟩
def Ee:List Value:=Lv++([.int .i64 0]++(tW))
theorem Pa:Ee.map AV.v=dD DE:=by simp only[Ee,List.map_append,List.map_cons,List.map_nil,jM,jN,Lw];rfl
def UR:List Bool:=NB++([true]++(Hf))
theorem GL (a b:gO):gU UR (dD a) (dD b):=(eN (Se _ _) (eN (show gU [true] [_] [_] from ⟨rfl,trivial⟩) (mN _ _)))
theorem NC (a b:gO):dD a=dD b↔a=b:=by
 refine⟨fun h=>?_,fun h=>by rw[h]⟩
 cases a;cases b
 simp only[dD] at h;obtain⟨h0,h⟩:=List.append_inj h (by simp)
 obtain⟨h1,h⟩:=List.append_inj h (by simp)
 have e0:=(Wu _ _).1 h0
 have e1:=(uZ _ _).1 h1
 have e2:=(oS _ _).1 h
 subst e0 e1 e2;rfl
theorem DF (s:gO):rd (dD s) 0 34=dD s:=iZ (lX _)
theorem DG (s x:gO):dG (dD s) 0 (dD x) 34=dD x:=eG (lX _)
structure lN where
 sU:Int
 xI:Int
 qJ:Int
 rE:Int
 lM:Int
 kZ:Int
def fB (s:lN):List AV:=qD s.sU++(qD s.xI++(qD s.qJ++(qD s.rE++(qD s.lM++(sW s.kZ)))))
@[simp] theorem fM (s:lN):(fB s).length=6:=by simp[fB]
theorem uQ (s:lN):∀x∈fB s,Flat x:=by
 intro x hx;simp only[fB,List.mem_append,List.mem_singleton] at hx;rcases hx with hx|hx|hx|hx|hx|hx
 ·(exact mG _ _ hx)
 ·(exact mG _ _ hx)
 ·(exact mG _ _ hx)
 ·(exact mG _ _ hx)
 ·(exact mG _ _ hx)
 ·(exact dZ _ _ hx)
theorem RN (s:lN):∀x∈fB s,eE x:=by
 intro x hx;simp only[fB,List.mem_append] at hx;rcases hx with hx|hx|hx|hx|hx|hx
 ·exact Jr _ _ hx
 ·exact Jr _ _ hx
 ·exact Jr _ _ hx
 ·exact Jr _ _ hx
 ·exact Jr _ _ hx
 ·exact BK _ _ hx
theorem Fb (s:lN):(fB s)[0]? = some (.v (.int .i64 s.sU)):=rfl
theorem Xp (s:lN) (x:Int):dG (fB s) 0 ([.v (.int .i64 x)]) 1=fB { s with sU:=x }:=cH (bC _)
theorem Fc (s:lN):(fB s)[1]? = some (.v (.int .i64 s.xI)):=(aG rfl (bC _)).trans (rfl)
theorem Xs (s:lN) (x:Int):dG (fB s) 1 ([.v (.int .i64 x)]) 2=fB { s with xI:=x }:=(aD rfl rfl (bC _)).trans (bI (cH (bC _)))
theorem Cm (s:lN):(fB s)[2]? = some (.v (.int .i64 s.qJ)):=(aG rfl (bC _)).trans ((aG rfl (bC _)).trans (rfl))
theorem Uz (s:lN) (x:Int):dG (fB s) 2 ([.v (.int .i64 x)]) 3=fB { s with qJ:=x }:=(aD rfl rfl (bC _)).trans (bI ((aD rfl rfl (bC _)).trans (bI (cH (bC _)))))
theorem Cn (s:lN):(fB s)[3]? = some (.v (.int .i64 s.rE)):=(aG rfl (bC _)).trans ((aG rfl (bC _)).trans ((aG rfl (bC _)).trans (rfl)))
theorem Va (s:lN) (x:Int):dG (fB s) 3 ([.v (.int .i64 x)]) 4=fB { s with rE:=x }:=(aD rfl rfl (bC _)).trans (bI ((aD rfl rfl (bC _)).trans (bI ((aD rfl rfl (bC _)).trans (bI (cH (bC _)))))))
theorem Co (s:lN):(fB s)[4]? = some (.v (.int .i64 s.lM)):=(aG rfl (bC _)).trans ((aG rfl (bC _)).trans ((aG rfl (bC _)).trans ((aG rfl (bC _)).trans (rfl))))
theorem Fe (s:lN) (x:Int):dG (fB s) 4 ([.v (.int .i64 x)]) 5=fB { s with lM:=x }:=(aD rfl rfl (bC _)).trans (bI ((aD rfl rfl (bC _)).trans (bI ((aD rfl rfl (bC _)).trans (bI ((aD rfl rfl (bC _)).trans (bI (cH (bC _)))))))))
theorem Be (s:lN):(fB s)[5]? = some (.v (.int .u64 s.kZ)):=(aG rfl (bC _)).trans ((aG rfl (bC _)).trans ((aG rfl (bC _)).trans ((aG rfl (bC _)).trans ((aG rfl (bC _)).trans (rfl)))))
theorem Si (s:lN) (x:Int):dG (fB s) 5 ([.v (.int .u64 x)]) 6=fB { s with kZ:=x }:=(aD rfl rfl (bC _)).trans (bI ((aD rfl rfl (bC _)).trans (bI ((aD rfl rfl (bC _)).trans (bI ((aD rfl rfl (bC _)).trans (bI ((aD rfl rfl (bC _)).trans (bI (eG (aV _)))))))))))
def ND:lN:=⟨0,0,0,0,0,0⟩
def Sj:List Value:=[.int .i64 0]++([.int .i64 0]++([.int .i64 0]++([.int .i64 0]++([.int .i64 0]++([.int .u64 0])))))
theorem Vb:Sj.map AV.v=fB ND:=by simp only[Sj,List.map_append,List.map_cons,List.map_nil,jM,jN];rfl
def H3:List Bool:=[true]++([true]++([true]++([true]++([true]++([true])))))
theorem NF (a b:lN):gU H3 (fB a) (fB b):=(eN (show gU [true] [_] [_] from ⟨rfl,trivial⟩) (eN (show gU [true] [_] [_] from ⟨rfl,trivial⟩) (eN (show gU [true] [_] [_] from ⟨rfl,trivial⟩) (eN (show gU [true] [_] [_] from ⟨rfl,trivial⟩) (eN (show gU [true] [_] [_] from ⟨rfl,trivial⟩) (show gU [true] [_] [_] from ⟨rfl,trivial⟩))))))
theorem US (a b:lN):fB a=fB b↔a=b:=by
 refine⟨fun h=>?_,fun h=>by rw[h]⟩
 cases a;cases b
 simp only[fB] at h;obtain⟨h0,h⟩:=List.append_inj h (by simp)
 obtain⟨h1,h⟩:=List.append_inj h (by simp)
 obtain⟨h2,h⟩:=List.append_inj h (by simp)
 obtain⟨h3,h⟩:=List.append_inj h (by simp)
 obtain⟨h4,h⟩:=List.append_inj h (by simp)
 have e0:=(uZ _ _).1 h0
 have e1:=(uZ _ _).1 h1
 have e2:=(uZ _ _).1 h2
 have e3:=(uZ _ _).1 h3
 have e4:=(uZ _ _).1 h4
 have e5:=(Ev _ _).1 h
 subst e0 e1 e2 e3 e4 e5;rfl
structure Config where
 kF:lN
 rD:Int
 Jb:Int
 EX:rC
 iA:cJ
 jQ:AV
def bU (s:Config):List AV:=fB s.kF++(sW s.rD++(sW s.Jb++(gC s.EX++(aX s.iA++([s.jQ])))))
@[simp] theorem bN (s:Config):(bU s).length=45:=by simp[bU]
theorem uJ (s:Config) (h0:Flat s.jQ):∀x∈bU s,Flat x:=by
 intro x hx;simp only[bU,List.mem_append,List.mem_singleton] at hx;rcases hx with hx|hx|hx|hx|hx|hx
 ·(exact uQ _ _ hx)
 ·(exact dZ _ _ hx)
 ·(exact dZ _ _ hx)
 ·(exact iN _ _ hx)
 ·(exact dH _ _ hx)
 ·(subst hx;assumption)
theorem GM (s:Config):rd (bU s) 0 6=fB s.kF:=gH (fM _)
theorem GN (s:Config) (x:lN):dG (bU s) 0 (fB x) 6=bU { s with kF:=x }:=cH (fM _)
theorem xP (s:Config):(bU s)[0]? = some (.v (.int .i64 s.kF.sU)):=(eH (by rw[fM];decide)).trans (Fb _)
theorem xQ (s:Config):(bU s)[1]? = some (.v (.int .i64 s.kF.xI)):=(eH (by rw[fM];decide)).trans (Fc _)
theorem vN (s:Config):(bU s)[2]? = some (.v (.int .i64 s.kF.qJ)):=(eH (by rw[fM];decide)).trans (Cm _)
theorem vO (s:Config):(bU s)[3]? = some (.v (.int .i64 s.kF.rE)):=(eH (by rw[fM];decide)).trans (Cn _)
theorem vP (s:Config):(bU s)[4]? = some (.v (.int .i64 s.kF.lM)):=(eH (by rw[fM];decide)).trans (Co _)
theorem xR (s:Config) (x:Int):dG (bU s) 4 ([.v (.int .i64 x)]) 5=bU { s with kF:={ s.kF with lM:=x }}:=(tA (by rw[fM];decide)).trans (Dd (Fe _ x))
theorem vC (s:Config):(bU s)[5]? = some (.v (.int .u64 s.kF.kZ)):=(eH (by rw[fM];decide)).trans (Be _)
theorem Jv (s:Config):(bU s)[6]? = some (.v (.int .u64 s.rD)):=(aG rfl (fM _)).trans (rfl)
theorem GO (s:Config) (x:Int):dG (bU s) 6 ([.v (.int .u64 x)]) 7=bU { s with rD:=x }:=(aD rfl rfl (fM _)).trans (bI (cH (aV _)))
theorem Sk (s:Config):(bU s)[7]? = some (.v (.int .u64 s.Jb)):=(aG rfl (fM _)).trans ((aG rfl (aV _)).trans (rfl))
theorem Vc (s:Config) (x:Int):dG (bU s) 7 ([.v (.int .u64 x)]) 8=bU { s with Jb:=x }:=(aD rfl rfl (fM _)).trans (bI ((aD rfl rfl (aV _)).trans (bI (cH (aV _)))))
theorem Nh (s:Config):rd (bU s) 8 4=gC s.EX:=(aY rfl (fM _)).trans ((aY rfl (aV _)).trans ((aY rfl (aV _)).trans (gH (dM _))))
theorem GP (s:Config) (x:rC):dG (bU s) 8 (gC x) 12=bU { s with EX:=x }:=(aD rfl rfl (fM _)).trans (bI ((aD rfl rfl (aV _)).trans (bI ((aD rfl rfl (aV _)).trans (bI (cH (dM _)))))))
theorem Sl (s:Config):rd (bU s) 12 32=aX s.iA:=(aY rfl (fM _)).trans ((aY rfl (aV _)).trans ((aY rfl (aV _)).trans ((aY rfl (dM _)).trans (gH (aM _)))))
theorem Sm (s:Config) (x:cJ):dG (bU s) 12 (aX x) 44=bU { s with iA:=x }:=(aD rfl rfl (fM _)).trans (bI ((aD rfl rfl (aV _)).trans (bI ((aD rfl rfl (aV _)).trans (bI ((aD rfl rfl (dM _)).trans (bI (cH (aM _)))))))))
theorem Ae (s:Config):(bU s)[44]? = some (s.jQ):=(aG rfl (fM _)).trans ((aG rfl (aV _)).trans ((aG rfl (aV _)).trans ((aG rfl (dM _)).trans ((aG rfl (aM _)).trans (rfl)))))
theorem Ni (s:Config) (x:AV):dG (bU s) 44 ([x]) 45=bU { s with jQ:=x }:=(aD rfl rfl (fM _)).trans (bI ((aD rfl rfl (aV _)).trans (bI ((aD rfl rfl (aV _)).trans (bI ((aD rfl rfl (dM _)).trans (bI ((aD rfl rfl (aM _)).trans (bI (eG rfl))))))))))
def oA:Config:=⟨ND,0,0,JI,dK,(.v (.slice none 0 0))⟩
def Sn:List Value:=Sj++([.int .u64 0]++([.int .u64 0]++(CY++(tW++([.slice none 0 0])))))
theorem Vd:Sn.map AV.v=bU oA:=by simp only[Sn,List.map_append,List.map_cons,List.map_nil,jM,jN,Vb];rfl
theorem BA (st:St) (s:Config):Tb st (bU s)=cA (cC st s.jQ) fun aCS=>some (bU { s with jQ:=aCS }):=by
 simp only[bU,uR,jF (uQ _),jF (dZ _),jF (iN _),jF (dH _),wY,jG,cI]
theorem GQ (s:Config):rd (bU s) 0 45=bU s:=iZ (bN _)
theorem GR (s x:Config):dG (bU s) 0 (bU x) 45=bU x:=eG (bN _)
structure kO where
 has:Bool
 aL:Int
 root:cJ
def jR (s:kO):List AV:=uA s.has++(sW s.aL++(aX s.root))
@[simp] theorem sI (s:kO):(jR s).length=34:=by simp[jR]
theorem u6 (s:kO):∀x∈jR s,Flat x:=by
 intro x hx;simp only[jR,List.mem_append,List.mem_singleton] at hx;rcases hx with hx|hx|hx
 ·(exact mM _ _ hx)
 ·(exact dZ _ _ hx)
 ·(exact dH _ _ hx)
theorem NG (s:kO):(jR s)[0]? = some (.v (.bool s.has)):=rfl
theorem UT (s:kO) (x:Bool):dG (jR s) 0 ([.v (.bool x)]) 1=jR { s with has:=x }:=cH (gP _)
theorem DH (s:kO):(jR s)[1]? = some (.v (.int .u64 s.aL)):=(aG rfl (gP _)).trans (rfl)
theorem GS (s:kO) (x:Int):dG (jR s) 1 ([.v (.int .u64 x)]) 2=jR { s with aL:=x }:=(aD rfl rfl (gP _)).trans (bI (cH (aV _)))
theorem NH (s:kO):rd (jR s) 2 32=aX s.root:=(aY rfl (gP _)).trans ((aY rfl (aV _)).trans (iZ (aM _)))
theorem NJ (s:kO) (x:cJ):dG (jR s) 2 (aX x) 34=jR { s with root:=x }:=(aD rfl rfl (gP _)).trans (bI ((aD rfl rfl (aV _)).trans (bI (eG (aM _)))))
def tV:kO:=⟨false,0,dK⟩
def H4:List Value:=[.bool false]++([.int .u64 0]++(tW))
theorem H5:H4.map AV.v=jR tV:=by simp only[H4,List.map_append,List.map_cons,List.map_nil,jM,jN];rfl
def aHz:List Bool:=[false]++([true]++(Hf))
theorem u7 (a b:kO):gU aHz (jR a) (jR b):=(eN (show gU [false] [_] [_] from trivial) (eN (show gU [true] [_] [_] from ⟨rfl,trivial⟩) (mN _ _)))
theorem S9 (a b:kO):jR a=jR b↔a=b:=by
 refine⟨fun h=>?_,fun h=>by rw[h]⟩
 cases a;cases b
 simp only[jR] at h;obtain⟨h0,h⟩:=List.append_inj h (by simp)
 obtain⟨h1,h⟩:=List.append_inj h (by simp)
 have e0:=(JH _ _).1 h0
 have e1:=(Ev _ _).1 h1
 have e2:=(oS _ _).1 h
 subst e0 e1 e2;rfl
theorem UU (s:kO):rd (jR s) 0 34=jR s:=iZ (sI _)
theorem UW (s x:kO):dG (jR s) 0 (jR x) 34=jR x:=eG (sI _)
structure sP where
 slot:Int
 root:cJ
 target:fU
 eU:AV
def gZ (s:sP):List AV:=sW s.slot++(aX s.root++(bY s.target++([s.eU])))
@[simp] theorem iE (s:sP):(gZ s).length=67:=by simp[gZ]
theorem Tf (s:sP) (h0:Flat s.eU):∀x∈gZ s,Flat x:=by
 intro x hx;simp only[gZ,List.mem_append,List.mem_singleton] at hx;rcases hx with hx|hx|hx|hx
 ·(exact dZ _ _ hx)
 ·(exact dH _ _ hx)
 ·(exact dB _ _ hx)
 ·(subst hx;assumption)
theorem NK (s:sP):(gZ s)[0]? = some (.v (.int .u64 s.slot)):=rfl
theorem UX (s:sP) (x:Int):dG (gZ s) 0 ([.v (.int .u64 x)]) 1=gZ { s with slot:=x }:=cH (aV _)
theorem UY (s:sP):rd (gZ s) 1 32=aX s.root:=(aY rfl (aV _)).trans (gH (aM _))
theorem UZ (s:sP) (x:cJ):dG (gZ s) 1 (aX x) 33=gZ { s with root:=x }:=(aD rfl rfl (aV _)).trans (bI (cH (aM _)))
theorem GU (s:sP):rd (gZ s) 33 33=bY s.target:=(aY rfl (aV _)).trans ((aY rfl (aM _)).trans (gH (bS _)))
theorem GV (s:sP) (x:fU):dG (gZ s) 33 (bY x) 66=gZ { s with target:=x }:=(aD rfl rfl (aV _)).trans (bI ((aD rfl rfl (aM _)).trans (bI (cH (bS _)))))
theorem Jw (s:sP):(gZ s)[33]? = some (.v (.int .u64 s.target.aL)):=(aG rfl (aV _)).trans ((aG rfl (aM _)).trans ((eH (by rw[bS];decide)).trans (jY _)))
theorem Mg (s:sP) (x:Int):dG (gZ s) 33 ([.v (.int .u64 x)]) 34=gZ { s with target:={ s.target with aL:=x }}:=(aD rfl rfl (aV _)).trans (bI ((aD rfl rfl (aM _)).trans (bI ((tA (by rw[bS];decide)).trans (Dd (De _ x))))))
theorem Pb (s:sP):rd (gZ s) 34 32=aX s.target.root:=(aY rfl (aV _)).trans ((aY rfl (aM _)).trans ((sZ (by rw[bS];decide)).trans (vA _)))
theorem Pc (s:sP) (x:cJ):dG (gZ s) 34 (aX x) 66=gZ { s with target:={ s.target with root:=x }}:=(aD rfl rfl (aV _)).trans (bI ((aD rfl rfl (aM _)).trans (bI ((tA (by rw[bS];decide)).trans (Dd (Gu _ x))))))
theorem Fz (s:sP):(gZ s)[66]? = some (s.eU):=(aG rfl (aV _)).trans ((aG rfl (aM _)).trans ((aG rfl (bS _)).trans (rfl)))
theorem VA (s:sP) (x:AV):dG (gZ s) 66 ([x]) 67=gZ { s with eU:=x }:=(aD rfl rfl (aV _)).trans (bI ((aD rfl rfl (aM _)).trans (bI ((aD rfl rfl (bS _)).trans (bI (eG rfl))))))
def Ma:sP:=⟨0,dK,gY,(.v (.slice none 0 0))⟩
def aCT:List Value:=[.int .u64 0]++(tW++(Dv++([.slice none 0 0])))
theorem u9:aCT.map AV.v=gZ Ma:=by simp only[aCT,List.map_append,List.map_cons,List.map_nil,jM,jN,Ca];rfl
theorem lT (st:St) (s:sP):Tb st (gZ s)=cA (cC st s.eU) fun v7=>some (gZ { s with eU:=v7 }):=by
 simp only[gZ,uR,jF (dZ _),jF (dH _),jF (dB _),wY,jG,cI]
theorem v8 (s:sP):rd (gZ s) 0 67=gZ s:=iZ (iE _)
theorem v9 (s x:sP):dG (gZ s) 0 (gZ x) 67=gZ x:=eG (iE _)
structure Claim where
 source:Int
 target:Int
 root:cJ
 eU:AV
def gN (s:Claim):List AV:=sW s.source++(sW s.target++(aX s.root++([s.eU])))
@[simp] theorem iO (s:Claim):(gN s).length=35:=by simp[gN]
theorem It (s:Claim) (h0:Flat s.eU):∀x∈gN s,Flat x:=by
 intro x hx;simp only[gN,List.mem_append,List.mem_singleton] at hx;rcases hx with hx|hx|hx|hx
 ·(exact dZ _ _ hx)
 ·(exact dZ _ _ hx)
 ·(exact dH _ _ hx)
 ·(subst hx;assumption)
theorem wS (s:Claim):(gN s)[0]? = some (.v (.int .u64 s.source)):=rfl
theorem Hh (s:Claim) (x:Int):dG (gN s) 0 ([.v (.int .u64 x)]) 1=gN { s with source:=x }:=cH (aV _)
theorem wT (s:Claim):(gN s)[1]? = some (.v (.int .u64 s.target)):=(aG rfl (aV _)).trans (rfl)
theorem Hi (s:Claim) (x:Int):dG (gN s) 1 ([.v (.int .u64 x)]) 2=gN { s with target:=x }:=(aD rfl rfl (aV _)).trans (bI (cH (aV _)))
theorem GW (s:Claim):rd (gN s) 2 32=aX s.root:=(aY rfl (aV _)).trans ((aY rfl (aV _)).trans (gH (aM _)))
theorem Nj (s:Claim) (x:cJ):dG (gN s) 2 (aX x) 34=gN { s with root:=x }:=(aD rfl rfl (aV _)).trans (bI ((aD rfl rfl (aV _)).trans (bI (cH (aM _)))))
theorem uL (s:Claim):(gN s)[34]? = some (s.eU):=(aG rfl (aV _)).trans ((aG rfl (aV _)).trans ((aG rfl (aM _)).trans (rfl)))
theorem GX (s:Claim) (x:AV):dG (gN s) 34 ([x]) 35=gN { s with eU:=x }:=(aD rfl rfl (aV _)).trans (bI ((aD rfl rfl (aV _)).trans (bI ((aD rfl rfl (aM _)).trans (bI (eG rfl))))))
def NL:Claim:=⟨0,0,dK,(.v (.slice none 0 0))⟩
def Ve:List Value:=[.int .u64 0]++([.int .u64 0]++(tW++([.slice none 0 0])))
theorem DI:Ve.map AV.v=gN NL:=by simp only[Ve,List.map_append,List.map_cons,List.map_nil,jM,jN];rfl
theorem wD (st:St) (s:Claim):Tb st (gN s)=cA (cC st s.eU) fun v7=>some (gN { s with eU:=v7 }):=by
 simp only[gN,uR,jF (dZ _),jF (dH _),wY,jG,cI]
structure fY where
 first:Claim
 second:Claim
def bZ (s:fY):List AV:=gN s.first++(gN s.second)
@[simp] theorem fO (s:fY):(bZ s).length=70:=by simp[bZ]
theorem Iu (s:fY) (h0:Flat s.first.eU) (h1:Flat s.second.eU):∀x∈bZ s,Flat x:=by
 intro x hx;simp only[bZ,List.mem_append,List.mem_singleton] at hx;rcases hx with hx|hx
 ·(exact It _ (by assumption) _ hx)
 ·(exact It _ (by assumption) _ hx)
theorem So (s:fY):rd (bZ s) 0 35=gN s.first:=gH (iO _)
theorem Sp (s:fY) (x:Claim):dG (bZ s) 0 (gN x) 35=bZ { s with first:=x }:=cH (iO _)
theorem Bm (s:fY):(bZ s)[0]? = some (.v (.int .u64 s.first.source)):=(eH (by rw[iO];decide)).trans (wS _)
theorem Bn (s:fY):(bZ s)[1]? = some (.v (.int .u64 s.first.target)):=(eH (by rw[iO];decide)).trans (wT _)
theorem oI (s:fY):(bZ s)[34]? = some (s.first.eU):=(eH (by rw[iO];decide)).trans (uL _)
theorem Pd (s:fY):rd (bZ s) 35 35=gN s.second:=(aY rfl (iO _)).trans (iZ (iO _))
theorem Pe (s:fY) (x:Claim):dG (bZ s) 35 (gN x) 70=bZ { s with second:=x }:=(aD rfl rfl (iO _)).trans (bI (eG (iO _)))
theorem Bf (s:fY):(bZ s)[35]? = some (.v (.int .u64 s.second.source)):=(aG rfl (iO _)).trans (wS _)
theorem Bo (s:fY) (x:Int):dG (bZ s) 35 ([.v (.int .u64 x)]) 36=bZ { s with second:={ s.second with source:=x }}:=(aD rfl rfl (iO _)).trans (bI (Hh _ x))
theorem Bg (s:fY):(bZ s)[36]? = some (.v (.int .u64 s.second.target)):=(aG rfl (iO _)).trans (wT _)
theorem Bp (s:fY) (x:Int):dG (bZ s) 36 ([.v (.int .u64 x)]) 37=bZ { s with second:={ s.second with target:=x }}:=(aD rfl rfl (iO _)).trans (bI (Hi _ x))
theorem Ff (s:fY) (x:cJ):dG (bZ s) 37 (aX x) 69=bZ { s with second:={ s.second with root:=x }}:=(aD rfl rfl (iO _)).trans (bI (Nj _ x))
theorem nP (s:fY):(bZ s)[69]? = some (s.second.eU):=(aG rfl (iO _)).trans (uL _)
def Vf:fY:=⟨NL,NL⟩
def Fg:List Value:=Ve++(Ve)
theorem Jx:Fg.map AV.v=bZ Vf:=by simp only[Fg,List.map_append,List.map_cons,List.map_nil,jM,jN,DI];rfl
theorem rY (st:St) (s:fY):Tb st (bZ s)=cA (cC st s.first.eU) fun x_first_vals=>cA (cC st s.second.eU) fun x_second_vals=>some (bZ { s with first:={ s.first with eU:=x_first_vals },second:={ s.second with eU:=x_second_vals }}):=by
 simp only[bZ,uR,wD,jG,cI]
theorem Xt (s:fY):rd (bZ s) 0 70=bZ s:=iZ (fO _)
theorem Xu (s x:fY):dG (bZ s) 0 (bZ x) 70=bZ x:=eG (fO _)
structure Table where
 ck:fU
 jQ:AV
def cF (s:Table):List AV:=bY s.ck++([s.jQ])
@[simp] theorem fW (s:Table):(cF s).length=34:=by simp[cF]
theorem Iv (s:Table) (h0:Flat s.jQ):∀x∈cF s,Flat x:=by
 intro x hx;simp only[cF,List.mem_append,List.mem_singleton] at hx;rcases hx with hx|hx
 ·(exact dB _ _ hx)
 ·(subst hx;assumption)
theorem VB (s:Table):rd (cF s) 0 33=bY s.ck:=gH (bS _)
theorem VC (s:Table) (x:fU):dG (cF s) 0 (bY x) 33=cF { s with ck:=x }:=cH (bS _)
theorem Pf (s:Table):(cF s)[0]? = some (.v (.int .u64 s.ck.aL)):=(eH (by rw[bS];decide)).trans (jY _)
theorem Vg (s:Table):rd (cF s) 1 32=aX s.ck.root:=(sZ (by rw[bS];decide)).trans (vA _)
theorem Cv (s:Table):(cF s)[33]? = some (s.jQ):=(aG rfl (bS _)).trans (rfl)
theorem NM (s:Table) (x:AV):dG (cF s) 33 ([x]) 34=cF { s with jQ:=x }:=(aD rfl rfl (bS _)).trans (bI (eG rfl))
def iW:Table:=⟨gY,(.v (.slice none 0 0))⟩
def DJ:List Value:=Dv++([.slice none 0 0])
theorem DK:DJ.map AV.v=cF iW:=by simp only[DJ,List.map_append,List.map_cons,List.map_nil,jM,jN,Ca];rfl
theorem tU (st:St) (s:Table):Tb st (cF s)=cA (cC st s.jQ) fun aCS=>some (cF { s with jQ:=aCS }):=by
 simp only[cF,uR,jF (dB _),wY,jG,cI]
theorem NN (s:Table):rd (cF s) 0 34=cF s:=iZ (fW _)
theorem NO (s x:Table):dG (cF s) 0 (cF x) 34=cF x:=eG (fW _)
structure Request where
 tagged:yG
 block:cJ
 tries:Int
 due:Int
def bA (s:Request):List AV:=mR s.tagged++(aX s.block++(qD s.tries++(sW s.due)))
@[simp] theorem fZ (s:Request):(bA s).length=35:=by simp[bA]
theorem fN (s:Request):∀x∈bA s,Flat x:=by
 intro x hx;simp only[bA,List.mem_append,List.mem_singleton] at hx;rcases hx with hx|hx|hx|hx
 ·(exact Sd _ _ hx)
 ·(exact dH _ _ hx)
 ·(exact mG _ _ hx)
 ·(exact dZ _ _ hx)
theorem Sq (s:Request) (x:yG):dG (bA s) 0 (mR x) 1=bA { s with tagged:=x }:=cH (gQ _)
theorem Gx (s:Request):(bA s)[0]? = some (.v (.int .u64 s.tagged.tag)):=(eH (by rw[gQ];decide)).trans (Bd _)
theorem Vh (s:Request):rd (bA s) 1 32=aX s.block:=(aY rfl (gQ _)).trans (gH (aM _))
theorem Vi (s:Request) (x:cJ):dG (bA s) 1 (aX x) 33=bA { s with block:=x }:=(aD rfl rfl (gQ _)).trans (bI (cH (aM _)))
theorem Sr (s:Request):(bA s)[33]? = some (.v (.int .i64 s.tries)):=(aG rfl (gQ _)).trans ((aG rfl (aM _)).trans (rfl))
theorem Vj (s:Request) (x:Int):dG (bA s) 33 ([.v (.int .i64 x)]) 34=bA { s with tries:=x }:=(aD rfl rfl (gQ _)).trans (bI ((aD rfl rfl (aM _)).trans (bI (cH (bC _)))))
theorem Xv (s:Request):(bA s)[34]? = some (.v (.int .u64 s.due)):=(aG rfl (gQ _)).trans ((aG rfl (aM _)).trans ((aG rfl (bC _)).trans (rfl)))
theorem DL (s:Request) (x:Int):dG (bA s) 34 ([.v (.int .u64 x)]) 35=bA { s with due:=x }:=(aD rfl rfl (gQ _)).trans (bI ((aD rfl rfl (aM _)).trans (bI ((aD rfl rfl (bC _)).trans (bI (eG (aV _)))))))
def bB:Request:=⟨Yy,dK,0,0⟩
def Ss:List Value:=Lv++(tW++([.int .i64 0]++([.int .u64 0])))
theorem DM:Ss.map AV.v=bA bB:=by simp only[Ss,List.map_append,List.map_cons,List.map_nil,jM,jN,Lw];rfl
def VD:List Bool:=NB++(Hf++([true]++([true])))
theorem GY (a b:Request):gU VD (bA a) (bA b):=(eN (Se _ _) (eN (mN _ _) (eN (show gU [true] [_] [_] from ⟨rfl,trivial⟩) (show gU [true] [_] [_] from ⟨rfl,trivial⟩))))
theorem NP (a b:Request):bA a=bA b↔a=b:=by
 refine⟨fun h=>?_,fun h=>by rw[h]⟩
 cases a;cases b
 simp only[bA] at h;obtain⟨h0,h⟩:=List.append_inj h (by simp)
 obtain⟨h1,h⟩:=List.append_inj h (by simp)
 obtain⟨h2,h⟩:=List.append_inj h (by simp)
 have e0:=(Wu _ _).1 h0
 have e1:=(oS _ _).1 h1
 have e2:=(uZ _ _).1 h2
 have e3:=(Ev _ _).1 h
 subst e0 e1 e2 e3;rfl
theorem DN (s:Request):rd (bA s) 0 35=bA s:=iZ (fZ _)
theorem DO (s x:Request):dG (bA s) 0 (bA x) 35=bA x:=eG (fZ _)
structure Command where
 head:cJ
 safe:cJ
 fin:cJ
def dV (s:Command):List AV:=aX s.head++(aX s.safe++(aX s.fin))
@[simp] theorem lY (s:Command):(dV s).length=96:=by simp[dV]
theorem kY (s:Command):∀x∈dV s,Flat x:=by
 intro x hx;simp only[dV,List.mem_append,List.mem_singleton] at hx;rcases hx with hx|hx|hx
 ·(exact dH _ _ hx)
 ·(exact dH _ _ hx)
 ·(exact dH _ _ hx)
theorem KZ (s:Command):∀x∈dV s,eE x:=by
 intro x hx;simp only[dV,List.mem_append] at hx;rcases hx with hx|hx|hx
 ·exact Ef _ _ hx
 ·exact Ef _ _ hx
 ·exact Ef _ _ hx
theorem Xw (s:Command) (x:cJ):dG (dV s) 0 (aX x) 32=dV { s with head:=x }:=cH (aM _)
theorem Xx (s:Command) (x:cJ):dG (dV s) 32 (aX x) 64=dV { s with safe:=x }:=(aD rfl rfl (aM _)).trans (bI (cH (aM _)))
theorem DP (s:Command) (x:cJ):dG (dV s) 64 (aX x) 96=dV { s with fin:=x }:=(aD rfl rfl (aM _)).trans (bI ((aD rfl rfl (aM _)).trans (bI (eG (aM _)))))
def DQ:Command:=⟨dK,dK,dK⟩
def Jy:List Value:=tW++(tW++(tW))
theorem Pg:Jy.map AV.v=dV DQ:=by simp only[Jy,List.map_append,List.map_cons,List.map_nil,jM,jN];rfl
def VE:List Bool:=Hf++(Hf++(Hf))
theorem GZ (a b:Command):gU VE (dV a) (dV b):=(eN (mN _ _) (eN (mN _ _) (mN _ _)))
theorem NQ (a b:Command):dV a=dV b↔a=b:=by
 refine⟨fun h=>?_,fun h=>by rw[h]⟩
 cases a;cases b
 simp only[dV] at h;obtain⟨h0,h⟩:=List.append_inj h (by simp)
 obtain⟨h1,h⟩:=List.append_inj h (by simp)
 have e0:=(oS _ _).1 h0
 have e1:=(oS _ _).1 h1
 have e2:=(oS _ _).1 h
 subst e0 e1 e2;rfl
theorem DR (s:Command):rd (dV s) 0 96=dV s:=iZ (lY _)
theorem DS (s x:Command):dG (dV s) 0 (dV x) 96=dV x:=eG (lY _)
structure vK where
 dO:AV
 gW:AV
def eP (s:vK):List AV:=[s.dO]++([s.gW])
@[simp] theorem dC (s:vK):(eP s).length=2:=by simp[eP]
theorem qT (s:vK) (h0:Flat s.dO) (h1:Flat s.gW):∀x∈eP s,Flat x:=by
 intro x hx;simp only[eP,List.mem_append,List.mem_singleton] at hx;rcases hx with hx|hx
 ·(subst hx;assumption)
 ·(subst hx;assumption)
theorem vV (s:vK):(eP s)[0]? = some (s.dO):=rfl
theorem Hj (s:vK) (x:AV):dG (eP s) 0 ([x]) 1=eP { s with dO:=x }:=cH rfl
theorem xX (s:vK):(eP s)[1]? = some (s.gW):=(aG rfl rfl).trans (rfl)
theorem Jz (s:vK) (x:AV):dG (eP s) 1 ([x]) 2=eP { s with gW:=x }:=(aD rfl rfl rfl).trans (bI (eG rfl))
def Nw:vK:=⟨(.v (.slice none 0 0)),(.v (.slice none 0 0))⟩
def DT:List Value:=[.slice none 0 0]++([.slice none 0 0])
theorem DU:DT.map AV.v=eP Nw:=by simp only[DT,List.map_append,List.map_cons,List.map_nil,jM,jN];rfl
theorem T3 (st:St) (s:vK):Tb st (eP s)=cA (cC st s.dO) fun x_latest=>cA (cC st s.gW) fun x_equiv=>some (eP { s with dO:=x_latest,gW:=x_equiv }):=by
 simp only[eP,uR,wY,jG,cI]
theorem NR (s:vK):rd (eP s) 0 2=eP s:=iZ (dC _)
theorem NS (s x:vK):dG (eP s) 0 (eP x) 2=eP x:=eG (dC _)
structure jZ where
 gX:fU
 fin:fU
def eA (s:jZ):List AV:=bY s.gX++(bY s.fin)
@[simp] theorem cW (s:jZ):(eA s).length=66:=by simp[eA]
theorem lC (s:jZ):∀x∈eA s,Flat x:=by
 intro x hx;simp only[eA,List.mem_append,List.mem_singleton] at hx;rcases hx with hx|hx
 ·(exact dB _ _ hx)
 ·(exact dB _ _ hx)
theorem FF (s:jZ):∀x∈eA s,eE x:=by
 intro x hx;simp only[eA,List.mem_append] at hx;rcases hx with hx|hx
 ·exact JJ _ _ hx
 ·exact JJ _ _ hx
theorem Fh (s:jZ):rd (eA s) 0 33=bY s.gX:=gH (bS _)
theorem Fi (s:jZ) (x:fU):dG (eA s) 0 (bY x) 33=eA { s with gX:=x }:=cH (bS _)
theorem uB (s:jZ):(eA s)[0]? = some (.v (.int .u64 s.gX.aL)):=(eH (by rw[bS];decide)).trans (jY _)
theorem vQ (s:jZ):rd (eA s) 1 32=aX s.gX.root:=(sZ (by rw[bS];decide)).trans (vA _)
theorem Hk (s:jZ):rd (eA s) 33 33=bY s.fin:=(aY rfl (bS _)).trans (iZ (bS _))
theorem Hl (s:jZ) (x:fU):dG (eA s) 33 (bY x) 66=eA { s with fin:=x }:=(aD rfl rfl (bS _)).trans (bI (eG (bS _)))
theorem vD (s:jZ):(eA s)[33]? = some (.v (.int .u64 s.fin.aL)):=(aG rfl (bS _)).trans (jY _)
theorem xS (s:jZ):rd (eA s) 34 32=aX s.fin.root:=(aY rfl (bS _)).trans (vA _)
def Vk:jZ:=⟨gY,gY⟩
def Fj:List Value:=Dv++(Dv)
theorem Ka:Fj.map AV.v=eA Vk:=by simp only[Fj,List.map_append,List.map_cons,List.map_nil,jM,jN,Ca];rfl
def JK:List Bool:=Ws++(Ws)
theorem DV (a b:jZ):gU JK (eA a) (eA b):=(eN (tP _ _) (tP _ _))
theorem HA (a b:jZ):eA a=eA b↔a=b:=by
 refine⟨fun h=>?_,fun h=>by rw[h]⟩
 cases a;cases b
 simp only[eA] at h;obtain⟨h0,h⟩:=List.append_inj h (by simp)
 have e0:=(mX _ _).1 h0
 have e1:=(mX _ _).1 h
 subst e0 e1;rfl
structure Af where
 early:AV
 bV:AV
def jL (s:Af):List AV:=[s.early]++([s.bV])
@[simp] theorem iF (s:Af):(jL s).length=2:=by simp[jL]
theorem Qe (s:Af) (h0:Flat s.early) (h1:Flat s.bV):∀x∈jL s,Flat x:=by
 intro x hx;simp only[jL,List.mem_append,List.mem_singleton] at hx;rcases hx with hx|hx
 ·(subst hx;assumption)
 ·(subst hx;assumption)
theorem vW (s:Af):(jL s)[0]? = some (s.early):=rfl
theorem Hm (s:Af) (x:AV):dG (jL s) 0 ([x]) 1=jL { s with early:=x }:=cH rfl
theorem tI (s:Af):(jL s)[1]? = some (s.bV):=(aG rfl rfl).trans (rfl)
theorem Cp (s:Af) (x:AV):dG (jL s) 1 ([x]) 2=jL { s with bV:=x }:=(aD rfl rfl rfl).trans (bI (eG rfl))
def Gg:Af:=⟨(.v (.slice none 0 0)),(.v (.slice none 0 0))⟩
def Yz:List Value:=[.slice none 0 0]++([.slice none 0 0])
theorem JL:Yz.map AV.v=jL Gg:=by simp only[Yz,List.map_append,List.map_cons,List.map_nil,jM,jN];rfl
theorem w8 (st:St) (s:Af):Tb st (jL s)=cA (cC st s.early) fun x_early=>cA (cC st s.bV) fun x_orphans=>some (jL { s with early:=x_early,bV:=x_orphans }):=by
 simp only[jL,uR,wY,jG,cI]
structure Hd where
 nodes:AV
def mI (s:Hd):List AV:=[s.nodes]
@[simp] theorem mO (s:Hd):(mI s).length=1:=by simp[mI]
theorem xH (s:Hd) (h0:Flat s.nodes):∀x∈mI s,Flat x:=by
 intro x hx;simp only[mI,List.mem_append,List.mem_singleton] at hx;(subst hx;assumption)
theorem xY (s:Hd):(mI s)[0]? = some (s.nodes):=rfl
theorem Kb (s:Hd) (x:AV):dG (mI s) 0 ([x]) 1=mI { s with nodes:=x }:=eG rfl
def Tj:Hd:=⟨(.v (.slice none 0 0))⟩
def y7:List Value:=[.slice none 0 0]
theorem VF:y7.map AV.v=mI Tj:=by simp only[y7,List.map_append,List.map_cons,List.map_nil,jM,jN];rfl
theorem T4 (st:St) (s:Hd):Tb st (mI s)=cA (cC st s.nodes) fun x_nodes=>some (mI { s with nodes:=x_nodes }):=by
 simp only[mI,uR,wY,jG,cI]
structure aO where
 cFg:Config
 gE:vK
 bO:jZ
 dR:Af
 tree:Hd
 now:Int
 iQ:cJ
 tables:AV
def aB (s:aO):List AV:=bU s.cFg++(eP s.gE++(eA s.bO++(jL s.dR++(mI s.tree++(sW s.now++(aX s.iQ++([s.tables])))))))
@[simp] theorem cS (s:aO):(aB s).length=150:=by simp[aB]
theorem Vw (s:aO) (h0:Flat s.cFg.jQ) (h1:Flat s.gE.dO) (h2:Flat s.gE.gW) (h3:Flat s.dR.early) (h4:Flat s.dR.bV) (h5:Flat s.tree.nodes) (h6:Flat s.tables):∀x∈aB s,Flat x:=by
 intro x hx;simp only[aB,List.mem_append,List.mem_singleton] at hx;rcases hx with hx|hx|hx|hx|hx|hx|hx|hx
 ·(exact uJ _ (by assumption) _ hx)
 ·(exact qT _ (by assumption) (by assumption) _ hx)
 ·(exact lC _ _ hx)
 ·(exact Qe _ (by assumption) (by assumption) _ hx)
 ·(exact xH _ (by assumption) _ hx)
 ·(exact dZ _ _ hx)
 ·(exact dH _ _ hx)
 ·(subst hx;assumption)
theorem Xy (s:aO):rd (aB s) 0 45=bU s.cFg:=gH (bN _)
theorem Xz (s:aO) (x:Config):dG (aB s) 0 (bU x) 45=aB { s with cFg:=x }:=cH (bN _)
theorem Bh (s:aO):(aB s)[0]? = some (.v (.int .i64 s.cFg.kF.sU)):=(eH (by rw[bN];decide)).trans (xP _)
theorem Bi (s:aO):(aB s)[1]? = some (.v (.int .i64 s.cFg.kF.xI)):=(eH (by rw[bN];decide)).trans (xQ _)
theorem zA (s:aO):(aB s)[2]? = some (.v (.int .i64 s.cFg.kF.qJ)):=(eH (by rw[bN];decide)).trans (vN _)
theorem zB (s:aO):(aB s)[3]? = some (.v (.int .i64 s.cFg.kF.rE)):=(eH (by rw[bN];decide)).trans (vO _)
theorem qN (s:aO):(aB s)[4]? = some (.v (.int .i64 s.cFg.kF.lM)):=(eH (by rw[bN];decide)).trans (vP _)
theorem rQ (s:aO) (x:Int):dG (aB s) 4 ([.v (.int .i64 x)]) 5=aB { s with cFg:={ s.cFg with kF:={ s.cFg.kF with lM:=x }} }:=(tA (by rw[bN];decide)).trans (Dd (xR _ x))
theorem pW (s:aO):(aB s)[5]? = some (.v (.int .u64 s.cFg.kF.kZ)):=(eH (by rw[bN];decide)).trans (vC _)
theorem Kc (s:aO):(aB s)[6]? = some (.v (.int .u64 s.cFg.rD)):=(eH (by rw[bN];decide)).trans (Jv _)
theorem Mh (s:aO):rd (aB s) 8 4=gC s.cFg.EX:=(sZ (by rw[bN];decide)).trans (Nh _)
theorem qV (s:aO):(aB s)[44]? = some (s.cFg.jQ):=(eH (by rw[bN];decide)).trans (Ae _)
theorem Mi (s:aO) (x:AV):dG (aB s) 44 ([x]) 45=aB { s with cFg:={ s.cFg with jQ:=x }}:=(tA (by rw[bN];decide)).trans (Dd (Ni _ x))
theorem DW (s:aO):rd (aB s) 45 2=eP s.gE:=(aY rfl (bN _)).trans (gH (dC _))
theorem DX (s:aO) (x:vK):dG (aB s) 45 (eP x) 47=aB { s with gE:=x }:=(aD rfl rfl (bN _)).trans (bI (cH (dC _)))
theorem pD (s:aO):(aB s)[45]? = some (s.gE.dO):=(aG rfl (bN _)).trans ((eH (by rw[dC];decide)).trans (vV _))
theorem Ht (s:aO) (x:AV):dG (aB s) 45 ([x]) 46=aB { s with gE:={ s.gE with dO:=x }}:=(aD rfl rfl (bN _)).trans (bI ((tA (by rw[dC];decide)).trans (Dd (Hj _ x))))
theorem qF (s:aO):(aB s)[46]? = some (s.gE.gW):=(aG rfl (bN _)).trans ((eH (by rw[dC];decide)).trans (xX _))
theorem Kd (s:aO) (x:AV):dG (aB s) 46 ([x]) 47=aB { s with gE:={ s.gE with gW:=x }}:=(aD rfl rfl (bN _)).trans (bI ((tA (by rw[dC];decide)).trans (Dd (Jz _ x))))
theorem Su (s:aO):rd (aB s) 47 66=eA s.bO:=(aY rfl (bN _)).trans ((aY rfl (dC _)).trans (gH (cW _)))
theorem Sv (s:aO) (x:jZ):dG (aB s) 47 (eA x) 113=aB { s with bO:=x }:=(aD rfl rfl (bN _)).trans (bI ((aD rfl rfl (dC _)).trans (bI (cH (cW _)))))
theorem Gy (s:aO):rd (aB s) 47 33=bY s.bO.gX:=(aY rfl (bN _)).trans ((aY rfl (dC _)).trans ((sZ (by rw[cW];decide)).trans (Fh _)))
theorem Gz (s:aO) (x:fU):dG (aB s) 47 (bY x) 80=aB { s with bO:={ s.bO with gX:=x }}:=(aD rfl rfl (bN _)).trans (bI ((aD rfl rfl (dC _)).trans (bI ((tA (by rw[cW];decide)).trans (Dd (Fi _ x))))))
theorem xT (s:aO):(aB s)[47]? = some (.v (.int .u64 s.bO.gX.aL)):=(aG rfl (bN _)).trans ((aG rfl (dC _)).trans ((eH (by rw[cW];decide)).trans (uB _)))
theorem qO (s:aO):rd (aB s) 48 32=aX s.bO.gX.root:=(aY rfl (bN _)).trans ((aY rfl (dC _)).trans ((sZ (by rw[cW];decide)).trans (vQ _)))
theorem Hu (s:aO):rd (aB s) 80 33=bY s.bO.fin:=(aY rfl (bN _)).trans ((aY rfl (dC _)).trans ((sZ (by rw[cW];decide)).trans (Hk _)))
theorem Hv (s:aO) (x:fU):dG (aB s) 80 (bY x) 113=aB { s with bO:={ s.bO with fin:=x }}:=(aD rfl rfl (bN _)).trans (bI ((aD rfl rfl (dC _)).trans (bI ((tA (by rw[cW];decide)).trans (Dd (Hl _ x))))))
theorem yH (s:aO):(aB s)[80]? = some (.v (.int .u64 s.bO.fin.aL)):=(aG rfl (bN _)).trans ((aG rfl (dC _)).trans ((eH (by rw[cW];decide)).trans (vD _)))
theorem rR (s:aO):rd (aB s) 81 32=aX s.bO.fin.root:=(aY rfl (bN _)).trans ((aY rfl (dC _)).trans ((sZ (by rw[cW];decide)).trans (xS _)))
theorem pE (s:aO):(aB s)[113]? = some (s.dR.early):=(aG rfl (bN _)).trans ((aG rfl (dC _)).trans ((aG rfl (cW _)).trans ((eH (by rw[iF];decide)).trans (vW _))))
theorem Hw (s:aO) (x:AV):dG (aB s) 113 ([x]) 114=aB { s with dR:={ s.dR with early:=x }}:=(aD rfl rfl (bN _)).trans (bI ((aD rfl rfl (dC _)).trans (bI ((aD rfl rfl (cW _)).trans (bI ((tA (by rw[iF];decide)).trans (Dd (Hm _ x))))))))
theorem nN (s:aO):(aB s)[114]? = some (s.dR.bV):=(aG rfl (bN _)).trans ((aG rfl (dC _)).trans ((aG rfl (cW _)).trans ((eH (by rw[iF];decide)).trans (tI _))))
theorem Fk (s:aO) (x:AV):dG (aB s) 114 ([x]) 115=aB { s with dR:={ s.dR with bV:=x }}:=(aD rfl rfl (bN _)).trans (bI ((aD rfl rfl (dC _)).trans (bI ((aD rfl rfl (cW _)).trans (bI ((tA (by rw[iF];decide)).trans (Dd (Cp _ x))))))))
theorem Nk (s:aO):rd (aB s) 115 1=mI s.tree:=(aY rfl (bN _)).trans ((aY rfl (dC _)).trans ((aY rfl (cW _)).trans ((aY rfl (iF _)).trans (gH (mO _)))))
theorem Dg (s:aO) (x:Hd):dG (aB s) 115 (mI x) 116=aB { s with tree:=x }:=(aD rfl rfl (bN _)).trans (bI ((aD rfl rfl (dC _)).trans (bI ((aD rfl rfl (cW _)).trans (bI ((aD rfl rfl (iF _)).trans (bI (cH (mO _)))))))))
theorem qW (s:aO):(aB s)[115]? = some (s.tree.nodes):=(aG rfl (bN _)).trans ((aG rfl (dC _)).trans ((aG rfl (cW _)).trans ((aG rfl (iF _)).trans ((eH (by rw[mO];decide)).trans (xY _)))))
theorem Mj (s:aO) (x:AV):dG (aB s) 115 ([x]) 116=aB { s with tree:={ s.tree with nodes:=x }}:=(aD rfl rfl (bN _)).trans (bI ((aD rfl rfl (dC _)).trans (bI ((aD rfl rfl (cW _)).trans (bI ((aD rfl rfl (iF _)).trans (bI ((tA (by rw[mO];decide)).trans (Dd (Kb _ x))))))))))
theorem Nl (s:aO):(aB s)[116]? = some (.v (.int .u64 s.now)):=(aG rfl (bN _)).trans ((aG rfl (dC _)).trans ((aG rfl (cW _)).trans ((aG rfl (iF _)).trans ((aG rfl (mO _)).trans (rfl)))))
theorem NT (s:aO) (x:Int):dG (aB s) 116 ([.v (.int .u64 x)]) 117=aB { s with now:=x }:=(aD rfl rfl (bN _)).trans (bI ((aD rfl rfl (dC _)).trans (bI ((aD rfl rfl (cW _)).trans (bI ((aD rfl rfl (iF _)).trans (bI ((aD rfl rfl (mO _)).trans (bI (cH (aV _)))))))))))
theorem Ke (s:aO):rd (aB s) 117 32=aX s.iQ:=(aY rfl (bN _)).trans ((aY rfl (dC _)).trans ((aY rfl (cW _)).trans ((aY rfl (iF _)).trans ((aY rfl (mO _)).trans ((aY rfl (aV _)).trans (gH (aM _)))))))
theorem Kf (s:aO) (x:cJ):dG (aB s) 117 (aX x) 149=aB { s with iQ:=x }:=(aD rfl rfl (bN _)).trans (bI ((aD rfl rfl (dC _)).trans (bI ((aD rfl rfl (cW _)).trans (bI ((aD rfl rfl (iF _)).trans (bI ((aD rfl rfl (mO _)).trans (bI ((aD rfl rfl (aV _)).trans (bI (cH (aM _)))))))))))))
theorem vX (s:aO):(aB s)[149]? = some (s.tables):=(aG rfl (bN _)).trans ((aG rfl (dC _)).trans ((aG rfl (cW _)).trans ((aG rfl (iF _)).trans ((aG rfl (mO _)).trans ((aG rfl (aV _)).trans ((aG rfl (aM _)).trans (rfl)))))))
theorem Ya (s:aO) (x:AV):dG (aB s) 149 ([x]) 150=aB { s with tables:=x }:=(aD rfl rfl (bN _)).trans (bI ((aD rfl rfl (dC _)).trans (bI ((aD rfl rfl (cW _)).trans (bI ((aD rfl rfl (iF _)).trans (bI ((aD rfl rfl (mO _)).trans (bI ((aD rfl rfl (aV _)).trans (bI ((aD rfl rfl (aM _)).trans (bI (eG rfl))))))))))))))
def gK:aO:=⟨oA,Nw,Vk,Gg,Tj,0,dK,(.v (.slice none 0 0))⟩
def DY:List Value:=Sn++(DT++(Fj++(Yz++(y7++([.int .u64 0]++(tW++([.slice none 0 0])))))))
theorem DZ:DY.map AV.v=aB gK:=by simp only[DY,List.map_append,List.map_cons,List.map_nil,jM,jN,Vd,DU,Ka,JL,VF];rfl
theorem gF (st:St) (s:aO):Tb st (aB s)=cA (cC st s.cFg.jQ) fun x_config_bal=>cA (cC st s.gE.dO) fun x_votes_latest=>cA (cC st s.gE.gW) fun x_votes_equiv=>cA (cC st s.dR.early) fun x_queues_early=>cA (cC st s.dR.bV) fun x_queues_orphans=>cA (cC st s.tree.nodes) fun x_tree_nodes=>cA (cC st s.tables) fun x_tables=>some (aB { s with cFg:={ s.cFg with jQ:=x_config_bal },gE:={ s.gE with dO:=x_votes_latest,gW:=x_votes_equiv },dR:={ s.dR with early:=x_queues_early,bV:=x_queues_orphans },tree:={ s.tree with nodes:=x_tree_nodes },tables:=x_tables }):=by
 simp only[aB,uR,BA,T3,jF (lC _),w8,T4,jF (dZ _),jF (dH _),wY,jG,cI]
theorem NU (s:aO):rd (aB s) 0 150=aB s:=iZ (cS _)
theorem NV (s x:aO):dG (aB s) 0 (aB x) 150=aB x:=eG (cS _)
structure State where
 store:aO
 iM:AV
 kU:AV
 cV:Int
 Ny:Bool
 last:Command
 overflow:Bool
 halted:Bool
def aF (s:State):List AV:=aB s.store++([s.iM]++([s.kU]++(sW s.cV++(uA s.Ny++(dV s.last++(uA s.overflow++(uA s.halted)))))))
@[simp] theorem Ph (s:State):(aF s).length=252:=by simp[aF]
theorem PT (s:State) (h0:Flat s.store.cFg.jQ) (h1:Flat s.store.gE.dO) (h2:Flat s.store.gE.gW) (h3:Flat s.store.dR.early) (h4:Flat s.store.dR.bV) (h5:Flat s.store.tree.nodes) (h6:Flat s.store.tables) (h7:Flat s.iM) (h8:Flat s.kU):∀x∈aF s,Flat x:=by
 intro x hx;simp only[aF,List.mem_append,List.mem_singleton] at hx;rcases hx with hx|hx|hx|hx|hx|hx|hx|hx
 ·(exact Vw _ (by assumption) (by assumption) (by assumption) (by assumption) (by assumption) (by assumption) (by assumption) _ hx)
 ·(subst hx;assumption)
 ·(subst hx;assumption)
 ·(exact dZ _ _ hx)
 ·(exact mM _ _ hx)
 ·(exact kY _ _ hx)
 ·(exact mM _ _ hx)
 ·(exact mM _ _ hx)
theorem EA (s:State):rd (aF s) 0 150=aB s.store:=gH (cS _)
theorem EB (s:State) (x:aO):dG (aF s) 0 (aB x) 150=aF { s with store:=x }:=cH (cS _)
theorem uC (s:State):(aF s)[4]? = some (.v (.int .i64 s.store.cFg.kF.lM)):=(eH (by rw[cS];decide)).trans (qN _)
theorem vE (s:State) (x:Int):dG (aF s) 4 ([.v (.int .i64 x)]) 5=aF { s with store:={ s.store with cFg:={ s.store.cFg with kF:={ s.store.cFg.kF with lM:=x }} }}:=(tA (by rw[cS];decide)).trans (Dd (rQ _ x))
theorem tQ (s:State):(aF s)[5]? = some (.v (.int .u64 s.store.cFg.kF.kZ)):=(eH (by rw[cS];decide)).trans (pW _)
theorem qY (s:State):(aF s)[44]? = some (s.store.cFg.jQ):=(eH (by rw[cS];decide)).trans (qV _)
theorem pQ (s:State):(aF s)[45]? = some (s.store.gE.dO):=(eH (by rw[cS];decide)).trans (pD _)
theorem qM (s:State):(aF s)[46]? = some (s.store.gE.gW):=(eH (by rw[cS];decide)).trans (qF _)
theorem uD (s:State):rd (aF s) 48 32=aX s.store.bO.gX.root:=(sZ (by rw[cS];decide)).trans (qO _)
theorem vF (s:State):rd (aF s) 81 32=aX s.store.bO.fin.root:=(sZ (by rw[cS];decide)).trans (rR _)
theorem pR (s:State):(aF s)[113]? = some (s.store.dR.early):=(eH (by rw[cS];decide)).trans (pE _)
theorem oH (s:State):(aF s)[114]? = some (s.store.dR.bV):=(eH (by rw[cS];decide)).trans (nN _)
theorem Mk (s:State):rd (aF s) 115 1=mI s.store.tree:=(sZ (by rw[cS];decide)).trans (Nk _)
theorem yP (s:State) (x:Hd):dG (aF s) 115 (mI x) 116=aF { s with store:={ s.store with tree:=x }}:=(tA (by rw[cS];decide)).trans (Dd (Dg _ x))
theorem qZ (s:State):(aF s)[115]? = some (s.store.tree.nodes):=(eH (by rw[cS];decide)).trans (qW _)
theorem Ml (s:State):(aF s)[116]? = some (.v (.int .u64 s.store.now)):=(eH (by rw[cS];decide)).trans (Nl _)
theorem Kg (s:State):rd (aF s) 117 32=aX s.store.iQ:=(sZ (by rw[cS];decide)).trans (Ke _)
theorem Kh (s:State) (x:cJ):dG (aF s) 117 (aX x) 149=aF { s with store:={ s.store with iQ:=x }}:=(tA (by rw[cS];decide)).trans (Dd (Kf _ x))
theorem uK (s:State):(aF s)[149]? = some (s.store.tables):=(eH (by rw[cS];decide)).trans (vX _)
theorem Ag (s:State):(aF s)[150]? = some (s.iM):=(aG rfl (cS _)).trans (rfl)
theorem Sw (s:State) (x:AV):dG (aF s) 150 ([x]) 151=aF { s with iM:=x }:=(aD rfl rfl (cS _)).trans (bI (cH rfl))
theorem Bx (s:State):(aF s)[151]? = some (s.kU):=(aG rfl (cS _)).trans ((aG rfl rfl).trans (rfl))
theorem Vl (s:State) (x:AV):dG (aF s) 151 ([x]) 152=aF { s with kU:=x }:=(aD rfl rfl (cS _)).trans (bI ((aD rfl rfl rfl).trans (bI (cH rfl))))
theorem Sx (s:State):(aF s)[152]? = some (.v (.int .u64 s.cV)):=(aG rfl (cS _)).trans ((aG rfl rfl).trans ((aG rfl rfl).trans (rfl)))
theorem Vm (s:State) (x:Int):dG (aF s) 152 ([.v (.int .u64 x)]) 153=aF { s with cV:=x }:=(aD rfl rfl (cS _)).trans (bI ((aD rfl rfl rfl).trans (bI ((aD rfl rfl rfl).trans (bI (cH (aV _)))))))
theorem EC (s:State):(aF s)[153]? = some (.v (.bool s.Ny)):=(aG rfl (cS _)).trans ((aG rfl rfl).trans ((aG rfl rfl).trans ((aG rfl (aV _)).trans (rfl))))
theorem HB (s:State) (x:Bool):dG (aF s) 153 ([.v (.bool x)]) 154=aF { s with Ny:=x }:=(aD rfl rfl (cS _)).trans (bI ((aD rfl rfl rfl).trans (bI ((aD rfl rfl rfl).trans (bI ((aD rfl rfl (aV _)).trans (bI (cH (gP _)))))))))
theorem HC (s:State):rd (aF s) 154 96=dV s.last:=(aY rfl (cS _)).trans ((aY rfl rfl).trans ((aY rfl rfl).trans ((aY rfl (aV _)).trans ((aY rfl (gP _)).trans (gH (lY _))))))
theorem HD (s:State) (x:Command):dG (aF s) 154 (dV x) 250=aF { s with last:=x }:=(aD rfl rfl (cS _)).trans (bI ((aD rfl rfl rfl).trans (bI ((aD rfl rfl rfl).trans (bI ((aD rfl rfl (aV _)).trans (bI ((aD rfl rfl (gP _)).trans (bI (cH (lY _)))))))))))
theorem Pj (s:State):(aF s)[250]? = some (.v (.bool s.overflow)):=(aG rfl (cS _)).trans ((aG rfl rfl).trans ((aG rfl rfl).trans ((aG rfl (aV _)).trans ((aG rfl (gP _)).trans ((aG rfl (lY _)).trans (rfl))))))
theorem Sy (s:State) (x:Bool):dG (aF s) 250 ([.v (.bool x)]) 251=aF { s with overflow:=x }:=(aD rfl rfl (cS _)).trans (bI ((aD rfl rfl rfl).trans (bI ((aD rfl rfl rfl).trans (bI ((aD rfl rfl (aV _)).trans (bI ((aD rfl rfl (gP _)).trans (bI ((aD rfl rfl (lY _)).trans (bI (cH (gP _)))))))))))))
theorem Vn (s:State):(aF s)[251]? = some (.v (.bool s.halted)):=(aG rfl (cS _)).trans ((aG rfl rfl).trans ((aG rfl rfl).trans ((aG rfl (aV _)).trans ((aG rfl (gP _)).trans ((aG rfl (lY _)).trans ((aG rfl (gP _)).trans (rfl)))))))
theorem Yb (s:State) (x:Bool):dG (aF s) 251 ([.v (.bool x)]) 252=aF { s with halted:=x }:=(aD rfl rfl (cS _)).trans (bI ((aD rfl rfl rfl).trans (bI ((aD rfl rfl rfl).trans (bI ((aD rfl rfl (aV _)).trans (bI ((aD rfl rfl (gP _)).trans (bI ((aD rfl rfl (lY _)).trans (bI ((aD rfl rfl (gP _)).trans (bI (eG (gP _)))))))))))))))
def lD:State:=⟨gK,(.v (.slice none 0 0)),(.v (.slice none 0 0)),0,false,DQ,false,false⟩
def NX:List Value:=DY++([.slice none 0 0]++([.slice none 0 0]++([.int .u64 0]++([.bool false]++(Jy++([.bool false]++([.bool false])))))))
theorem VG:NX.map AV.v=aF lD:=by simp only[NX,List.map_append,List.map_cons,List.map_nil,jM,jN,DZ,Pg];rfl
theorem wE (st:St) (s:State):Tb st (aF s)=cA (cC st s.store.cFg.jQ) fun x_store_config_bal=>cA (cC st s.store.gE.dO) fun x_store_votes_latest=>cA (cC st s.store.gE.gW) fun x_store_votes_equiv=>cA (cC st s.store.dR.early) fun x_store_queues_early=>cA (cC st s.store.dR.bV) fun x_store_queues_orphans=>cA (cC st s.store.tree.nodes) fun x_store_tree_nodes=>cA (cC st s.store.tables) fun x_store_tables=>cA (cC st s.iM) fun x_requests=>cA (cC st s.kU) fun x_retries=>some (aF { s with store:={ s.store with cFg:={ s.store.cFg with jQ:=x_store_config_bal },gE:={ s.store.gE with dO:=x_store_votes_latest,gW:=x_store_votes_equiv },dR:={ s.store.dR with early:=x_store_queues_early,bV:=x_store_queues_orphans },tree:={ s.store.tree with nodes:=x_store_tree_nodes },tables:=x_store_tables },iM:=x_requests,kU:=x_retries }):=by
 simp only[aF,uR,gF,wY,jF (dZ _),jF (mM _),jF (kY _),jG,cI]
theorem NY (s:State):rd (aF s) 0 252=aF s:=iZ (Ph _)
theorem NZ (s x:State):dG (aF s) 0 (aF x) 252=aF x:=eG (Ph _)
structure xU where
 kind:Int
 block:Block
 Hp:sP
 oX:fY
 table:Table
 verdict:gO
 write:Int
 pY:Int
def kX (s:xU):List AV:=qD s.kind++(aT s.block++(gZ s.Hp++(bZ s.oX++(cF s.table++(dD s.verdict++(qD s.write++(qD s.pY)))))))
@[simp] theorem ED (s:xU):(kX s).length=446:=by simp[kX]
theorem K9 (s:xU) (h0:Flat s.Hp.eU) (h1:Flat s.oX.first.eU) (h2:Flat s.oX.second.eU) (h3:Flat s.table.jQ):∀x∈kX s,Flat x:=by
 intro x hx;simp only[kX,List.mem_append,List.mem_singleton] at hx;rcases hx with hx|hx|hx|hx|hx|hx|hx|hx
 ·(exact mG _ _ hx)
 ·(exact Cl _ _ hx)
 ·(exact Tf _ (by assumption) _ hx)
 ·(exact Iu _ (by assumption) (by assumption) _ hx)
 ·(exact Iv _ (by assumption) _ hx)
 ·(exact jT _ _ hx)
 ·(exact mG _ _ hx)
 ·(exact mG _ _ hx)
theorem OA (s:xU):(kX s)[0]? = some (.v (.int .i64 s.kind)):=rfl
theorem VH (s:xU) (x:Int):dG (kX s) 0 ([.v (.int .i64 x)]) 1=kX { s with kind:=x }:=cH (bC _)
theorem OB (s:xU):rd (kX s) 1 238=aT s.block:=(aY rfl (bC _)).trans (gH (bP _))
theorem OC (s:xU) (x:Block):dG (kX s) 1 (aT x) 239=kX { s with block:=x }:=(aD rfl rfl (bC _)).trans (bI (cH (bP _)))
theorem y8 (s:xU):rd (kX s) 239 67=gZ s.Hp:=(aY rfl (bC _)).trans ((aY rfl (bP _)).trans (gH (iE _)))
theorem y9 (s:xU) (x:sP):dG (kX s) 239 (gZ x) 306=kX { s with Hp:=x }:=(aD rfl rfl (bC _)).trans (bI ((aD rfl rfl (bP _)).trans (bI (cH (iE _)))))
theorem Ds (s:xU):(kX s)[305]? = some (s.Hp.eU):=(aG rfl (bC _)).trans ((aG rfl (bP _)).trans ((eH (by rw[iE];decide)).trans (Fz _)))
theorem OD (s:xU):rd (kX s) 306 70=bZ s.oX:=(aY rfl (bC _)).trans ((aY rfl (bP _)).trans ((aY rfl (iE _)).trans (gH (fO _))))
theorem OE (s:xU) (x:fY):dG (kX s) 306 (bZ x) 376=kX { s with oX:=x }:=(aD rfl rfl (bC _)).trans (bI ((aD rfl rfl (bP _)).trans (bI ((aD rfl rfl (iE _)).trans (bI (cH (fO _)))))))
theorem sR (s:xU):(kX s)[340]? = some (s.oX.first.eU):=(aG rfl (bC _)).trans ((aG rfl (bP _)).trans ((aG rfl (iE _)).trans ((eH (by rw[fO];decide)).trans (oI _))))
theorem sJ (s:xU):(kX s)[375]? = some (s.oX.second.eU):=(aG rfl (bC _)).trans ((aG rfl (bP _)).trans ((aG rfl (iE _)).trans ((eH (by rw[fO];decide)).trans (nP _))))
theorem OF (s:xU):rd (kX s) 376 34=cF s.table:=(aY rfl (bC _)).trans ((aY rfl (bP _)).trans ((aY rfl (iE _)).trans ((aY rfl (fO _)).trans (gH (fW _)))))
theorem OG (s:xU) (x:Table):dG (kX s) 376 (cF x) 410=kX { s with table:=x }:=(aD rfl rfl (bC _)).trans (bI ((aD rfl rfl (bP _)).trans (bI ((aD rfl rfl (iE _)).trans (bI ((aD rfl rfl (fO _)).trans (bI (cH (fW _)))))))))
theorem By (s:xU):(kX s)[409]? = some (s.table.jQ):=(aG rfl (bC _)).trans ((aG rfl (bP _)).trans ((aG rfl (iE _)).trans ((aG rfl (fO _)).trans ((eH (by rw[fW];decide)).trans (Cv _)))))
theorem EE (s:xU):rd (kX s) 410 34=dD s.verdict:=(aY rfl (bC _)).trans ((aY rfl (bP _)).trans ((aY rfl (iE _)).trans ((aY rfl (fO _)).trans ((aY rfl (fW _)).trans (gH (lX _))))))
theorem EF (s:xU) (x:gO):dG (kX s) 410 (dD x) 444=kX { s with verdict:=x }:=(aD rfl rfl (bC _)).trans (bI ((aD rfl rfl (bP _)).trans (bI ((aD rfl rfl (iE _)).trans (bI ((aD rfl rfl (fO _)).trans (bI ((aD rfl rfl (fW _)).trans (bI (cH (lX _)))))))))))
theorem HE (s:xU):(kX s)[444]? = some (.v (.int .i64 s.write)):=(aG rfl (bC _)).trans ((aG rfl (bP _)).trans ((aG rfl (iE _)).trans ((aG rfl (fO _)).trans ((aG rfl (fW _)).trans ((aG rfl (lX _)).trans (rfl))))))
theorem OH (s:xU) (x:Int):dG (kX s) 444 ([.v (.int .i64 x)]) 445=kX { s with write:=x }:=(aD rfl rfl (bC _)).trans (bI ((aD rfl rfl (bP _)).trans (bI ((aD rfl rfl (iE _)).trans (bI ((aD rfl rfl (fO _)).trans (bI ((aD rfl rfl (fW _)).trans (bI ((aD rfl rfl (lX _)).trans (bI (cH (bC _)))))))))))))
theorem OI (s:xU):(kX s)[445]? = some (.v (.int .i64 s.pY)):=(aG rfl (bC _)).trans ((aG rfl (bP _)).trans ((aG rfl (iE _)).trans ((aG rfl (fO _)).trans ((aG rfl (fW _)).trans ((aG rfl (lX _)).trans ((aG rfl (bC _)).trans (rfl)))))))
theorem VI (s:xU) (x:Int):dG (kX s) 445 ([.v (.int .i64 x)]) 446=kX { s with pY:=x }:=(aD rfl rfl (bC _)).trans (bI ((aD rfl rfl (bP _)).trans (bI ((aD rfl rfl (iE _)).trans (bI ((aD rfl rfl (fO _)).trans (bI ((aD rfl rfl (fW _)).trans (bI ((aD rfl rfl (lX _)).trans (bI ((aD rfl rfl (bC _)).trans (bI (eG (bC _)))))))))))))))
def Ao:xU:=⟨0,fV,Ma,Vf,iW,DE,0,0⟩
def aFA:List Value:=[.int .i64 0]++(Uu++(aCT++(Fg++(DJ++(Ee++([.int .i64 0]++([.int .i64 0])))))))
theorem aCU:aFA.map AV.v=kX Ao:=by simp only[aFA,List.map_append,List.map_cons,List.map_nil,jM,jN,Sa,u9,Jx,DK,Pa];rfl
theorem z4 (s:xU):rd (kX s) 0 446=kX s:=iZ (ED _)
theorem z5 (s x:xU):dG (kX s) 0 (kX x) 446=kX x:=eG (ED _)
def cP (l:List kO):List AV:=l.flatMap jR
@[simp] theorem z6 (l:List (kO)):(cP l).length=l.length * 34:=by
 induction l with
 | nil=>rfl
 | cons x l ih=>simp only[cP,List.flatMap_cons,List.length_append,sI,List.length_cons] at *;omega
theorem nG (l:List (kO)):∀x∈cP l,Flat x:=by
 intro x hx;obtain⟨y,_,hy⟩:=List.mem_flatMap.1 hx
 exact u6 y x hy
def dE (l:List sP):List AV:=l.flatMap gZ
@[simp] theorem aLR (l:List (sP)):(dE l).length=l.length * 67:=by
 induction l with
 | nil=>rfl
 | cons x l ih=>simp only[dE,List.flatMap_cons,List.length_append,iE,List.length_cons] at *;omega
theorem tL (l:List (sP)) (h:∀y∈l,Flat y.eU):∀x∈dE l,Flat x:=by
 intro x hx;obtain⟨y,hm,hy⟩:=List.mem_flatMap.1 hx
 exact Tf y (h y hm) x hy
def aR (l:List Table):List AV:=l.flatMap cF
@[simp] theorem aHA (l:List (Table)):(aR l).length=l.length * 34:=by
 induction l with
 | nil=>rfl
 | cons x l ih=>simp only[aR,List.flatMap_cons,List.length_append,fW,List.length_cons] at *;omega
theorem lR (l:List (Table)) (h:∀y∈l,Flat y.jQ):∀x∈aR l,Flat x:=by
 intro x hx;obtain⟨y,hm,hy⟩:=List.mem_flatMap.1 hx
 exact Iv y (h y hm) x hy
def aA (l:List Request):List AV:=l.flatMap bA
@[simp] theorem Mv (l:List (Request)):(aA l).length=l.length * 35:=by
 induction l with
 | nil=>rfl
 | cons x l ih=>simp only[aA,List.flatMap_cons,List.length_append,fZ,List.length_cons] at *;omega
theorem fF (l:List (Request)):∀x∈aA l,Flat x:=by
 intro x hx;obtain⟨y,_,hy⟩:=List.mem_flatMap.1 hx
 exact fN y x hy
end Go.Ab
end
