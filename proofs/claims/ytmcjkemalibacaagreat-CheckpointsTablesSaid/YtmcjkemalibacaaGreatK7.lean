/-
  Part 7 of the proof: an evaluator of programs, its soundness, and what functions of this program compute.
-/
import Derived.Test.YtmcjkemalibacaaGreatK6
set_option linter.all false
set_option maxRecDepth 20000
set_option maxHeartbeats 40000000
section
namespace Go.Ab
open Classical
variable [Ext]
noncomputable def Ua (st:St) (cs:List AV):Option (List AV):=cM (cs.map (cN st))
theorem wI (st:St) (a b:List AV):Ua st (a++b)=cS (Ua st a) fun x=>cS (Ua st b) fun y=>some (x++y):=by
 unfold Ua;induction a with
 | nil=>simp[cM,cS];cases cM (b.map (cN st))<;>rfl
 | cons c a ih =>
   simp only[List.cons_append,List.map_cons];cases cN st c with
   | none=>rfl
   | some c' =>
     simp only[cM,ih];cases cM (a.map (cN st)) with
     | none=>rfl
     | some a' =>
       simp only[cS,Option.map_some];cases cM (b.map (cN st))<;>rfl
theorem yK (st:St) (x:AV):Ua st [x]=cS (cN st x) fun y=>some [y]:=by
 unfold Ua;simp only[List.map_cons,List.map_nil];cases cN st x<;>rfl
theorem lF {st:St} {cs:List AV} (h:∀c∈cs,Flat c):Ua st cs=some cs:=by
 unfold Ua;induction cs with
 | nil=>rfl
 | cons c cs ih =>
   simp only[List.map_cons,cV (h c (by simp)),cM,ih fun x hx=>h x (by simp[hx]),Option.map_some]
theorem bQ (st:St) (cs:List AV):fO st (.agg cs)=cS (Ua st cs) fun x=>some (.agg x):=by
 unfold fO;by_cases h:Flat (.agg cs)
 ·rw[if_pos h];have h':∀c∈cs,Flat c:=by cases h with|agg _ h=>exact h
  rw[lF h'];rfl
 ·rw[if_neg h];simp only[Ua];cases cM (cs.map (cN st))<;>rfl
def ov {α:Type} (c:List α→List AV):Option (List α)→AV
 | none=>.v (.slice none 0 0)
 | some l=>.sl l.length (c l)
def ol {α:Type} (o:Option (List α)):List α:=o.getD []
theorem Vi {α:Type} (l:List α):ol (some l)=l:=rfl
theorem aDN {α:Type}:ol (none:Option (List α))=[]:=rfl
def gx {α:Type} (z:α) (l:List α) (i:Int):α:=l.getD i.toNat z
theorem XK {α:Type} {z:α} {l:List α} {i:Int} (h0:0≤i) (h1:i<l.length):∃h:i.toNat<l.length,gx z l i=l[i.toNat]:=by
 have h:i.toNat<l.length:=by omega
 exact⟨h,by simp[gx,h]⟩
theorem pF {α:Type} {z:α} {l:List α} {i:Int} (h0:0≤i) (h1:i<l.length):gx z l i∈l:=by
 obtain⟨h,e⟩:=XK (z:=z) h0 h1
 rw[e];exact List.getElem_mem h
def pG (l:List dP):List AV:=l.flatMap aY
@[simp] theorem Wx (l:List (dP)):(pG l).length=l.length * 33:=by
 induction l with
 | nil=>rfl
 | cons x l ih=>simp only[pG,List.flatMap_cons,List.length_append,bU,List.length_cons] at *;omega
def aF (l:List Block):List AV:=l.flatMap aV
@[simp] theorem oW (l:List (Block)):(aF l).length=l.length * 238:=by
 induction l with
 | nil=>rfl
 | cons x l ih=>simp only[aF,List.flatMap_cons,List.length_append,bR,List.length_cons] at *;omega
theorem lA (l:List (Block)):∀x∈aF l,Flat x:=by
 intro x hx;obtain⟨y,_,hy⟩:=List.mem_flatMap.1 hx
 exact Bp y x hy
def mT (l:List Bool):List AV:=l.flatMap uY
@[simp] theorem aHF (l:List (Bool)):(mT l).length=l.length * 1:=by
 induction l with
 | nil=>rfl
 | cons x l ih=>simp only[mT,List.flatMap_cons,List.length_append,iA,List.length_cons] at *;omega
theorem Sy (l:List (Bool)):∀x∈mT l,Flat x:=by
 intro x hx;obtain⟨y,_,hy⟩:=List.mem_flatMap.1 hx
 exact sZ y x hy
structure xS where
 tag:Int
def mP (s:xS):List AV:=lI s.tag
@[simp] theorem gX (s:xS):(mP s).length=1:=by simp[mP]
theorem Pl (s:xS):∀x∈mP s,Flat x:=by
 intro x hx;simp only[mP,List.mem_append,List.mem_singleton] at hx;(exact eC _ _ hx)
theorem Aa (s:xS):(mP s)[0]? = some (.v (.int .u64 s.tag)):=rfl
theorem Ko (s:xS) (x:Int):dQ (mP s) 0 ([.v (.int .u64 x)]) 1=mP { s with tag:=x }:=eK (bB _)
def Vn:xS:=⟨0⟩
def Jm:List Value:=[.int .u64 0]
theorem Jn:Jm.map AV.v=mP Vn:=by simp only[Jm,List.map_append,List.map_cons,List.map_nil,jL,jM];rfl
def p7:List Bool:=[true]
theorem JH (a b:xS):iS p7 (mP a) (mP b):=(show iS [true] [_] [_] from ⟨rfl,trivial⟩)
theorem QV (a b:xS):mP a=mP b↔a=b:=by
 refine⟨fun h=>?_,fun h=>by rw[h]⟩
 cases a;cases b
 simp only[mP] at h;have e0:=(Hz _ _).1 h
 subst e0;rfl
structure gV where
 tagged:xS
 kind:Int
 eA:cJ
def dJ (s:gV):List AV:=mP s.tagged++(qS s.kind++(bD s.eA))
@[simp] theorem mA (s:gV):(dJ s).length=34:=by simp[dJ]
theorem jP (s:gV):∀x∈dJ s,Flat x:=by
 intro x hx;simp only[dJ,List.mem_append,List.mem_singleton] at hx;rcases hx with hx|hx|hx
 ·(exact Pl _ _ hx)
 ·(exact mE _ _ hx)
 ·(exact dT _ _ hx)
theorem Pm (s:gV) (x:xS):dQ (dJ s) 0 (mP x) 1=dJ { s with tagged:=x }:=cI (gX _)
theorem Fc (s:gV):(dJ s)[0]? = some (.v (.int .u64 s.tagged.tag)):=(eN (by rw[gX];decide)).trans (Aa _)
theorem Ge (s:gV) (x:Int):dQ (dJ s) 0 ([.v (.int .u64 x)]) 1=dJ { s with tagged:={ s.tagged with tag:=x }}:=(uZ (by rw[gX];decide)).trans (Gc (Ko _ x))
theorem Rv (s:gV):(dJ s)[1]? = some (.v (.int .i64 s.kind)):=(aJ rfl (gX _)).trans (rfl)
theorem Uk (s:gV) (x:Int):dQ (dJ s) 1 ([.v (.int .i64 x)]) 2=dJ { s with kind:=x }:=(aD rfl rfl (gX _)).trans (bO (cI (bI _)))
theorem Pn (s:gV):rd (dJ s) 2 32=bD s.eA:=(bF rfl (gX _)).trans ((bF rfl (bI _)).trans (jA (aO _)))
theorem Po (s:gV) (x:cJ):dQ (dJ s) 2 (bD x) 34=dJ { s with eA:=x }:=(aD rfl rfl (gX _)).trans (bO ((aD rfl rfl (bI _)).trans (bO (eK (aO _)))))
def Zo:gV:=⟨Vn,0,dR⟩
def Dh:List Value:=Jm++([.int .i64 0]++(tJ))
theorem Me:Dh.map AV.v=dJ Zo:=by simp only[Dh,List.map_append,List.map_cons,List.map_nil,jL,jM,Jn];rfl
def QW:List Bool:=p7++([true]++(Ia))
theorem CQ (a b:gV):iS QW (dJ a) (dJ b):=(fV (JH _ _) (fV (show iS [true] [_] [_] from ⟨rfl,trivial⟩) (nP _ _)))
theorem JI (a b:gV):dJ a=dJ b↔a=b:=by
 refine⟨fun h=>?_,fun h=>by rw[h]⟩
 cases a;cases b
 simp only[dJ] at h;obtain⟨h0,h⟩:=List.append_inj h (by simp)
 obtain⟨h1,h⟩:=List.append_inj h (by simp)
 have e0:=(QV _ _).1 h0
 have e1:=(xC _ _).1 h1
 have e2:=(pY _ _).1 h
 subst e0 e1 e2;rfl
theorem Zp (s:gV):rd (dJ s) 0 34=dJ s:=jA (mA _)
theorem Zq (s x:gV):dQ (dJ s) 0 (dJ x) 34=dJ x:=eK (mA _)
structure lD where
 sF:Int
 wQ:Int
 qD:Int
 qC:Int
 oI:Int
 rL:Int
def fP (s:lD):List AV:=qS s.sF++(qS s.wQ++(qS s.qD++(qS s.qC++(qS s.oI++(lI s.rL)))))
@[simp] theorem gA (s:lD):(fP s).length=6:=by simp[fP]
theorem uM (s:lD):∀x∈fP s,Flat x:=by
 intro x hx;simp only[fP,List.mem_append,List.mem_singleton] at hx;rcases hx with hx|hx|hx|hx|hx|hx
 ·(exact mE _ _ hx)
 ·(exact mE _ _ hx)
 ·(exact mE _ _ hx)
 ·(exact mE _ _ hx)
 ·(exact mE _ _ hx)
 ·(exact eC _ _ hx)
theorem Ds (s:lD):(fP s)[0]? = some (.v (.int .i64 s.sF)):=rfl
theorem Ul (s:lD) (x:Int):dQ (fP s) 0 ([.v (.int .i64 x)]) 1=fP { s with sF:=x }:=cI (bI _)
theorem Dt (s:lD):(fP s)[1]? = some (.v (.int .i64 s.wQ)):=(aJ rfl (bI _)).trans (rfl)
theorem Um (s:lD) (x:Int):dQ (fP s) 1 ([.v (.int .i64 x)]) 2=fP { s with wQ:=x }:=(aD rfl rfl (bI _)).trans (bO (cI (bI _)))
theorem Br (s:lD):(fP s)[2]? = some (.v (.int .i64 s.qD)):=(aJ rfl (bI _)).trans ((aJ rfl (bI _)).trans (rfl))
theorem Rw (s:lD) (x:Int):dQ (fP s) 2 ([.v (.int .i64 x)]) 3=fP { s with qD:=x }:=(aD rfl rfl (bI _)).trans (bO ((aD rfl rfl (bI _)).trans (bO (cI (bI _)))))
theorem Bs (s:lD):(fP s)[3]? = some (.v (.int .i64 s.qC)):=(aJ rfl (bI _)).trans ((aJ rfl (bI _)).trans ((aJ rfl (bI _)).trans (rfl)))
theorem Rx (s:lD) (x:Int):dQ (fP s) 3 ([.v (.int .i64 x)]) 4=fP { s with qC:=x }:=(aD rfl rfl (bI _)).trans (bO ((aD rfl rfl (bI _)).trans (bO ((aD rfl rfl (bI _)).trans (bO (cI (bI _)))))))
theorem Bt (s:lD):(fP s)[4]? = some (.v (.int .i64 s.oI)):=(aJ rfl (bI _)).trans ((aJ rfl (bI _)).trans ((aJ rfl (bI _)).trans ((aJ rfl (bI _)).trans (rfl))))
theorem Ry (s:lD) (x:Int):dQ (fP s) 4 ([.v (.int .i64 x)]) 5=fP { s with oI:=x }:=(aD rfl rfl (bI _)).trans (bO ((aD rfl rfl (bI _)).trans (bO ((aD rfl rfl (bI _)).trans (bO ((aD rfl rfl (bI _)).trans (bO (cI (bI _)))))))))
theorem Ac (s:lD):(fP s)[5]? = some (.v (.int .u64 s.rL)):=(aJ rfl (bI _)).trans ((aJ rfl (bI _)).trans ((aJ rfl (bI _)).trans ((aJ rfl (bI _)).trans ((aJ rfl (bI _)).trans (rfl)))))
theorem Pp (s:lD) (x:Int):dQ (fP s) 5 ([.v (.int .u64 x)]) 6=fP { s with rL:=x }:=(aD rfl rfl (bI _)).trans (bO ((aD rfl rfl (bI _)).trans (bO ((aD rfl rfl (bI _)).trans (bO ((aD rfl rfl (bI _)).trans (bO ((aD rfl rfl (bI _)).trans (bO (eK (bB _)))))))))))
def JJ:lD:=⟨0,0,0,0,0,0⟩
def Pq:List Value:=[.int .i64 0]++([.int .i64 0]++([.int .i64 0]++([.int .i64 0]++([.int .i64 0]++([.int .u64 0])))))
theorem Rz:Pq.map AV.v=fP JJ:=by simp only[Pq,List.map_append,List.map_cons,List.map_nil,jL,jM];rfl
def p8:List Bool:=[true]++([true]++([true]++([true]++([true]++([true])))))
theorem JK (a b:lD):iS p8 (fP a) (fP b):=(fV (show iS [true] [_] [_] from ⟨rfl,trivial⟩) (fV (show iS [true] [_] [_] from ⟨rfl,trivial⟩) (fV (show iS [true] [_] [_] from ⟨rfl,trivial⟩) (fV (show iS [true] [_] [_] from ⟨rfl,trivial⟩) (fV (show iS [true] [_] [_] from ⟨rfl,trivial⟩) (show iS [true] [_] [_] from ⟨rfl,trivial⟩))))))
theorem QX (a b:lD):fP a=fP b↔a=b:=by
 refine⟨fun h=>?_,fun h=>by rw[h]⟩
 cases a;cases b
 simp only[fP] at h;obtain⟨h0,h⟩:=List.append_inj h (by simp)
 obtain⟨h1,h⟩:=List.append_inj h (by simp)
 obtain⟨h2,h⟩:=List.append_inj h (by simp)
 obtain⟨h3,h⟩:=List.append_inj h (by simp)
 obtain⟨h4,h⟩:=List.append_inj h (by simp)
 have e0:=(xC _ _).1 h0
 have e1:=(xC _ _).1 h1
 have e2:=(xC _ _).1 h2
 have e3:=(xC _ _).1 h3
 have e4:=(xC _ _).1 h4
 have e5:=(Hz _ _).1 h
 subst e0 e1 e2 e3 e4 e5;rfl
structure Config where
 lG:lD
 kE:Int
 He:Int
 BG:qN
 cW:cJ
 iP:AV
def bV (s:Config):List AV:=fP s.lG++(lI s.kE++(lI s.He++(gI s.BG++(bD s.cW++([s.iP])))))
@[simp] theorem bT (s:Config):(bV s).length=45:=by simp[bV]
theorem tY (s:Config) (h0:Flat s.iP):∀x∈bV s,Flat x:=by
 intro x hx;simp only[bV,List.mem_append,List.mem_singleton] at hx;rcases hx with hx|hx|hx|hx|hx|hx
 ·(exact uM _ _ hx)
 ·(exact eC _ _ hx)
 ·(exact eC _ _ hx)
 ·(exact iQ _ _ hx)
 ·(exact dT _ _ hx)
 ·(subst hx;assumption)
theorem CR (s:Config):rd (bV s) 0 6=fP s.lG:=gK (gA _)
theorem CS (s:Config) (x:lD):dQ (bV s) 0 (fP x) 6=bV { s with lG:=x }:=cI (gA _)
theorem xD (s:Config):(bV s)[0]? = some (.v (.int .i64 s.lG.sF)):=(eN (by rw[gA];decide)).trans (Ds _)
theorem xE (s:Config):(bV s)[1]? = some (.v (.int .i64 s.lG.wQ)):=(eN (by rw[gA];decide)).trans (Dt _)
theorem vA (s:Config):(bV s)[2]? = some (.v (.int .i64 s.lG.qD)):=(eN (by rw[gA];decide)).trans (Br _)
theorem vB (s:Config):(bV s)[3]? = some (.v (.int .i64 s.lG.qC)):=(eN (by rw[gA];decide)).trans (Bs _)
theorem vC (s:Config):(bV s)[4]? = some (.v (.int .i64 s.lG.oI)):=(eN (by rw[gA];decide)).trans (Bt _)
theorem uP (s:Config):(bV s)[5]? = some (.v (.int .u64 s.lG.rL)):=(eN (by rw[gA];decide)).trans (Ac _)
theorem Ig (s:Config):(bV s)[6]? = some (.v (.int .u64 s.kE)):=(aJ rfl (gA _)).trans (rfl)
theorem CT (s:Config) (x:Int):dQ (bV s) 6 ([.v (.int .u64 x)]) 7=bV { s with kE:=x }:=(aD rfl rfl (gA _)).trans (bO (cI (bB _)))
theorem Ps (s:Config):(bV s)[7]? = some (.v (.int .u64 s.He)):=(aJ rfl (gA _)).trans ((aJ rfl (bB _)).trans (rfl))
theorem Sa (s:Config) (x:Int):dQ (bV s) 7 ([.v (.int .u64 x)]) 8=bV { s with He:=x }:=(aD rfl rfl (gA _)).trans (bO ((aD rfl rfl (bB _)).trans (bO (cI (bB _)))))
theorem Kp (s:Config):rd (bV s) 8 4=gI s.BG:=(bF rfl (gA _)).trans ((bF rfl (bB _)).trans ((bF rfl (bB _)).trans (gK (dZ _))))
theorem CU (s:Config) (x:qN):dQ (bV s) 8 (gI x) 12=bV { s with BG:=x }:=(aD rfl rfl (gA _)).trans (bO ((aD rfl rfl (bB _)).trans (bO ((aD rfl rfl (bB _)).trans (bO (cI (dZ _)))))))
theorem Pt (s:Config):rd (bV s) 12 32=bD s.cW:=(bF rfl (gA _)).trans ((bF rfl (bB _)).trans ((bF rfl (bB _)).trans ((bF rfl (dZ _)).trans (gK (aO _)))))
theorem Pu (s:Config) (x:cJ):dQ (bV s) 12 (bD x) 44=bV { s with cW:=x }:=(aD rfl rfl (gA _)).trans (bO ((aD rfl rfl (bB _)).trans (bO ((aD rfl rfl (bB _)).trans (bO ((aD rfl rfl (dZ _)).trans (bO (cI (aO _)))))))))
theorem zG (s:Config):(bV s)[44]? = some (s.iP):=(aJ rfl (gA _)).trans ((aJ rfl (bB _)).trans ((aJ rfl (bB _)).trans ((aJ rfl (dZ _)).trans ((aJ rfl (aO _)).trans (rfl)))))
theorem Kq (s:Config) (x:AV):dQ (bV s) 44 ([x]) 45=bV { s with iP:=x }:=(aD rfl rfl (gA _)).trans (bO ((aD rfl rfl (bB _)).trans (bO ((aD rfl rfl (bB _)).trans (bO ((aD rfl rfl (dZ _)).trans (bO ((aD rfl rfl (aO _)).trans (bO (eK rfl))))))))))
def mO:Config:=⟨JJ,0,0,FV,dR,(.v (.slice none 0 0))⟩
def Pv:List Value:=Pq++([.int .u64 0]++([.int .u64 0]++(Zh++(tJ++([.slice none 0 0])))))
theorem Sb:Pv.map AV.v=bV mO:=by simp only[Pv,List.map_append,List.map_cons,List.map_nil,jL,jM,Rz];rfl
theorem Lq (st:St) (s:Config):Ua st (bV s)=cS (cN st s.iP) fun aA0=>some (bV { s with iP:=aA0 }):=by
 simp only[bV,wI,lF (uM _),lF (eC _),lF (iQ _),lF (dT _),yK,oR,cK]
theorem CV (s:Config):rd (bV s) 0 45=bV s:=jA (bT _)
theorem CW (s x:Config):dQ (bV s) 0 (bV x) 45=bV x:=eK (bT _)
structure kN where
 has:Bool
 aG:Int
 root:cJ
def jN (s:kN):List AV:=uY s.has++(lI s.aG++(bD s.root))
@[simp] theorem rR (s:kN):(jN s).length=34:=by simp[jN]
theorem XL (s:kN):∀x∈jN s,Flat x:=by
 intro x hx;simp only[jN,List.mem_append,List.mem_singleton] at hx;rcases hx with hx|hx|hx
 ·(exact sZ _ _ hx)
 ·(exact eC _ _ hx)
 ·(exact dT _ _ hx)
theorem JL (s:kN):(jN s)[0]? = some (.v (.bool s.has)):=rfl
theorem QY (s:kN) (x:Bool):dQ (jN s) 0 ([.v (.bool x)]) 1=jN { s with has:=x }:=cI (iA _)
theorem Zr (s:kN):(jN s)[1]? = some (.v (.int .u64 s.aG)):=(aJ rfl (iA _)).trans (rfl)
theorem CX (s:kN) (x:Int):dQ (jN s) 1 ([.v (.int .u64 x)]) 2=jN { s with aG:=x }:=(aD rfl rfl (iA _)).trans (bO (cI (bB _)))
theorem JM (s:kN):rd (jN s) 2 32=bD s.root:=(bF rfl (iA _)).trans ((bF rfl (bB _)).trans (jA (aO _)))
theorem JN (s:kN) (x:cJ):dQ (jN s) 2 (bD x) 34=jN { s with root:=x }:=(aD rfl rfl (iA _)).trans (bO ((aD rfl rfl (bB _)).trans (bO (eK (aO _)))))
def tI:kN:=⟨false,0,dR⟩
def p9:List Value:=[.bool false]++([.int .u64 0]++(tJ))
theorem r7:p9.map AV.v=jN tI:=by simp only[p9,List.map_append,List.map_cons,List.map_nil,jL,jM];rfl
def aFJ:List Bool:=[false]++([true]++(Ia))
theorem XM (a b:kN):iS aFJ (jN a) (jN b):=(fV (show iS [false] [_] [_] from trivial) (fV (show iS [true] [_] [_] from ⟨rfl,trivial⟩) (nP _ _)))
theorem I5 (a b:kN):jN a=jN b↔a=b:=by
 refine⟨fun h=>?_,fun h=>by rw[h]⟩
 cases a;cases b
 simp only[jN] at h;obtain⟨h0,h⟩:=List.append_inj h (by simp)
 obtain⟨h1,h⟩:=List.append_inj h (by simp)
 have e0:=(FU _ _).1 h0
 have e1:=(Hz _ _).1 h1
 have e2:=(pY _ _).1 h
 subst e0 e1 e2;rfl
theorem QZ (s:kN):rd (jN s) 0 34=jN s:=jA (rR _)
theorem RA (s x:kN):dQ (jN s) 0 (jN x) 34=jN x:=eK (rR _)
structure sC where
 slot:Int
 root:cJ
 target:dP
 eU:AV
def iB (s:sC):List AV:=lI s.slot++(bD s.root++(aY s.target++([s.eU])))
@[simp] theorem iH (s:sC):(iB s).length=67:=by simp[iB]
theorem Qk (s:sC) (h0:Flat s.eU):∀x∈iB s,Flat x:=by
 intro x hx;simp only[iB,List.mem_append,List.mem_singleton] at hx;rcases hx with hx|hx|hx|hx
 ·(exact eC _ _ hx)
 ·(exact dT _ _ hx)
 ·(exact bM _ _ hx)
 ·(subst hx;assumption)
theorem JO (s:sC):(iB s)[0]? = some (.v (.int .u64 s.slot)):=rfl
theorem RC (s:sC) (x:Int):dQ (iB s) 0 ([.v (.int .u64 x)]) 1=iB { s with slot:=x }:=cI (bB _)
theorem RE (s:sC):rd (iB s) 1 32=bD s.root:=(bF rfl (bB _)).trans (gK (aO _))
theorem RF (s:sC) (x:cJ):dQ (iB s) 1 (bD x) 33=iB { s with root:=x }:=(aD rfl rfl (bB _)).trans (bO (cI (aO _)))
theorem CY (s:sC):rd (iB s) 33 33=aY s.target:=(bF rfl (bB _)).trans ((bF rfl (aO _)).trans (gK (bU _)))
theorem CZ (s:sC) (x:dP):dQ (iB s) 33 (aY x) 66=iB { s with target:=x }:=(aD rfl rfl (bB _)).trans (bO ((aD rfl rfl (aO _)).trans (bO (cI (bU _)))))
theorem Ih (s:sC):(iB s)[33]? = some (.v (.int .u64 s.target.aG)):=(aJ rfl (bB _)).trans ((aJ rfl (aO _)).trans ((eN (by rw[bU];decide)).trans (jZ _)))
theorem Jx (s:sC) (x:Int):dQ (iB s) 33 ([.v (.int .u64 x)]) 34=iB { s with target:={ s.target with aG:=x }}:=(aD rfl rfl (bB _)).trans (bO ((aD rfl rfl (aO _)).trans (bO ((uZ (by rw[bU];decide)).trans (Gc (Cj _ x))))))
theorem Mf (s:sC):rd (iB s) 34 32=bD s.target.root:=(bF rfl (bB _)).trans ((bF rfl (aO _)).trans ((sJ (by rw[bU];decide)).trans (uN _)))
theorem Mg (s:sC) (x:cJ):dQ (iB s) 34 (bD x) 66=iB { s with target:={ s.target with root:=x }}:=(aD rfl rfl (bB _)).trans (bO ((aD rfl rfl (aO _)).trans (bO ((uZ (by rw[bU];decide)).trans (Gc (Fb _ x))))))
theorem Eh (s:sC):(iB s)[66]? = some (s.eU):=(aJ rfl (bB _)).trans ((aJ rfl (aO _)).trans ((aJ rfl (bU _)).trans (rfl)))
theorem RH (s:sC) (x:AV):dQ (iB s) 66 ([x]) 67=iB { s with eU:=x }:=(aD rfl rfl (bB _)).trans (bO ((aD rfl rfl (aO _)).trans (bO ((aD rfl rfl (bU _)).trans (bO (eK rfl))))))
def Hk:sC:=⟨0,dR,gN,(.v (.slice none 0 0))⟩
def aA1:List Value:=[.int .u64 0]++(tJ++(zL++([.slice none 0 0])))
theorem XN:aA1.map AV.v=iB Hk:=by simp only[aA1,List.map_append,List.map_cons,List.map_nil,jL,jM,Be];rfl
theorem lX (st:St) (s:sC):Ua st (iB s)=cS (cN st s.eU) fun XO=>some (iB { s with eU:=XO }):=by
 simp only[iB,wI,lF (eC _),lF (dT _),lF (bM _),yK,oR,cK]
theorem XP (s:sC):rd (iB s) 0 67=iB s:=jA (iH _)
theorem XQ (s x:sC):dQ (iB s) 0 (iB x) 67=iB x:=eK (iH _)
structure Claim where
 source:Int
 target:Int
 root:cJ
 eU:AV
def gU (s:Claim):List AV:=lI s.source++(lI s.target++(bD s.root++([s.eU])))
@[simp] theorem iR (s:Claim):(gU s).length=35:=by simp[gU]
theorem Gy (s:Claim) (h0:Flat s.eU):∀x∈gU s,Flat x:=by
 intro x hx;simp only[gU,List.mem_append,List.mem_singleton] at hx;rcases hx with hx|hx|hx|hx
 ·(exact eC _ _ hx)
 ·(exact eC _ _ hx)
 ·(exact dT _ _ hx)
 ·(subst hx;assumption)
theorem vZ (s:Claim):(gU s)[0]? = some (.v (.int .u64 s.source)):=rfl
theorem Fp (s:Claim) (x:Int):dQ (gU s) 0 ([.v (.int .u64 x)]) 1=gU { s with source:=x }:=cI (bB _)
theorem wA (s:Claim):(gU s)[1]? = some (.v (.int .u64 s.target)):=(aJ rfl (bB _)).trans (rfl)
theorem Fq (s:Claim) (x:Int):dQ (gU s) 1 ([.v (.int .u64 x)]) 2=gU { s with target:=x }:=(aD rfl rfl (bB _)).trans (bO (cI (bB _)))
theorem DA (s:Claim):rd (gU s) 2 32=bD s.root:=(bF rfl (bB _)).trans ((bF rfl (bB _)).trans (gK (aO _)))
theorem Kr (s:Claim) (x:cJ):dQ (gU s) 2 (bD x) 34=gU { s with root:=x }:=(aD rfl rfl (bB _)).trans (bO ((aD rfl rfl (bB _)).trans (bO (cI (aO _)))))
theorem uB (s:Claim):(gU s)[34]? = some (s.eU):=(aJ rfl (bB _)).trans ((aJ rfl (bB _)).trans ((aJ rfl (aO _)).trans (rfl)))
theorem DB (s:Claim) (x:AV):dQ (gU s) 34 ([x]) 35=gU { s with eU:=x }:=(aD rfl rfl (bB _)).trans (bO ((aD rfl rfl (bB _)).trans (bO ((aD rfl rfl (aO _)).trans (bO (eK rfl))))))
def JP:Claim:=⟨0,0,dR,(.v (.slice none 0 0))⟩
def Sc:List Value:=[.int .u64 0]++([.int .u64 0]++(tJ++([.slice none 0 0])))
theorem Zs:Sc.map AV.v=gU JP:=by simp only[Sc,List.map_append,List.map_cons,List.map_nil,jL,jM];rfl
theorem vS (st:St) (s:Claim):Ua st (gU s)=cS (cN st s.eU) fun XO=>some (gU { s with eU:=XO }):=by
 simp only[gU,wI,lF (eC _),lF (dT _),yK,oR,cK]
structure fW where
 first:Claim
 second:Claim
def cC (s:fW):List AV:=gU s.first++(gU s.second)
@[simp] theorem fN (s:fW):(cC s).length=70:=by simp[cC]
theorem Gz (s:fW) (h0:Flat s.first.eU) (h1:Flat s.second.eU):∀x∈cC s,Flat x:=by
 intro x hx;simp only[cC,List.mem_append,List.mem_singleton] at hx;rcases hx with hx|hx
 ·(exact Gy _ (by assumption) _ hx)
 ·(exact Gy _ (by assumption) _ hx)
theorem Pw (s:fW):rd (cC s) 0 35=gU s.first:=gK (iR _)
theorem Px (s:fW) (x:Claim):dQ (cC s) 0 (gU x) 35=cC { s with first:=x }:=cI (iR _)
theorem Ap (s:fW):(cC s)[0]? = some (.v (.int .u64 s.first.source)):=(eN (by rw[iR];decide)).trans (vZ _)
theorem Aq (s:fW):(cC s)[1]? = some (.v (.int .u64 s.first.target)):=(eN (by rw[iR];decide)).trans (wA _)
theorem oH (s:fW):(cC s)[34]? = some (s.first.eU):=(eN (by rw[iR];decide)).trans (uB _)
theorem Mh (s:fW):rd (cC s) 35 35=gU s.second:=(bF rfl (iR _)).trans (jA (iR _))
theorem Mi (s:fW) (x:Claim):dQ (cC s) 35 (gU x) 70=cC { s with second:=x }:=(aD rfl rfl (iR _)).trans (bO (eK (iR _)))
theorem Ad (s:fW):(cC s)[35]? = some (.v (.int .u64 s.second.source)):=(aJ rfl (iR _)).trans (vZ _)
theorem Ar (s:fW) (x:Int):dQ (cC s) 35 ([.v (.int .u64 x)]) 36=cC { s with second:={ s.second with source:=x }}:=(aD rfl rfl (iR _)).trans (bO (Fp _ x))
theorem Ae (s:fW):(cC s)[36]? = some (.v (.int .u64 s.second.target)):=(aJ rfl (iR _)).trans (wA _)
theorem As (s:fW) (x:Int):dQ (cC s) 36 ([.v (.int .u64 x)]) 37=cC { s with second:={ s.second with target:=x }}:=(aD rfl rfl (iR _)).trans (bO (Fq _ x))
theorem Du (s:fW) (x:cJ):dQ (cC s) 37 (bD x) 69=cC { s with second:={ s.second with root:=x }}:=(aD rfl rfl (iR _)).trans (bO (Kr _ x))
theorem nJ (s:fW):(cC s)[69]? = some (s.second.eU):=(aJ rfl (iR _)).trans (uB _)
def Sd:fW:=⟨JP,JP⟩
def Dv:List Value:=Sc++(Sc)
theorem Ii:Dv.map AV.v=cC Sd:=by simp only[Dv,List.map_append,List.map_cons,List.map_nil,jL,jM,Zs];rfl
theorem rO (st:St) (s:fW):Ua st (cC s)=cS (cN st s.first.eU) fun x_first_vals=>cS (cN st s.second.eU) fun x_second_vals=>some (cC { s with first:={ s.first with eU:=x_first_vals },second:={ s.second with eU:=x_second_vals }}):=by
 simp only[cC,wI,vS,oR,cK]
theorem Un (s:fW):rd (cC s) 0 70=cC s:=jA (fN _)
theorem Uo (s x:fW):dQ (cC s) 0 (cC x) 70=cC x:=eK (fN _)
structure Table where
 ck:dP
 iP:AV
def cA (s:Table):List AV:=aY s.ck++([s.iP])
@[simp] theorem eM (s:Table):(cA s).length=34:=by simp[cA]
theorem Ha (s:Table) (h0:Flat s.iP):∀x∈cA s,Flat x:=by
 intro x hx;simp only[cA,List.mem_append,List.mem_singleton] at hx;rcases hx with hx|hx
 ·(exact bM _ _ hx)
 ·(subst hx;assumption)
theorem RI (s:Table):rd (cA s) 0 33=aY s.ck:=gK (bU _)
theorem RJ (s:Table) (x:dP):dQ (cA s) 0 (aY x) 33=cA { s with ck:=x }:=cI (bU _)
theorem Mj (s:Table):(cA s)[0]? = some (.v (.int .u64 s.ck.aG)):=(eN (by rw[bU];decide)).trans (jZ _)
theorem Se (s:Table):rd (cA s) 1 32=bD s.ck.root:=(sJ (by rw[bU];decide)).trans (uN _)
theorem Cb (s:Table):(cA s)[33]? = some (s.iP):=(aJ rfl (bU _)).trans (rfl)
theorem JQ (s:Table) (x:AV):dQ (cA s) 33 ([x]) 34=cA { s with iP:=x }:=(aD rfl rfl (bU _)).trans (bO (eK rfl))
def dX:Table:=⟨gN,(.v (.slice none 0 0))⟩
def Ls:List Value:=zL++([.slice none 0 0])
theorem Zt:Ls.map AV.v=cA dX:=by simp only[Ls,List.map_append,List.map_cons,List.map_nil,jL,jM,Be];rfl
theorem tH (st:St) (s:Table):Ua st (cA s)=cS (cN st s.iP) fun aA0=>some (cA { s with iP:=aA0 }):=by
 simp only[cA,wI,lF (bM _),yK,oR,cK]
theorem JR (s:Table):rd (cA s) 0 34=cA s:=jA (eM _)
theorem JS (s x:Table):dQ (cA s) 0 (cA x) 34=cA x:=eK (eM _)
structure Request where
 tagged:xS
 block:cJ
 tries:Int
 due:Int
def dD (s:Request):List AV:=mP s.tagged++(bD s.block++(qS s.tries++(lI s.due)))
@[simp] theorem gQ (s:Request):(dD s).length=35:=by simp[dD]
theorem jO (s:Request):∀x∈dD s,Flat x:=by
 intro x hx;simp only[dD,List.mem_append,List.mem_singleton] at hx;rcases hx with hx|hx|hx|hx
 ·(exact Pl _ _ hx)
 ·(exact dT _ _ hx)
 ·(exact mE _ _ hx)
 ·(exact eC _ _ hx)
theorem Py (s:Request) (x:xS):dQ (dD s) 0 (mP x) 1=dD { s with tagged:=x }:=cI (gX _)
theorem Fe (s:Request):(dD s)[0]? = some (.v (.int .u64 s.tagged.tag)):=(eN (by rw[gX];decide)).trans (Aa _)
theorem Sf (s:Request):rd (dD s) 1 32=bD s.block:=(bF rfl (gX _)).trans (gK (aO _))
theorem Sg (s:Request) (x:cJ):dQ (dD s) 1 (bD x) 33=dD { s with block:=x }:=(aD rfl rfl (gX _)).trans (bO (cI (aO _)))
theorem Pz (s:Request):(dD s)[33]? = some (.v (.int .i64 s.tries)):=(aJ rfl (gX _)).trans ((aJ rfl (aO _)).trans (rfl))
theorem Sh (s:Request) (x:Int):dQ (dD s) 33 ([.v (.int .i64 x)]) 34=dD { s with tries:=x }:=(aD rfl rfl (gX _)).trans (bO ((aD rfl rfl (aO _)).trans (bO (cI (bI _)))))
theorem Up (s:Request):(dD s)[34]? = some (.v (.int .u64 s.due)):=(aJ rfl (gX _)).trans ((aJ rfl (aO _)).trans ((aJ rfl (bI _)).trans (rfl)))
theorem Zu (s:Request) (x:Int):dQ (dD s) 34 ([.v (.int .u64 x)]) 35=dD { s with due:=x }:=(aD rfl rfl (gX _)).trans (bO ((aD rfl rfl (aO _)).trans (bO ((aD rfl rfl (bI _)).trans (bO (eK (bB _)))))))
def cX:Request:=⟨Vn,dR,0,0⟩
def Qa:List Value:=Jm++(tJ++([.int .i64 0]++([.int .u64 0])))
theorem Zv:Qa.map AV.v=dD cX:=by simp only[Qa,List.map_append,List.map_cons,List.map_nil,jL,jM,Jn];rfl
theorem Zw (s:Request):rd (dD s) 0 35=dD s:=jA (gQ _)
theorem Zx (s x:Request):dQ (dD s) 0 (dD x) 35=dD x:=eK (gQ _)
structure Command where
 head:cJ
 safe:cJ
 fin:cJ
def eI (s:Command):List AV:=bD s.head++(bD s.safe++(bD s.fin))
@[simp] theorem nD (s:Command):(eI s).length=96:=by simp[eI]
theorem sG (s:Command):∀x∈eI s,Flat x:=by
 intro x hx;simp only[eI,List.mem_append,List.mem_singleton] at hx;rcases hx with hx|hx|hx
 ·(exact dT _ _ hx)
 ·(exact dT _ _ hx)
 ·(exact dT _ _ hx)
theorem Uq (s:Command) (x:cJ):dQ (eI s) 0 (bD x) 32=eI { s with head:=x }:=cI (aO _)
theorem Ur (s:Command) (x:cJ):dQ (eI s) 32 (bD x) 64=eI { s with safe:=x }:=(aD rfl rfl (aO _)).trans (bO (cI (aO _)))
theorem Zy (s:Command) (x:cJ):dQ (eI s) 64 (bD x) 96=eI { s with fin:=x }:=(aD rfl rfl (aO _)).trans (bO ((aD rfl rfl (aO _)).trans (bO (eK (aO _)))))
def Zz:Command:=⟨dR,dR,dR⟩
def Ij:List Value:=tJ++(tJ++(tJ))
theorem Mk:Ij.map AV.v=eI Zz:=by simp only[Ij,List.map_append,List.map_cons,List.map_nil,jL,jM];rfl
def RK:List Bool:=Ia++(Ia++(Ia))
theorem DC (a b:Command):iS RK (eI a) (eI b):=(fV (nP _ _) (fV (nP _ _) (nP _ _)))
theorem JT (a b:Command):eI a=eI b↔a=b:=by
 refine⟨fun h=>?_,fun h=>by rw[h]⟩
 cases a;cases b
 simp only[eI] at h;obtain⟨h0,h⟩:=List.append_inj h (by simp)
 obtain⟨h1,h⟩:=List.append_inj h (by simp)
 have e0:=(pY _ _).1 h0
 have e1:=(pY _ _).1 h1
 have e2:=(pY _ _).1 h
 subst e0 e1 e2;rfl
theorem AA (s:Command):rd (eI s) 0 96=eI s:=jA (nD _)
theorem AB (s x:Command):dQ (eI s) 0 (eI x) 96=eI x:=eK (nD _)
structure uW where
 eA:AV
 gW:AV
def fD (s:uW):List AV:=[s.eA]++([s.gW])
@[simp] theorem dG (s:uW):(fD s).length=2:=by simp[fD]
theorem qT (s:uW) (h0:Flat s.eA) (h1:Flat s.gW):∀x∈fD s,Flat x:=by
 intro x hx;simp only[fD,List.mem_append,List.mem_singleton] at hx;rcases hx with hx|hx
 ·(subst hx;assumption)
 ·(subst hx;assumption)
theorem vL (s:uW):(fD s)[0]? = some (s.eA):=rfl
theorem Fs (s:uW) (x:AV):dQ (fD s) 0 ([x]) 1=fD { s with eA:=x }:=cI rfl
theorem xK (s:uW):(fD s)[1]? = some (s.gW):=(aJ rfl rfl).trans (rfl)
theorem Ik (s:uW) (x:AV):dQ (fD s) 1 ([x]) 2=fD { s with gW:=x }:=(aD rfl rfl rfl).trans (bO (eK rfl))
def Lg:uW:=⟨(.v (.slice none 0 0)),(.v (.slice none 0 0))⟩
def AD:List Value:=[.slice none 0 0]++([.slice none 0 0])
theorem AE:AD.map AV.v=fD Lg:=by simp only[AD,List.map_append,List.map_cons,List.map_nil,jL,jM];rfl
theorem I6 (st:St) (s:uW):Ua st (fD s)=cS (cN st s.eA) fun x_latest=>cS (cN st s.gW) fun x_equiv=>some (fD { s with eA:=x_latest,gW:=x_equiv }):=by
 simp only[fD,wI,yK,oR,cK]
theorem JU (s:uW):rd (fD s) 0 2=fD s:=jA (dG _)
theorem JV (s x:uW):dQ (fD s) 0 (fD x) 2=fD x:=eK (dG _)
structure jY where
 gJ:dP
 fin:dP
def eP (s:jY):List AV:=aY s.gJ++(aY s.fin)
@[simp] theorem dB (s:jY):(eP s).length=66:=by simp[eP]
theorem lC (s:jY):∀x∈eP s,Flat x:=by
 intro x hx;simp only[eP,List.mem_append,List.mem_singleton] at hx;rcases hx with hx|hx
 ·(exact bM _ _ hx)
 ·(exact bM _ _ hx)
theorem Dw (s:jY):rd (eP s) 0 33=aY s.gJ:=gK (bU _)
theorem Dx (s:jY) (x:dP):dQ (eP s) 0 (aY x) 33=eP { s with gJ:=x }:=cI (bU _)
theorem tM (s:jY):(eP s)[0]? = some (.v (.int .u64 s.gJ.aG)):=(eN (by rw[bU];decide)).trans (jZ _)
theorem vD (s:jY):rd (eP s) 1 32=bD s.gJ.root:=(sJ (by rw[bU];decide)).trans (uN _)
theorem Ft (s:jY):rd (eP s) 33 33=aY s.fin:=(bF rfl (bU _)).trans (jA (bU _))
theorem Fu (s:jY) (x:dP):dQ (eP s) 33 (aY x) 66=eP { s with fin:=x }:=(aD rfl rfl (bU _)).trans (bO (eK (bU _)))
theorem uQ (s:jY):(eP s)[33]? = some (.v (.int .u64 s.fin.aG)):=(aJ rfl (bU _)).trans (jZ _)
theorem xF (s:jY):rd (eP s) 34 32=bD s.fin.root:=(bF rfl (bU _)).trans (uN _)
def Si:jY:=⟨gN,gN⟩
def Dy:List Value:=zL++(zL)
theorem Il:Dy.map AV.v=eP Si:=by simp only[Dy,List.map_append,List.map_cons,List.map_nil,jL,jM,Be];rfl
def FW:List Bool:=Tr++(Tr)
theorem AF (a b:jY):iS FW (eP a) (eP b):=(fV (tA _ _) (tA _ _))
theorem DD (a b:jY):eP a=eP b↔a=b:=by
 refine⟨fun h=>?_,fun h=>by rw[h]⟩
 cases a;cases b
 simp only[eP] at h;obtain⟨h0,h⟩:=List.append_inj h (by simp)
 have e0:=(mU _ _).1 h0
 have e1:=(mU _ _).1 h
 subst e0 e1;rfl
structure zH where
 early:AV
 bK:AV
def jU (s:zH):List AV:=[s.early]++([s.bK])
@[simp] theorem iI (s:zH):(jU s).length=2:=by simp[jU]
theorem Nk (s:zH) (h0:Flat s.early) (h1:Flat s.bK):∀x∈jU s,Flat x:=by
 intro x hx;simp only[jU,List.mem_append,List.mem_singleton] at hx;rcases hx with hx|hx
 ·(subst hx;assumption)
 ·(subst hx;assumption)
theorem vM (s:zH):(jU s)[0]? = some (s.early):=rfl
theorem Fv (s:zH) (x:AV):dQ (jU s) 0 ([x]) 1=jU { s with early:=x }:=cI rfl
theorem sT (s:zH):(jU s)[1]? = some (s.bK):=(aJ rfl rfl).trans (rfl)
theorem Bu (s:zH) (x:AV):dQ (jU s) 1 ([x]) 2=jU { s with bK:=x }:=(aD rfl rfl rfl).trans (bO (eK rfl))
def El:zH:=⟨(.v (.slice none 0 0)),(.v (.slice none 0 0))⟩
def Vo:List Value:=[.slice none 0 0]++([.slice none 0 0])
theorem FX:Vo.map AV.v=jU El:=by simp only[Vo,List.map_append,List.map_cons,List.map_nil,jL,jM];rfl
theorem XR (st:St) (s:zH):Ua st (jU s)=cS (cN st s.early) fun x_early=>cS (cN st s.bK) fun x_orphans=>some (jU { s with early:=x_early,bK:=x_orphans }):=by
 simp only[jU,wI,yK,oR,cK]
structure Fl where
 nodes:AV
def mS (s:Fl):List AV:=[s.nodes]
@[simp] theorem mM (s:Fl):(mS s).length=1:=by simp[mS]
theorem wO (s:Fl) (h0:Flat s.nodes):∀x∈mS s,Flat x:=by
 intro x hx;simp only[mS,List.mem_append,List.mem_singleton] at hx;(subst hx;assumption)
theorem xL (s:Fl):(mS s)[0]? = some (s.nodes):=rfl
theorem Im (s:Fl) (x:AV):dQ (mS s) 0 ([x]) 1=mS { s with nodes:=x }:=eK rfl
def Qo:Fl:=⟨(.v (.slice none 0 0))⟩
def XS:List Value:=[.slice none 0 0]
theorem RL:XS.map AV.v=mS Qo:=by simp only[XS,List.map_append,List.map_cons,List.map_nil,jL,jM];rfl
theorem I7 (st:St) (s:Fl):Ua st (mS s)=cS (cN st s.nodes) fun x_nodes=>some (mS { s with nodes:=x_nodes }):=by
 simp only[mS,wI,yK,oR,cK]
structure aL where
 cFg:Config
 gH:uW
 aU:jY
 cD:zH
 tree:Fl
 now:Int
 eR:cJ
 tables:AV
def aA (s:aL):List AV:=bV s.cFg++(fD s.gH++(eP s.aU++(jU s.cD++(mS s.tree++(lI s.now++(bD s.eR++([s.tables])))))))
@[simp] theorem dE (s:aL):(aA s).length=150:=by simp[aA]
theorem Sw (s:aL) (h0:Flat s.cFg.iP) (h1:Flat s.gH.eA) (h2:Flat s.gH.gW) (h3:Flat s.cD.early) (h4:Flat s.cD.bK) (h5:Flat s.tree.nodes) (h6:Flat s.tables):∀x∈aA s,Flat x:=by
 intro x hx;simp only[aA,List.mem_append,List.mem_singleton] at hx;rcases hx with hx|hx|hx|hx|hx|hx|hx|hx
 ·(exact tY _ (by assumption) _ hx)
 ·(exact qT _ (by assumption) (by assumption) _ hx)
 ·(exact lC _ _ hx)
 ·(exact Nk _ (by assumption) (by assumption) _ hx)
 ·(exact wO _ (by assumption) _ hx)
 ·(exact eC _ _ hx)
 ·(exact dT _ _ hx)
 ·(subst hx;assumption)
theorem Us (s:aL):rd (aA s) 0 45=bV s.cFg:=gK (bT _)
theorem Ut (s:aL) (x:Config):dQ (aA s) 0 (bV x) 45=aA { s with cFg:=x }:=cI (bT _)
theorem Af (s:aL):(aA s)[0]? = some (.v (.int .i64 s.cFg.lG.sF)):=(eN (by rw[bT];decide)).trans (xD _)
theorem Ag (s:aL):(aA s)[1]? = some (.v (.int .i64 s.cFg.lG.wQ)):=(eN (by rw[bT];decide)).trans (xE _)
theorem yL (s:aL):(aA s)[2]? = some (.v (.int .i64 s.cFg.lG.qD)):=(eN (by rw[bT];decide)).trans (vA _)
theorem yM (s:aL):(aA s)[3]? = some (.v (.int .i64 s.cFg.lG.qC)):=(eN (by rw[bT];decide)).trans (vB _)
theorem qK (s:aL):(aA s)[4]? = some (.v (.int .i64 s.cFg.lG.oI)):=(eN (by rw[bT];decide)).trans (vC _)
theorem pU (s:aL):(aA s)[5]? = some (.v (.int .u64 s.cFg.lG.rL)):=(eN (by rw[bT];decide)).trans (uP _)
theorem Io (s:aL):(aA s)[6]? = some (.v (.int .u64 s.cFg.kE)):=(eN (by rw[bT];decide)).trans (Ig _)
theorem Jy (s:aL):rd (aA s) 8 4=gI s.cFg.BG:=(sJ (by rw[bT];decide)).trans (Kp _)
theorem qU (s:aL):(aA s)[44]? = some (s.cFg.iP):=(eN (by rw[bT];decide)).trans (zG _)
theorem Jz (s:aL) (x:AV):dQ (aA s) 44 ([x]) 45=aA { s with cFg:={ s.cFg with iP:=x }}:=(uZ (by rw[bT];decide)).trans (Gc (Kq _ x))
theorem AG (s:aL):rd (aA s) 45 2=fD s.gH:=(bF rfl (bT _)).trans (gK (dG _))
theorem AH (s:aL) (x:uW):dQ (aA s) 45 (fD x) 47=aA { s with gH:=x }:=(aD rfl rfl (bT _)).trans (bO (cI (dG _)))
theorem pC (s:aL):(aA s)[45]? = some (s.gH.eA):=(aJ rfl (bT _)).trans ((eN (by rw[dG];decide)).trans (vL _))
theorem Gf (s:aL) (x:AV):dQ (aA s) 45 ([x]) 46=aA { s with gH:={ s.gH with eA:=x }}:=(aD rfl rfl (bT _)).trans (bO ((uZ (by rw[dG];decide)).trans (Gc (Fs _ x))))
theorem qB (s:aL):(aA s)[46]? = some (s.gH.gW):=(aJ rfl (bT _)).trans ((eN (by rw[dG];decide)).trans (xK _))
theorem Ip (s:aL) (x:AV):dQ (aA s) 46 ([x]) 47=aA { s with gH:={ s.gH with gW:=x }}:=(aD rfl rfl (bT _)).trans (bO ((uZ (by rw[dG];decide)).trans (Gc (Ik _ x))))
theorem Qb (s:aL):rd (aA s) 47 66=eP s.aU:=(bF rfl (bT _)).trans ((bF rfl (dG _)).trans (gK (dB _)))
theorem Qc (s:aL) (x:jY):dQ (aA s) 47 (eP x) 113=aA { s with aU:=x }:=(aD rfl rfl (bT _)).trans (bO ((aD rfl rfl (dG _)).trans (bO (cI (dB _)))))
theorem Ff (s:aL):rd (aA s) 47 33=aY s.aU.gJ:=(bF rfl (bT _)).trans ((bF rfl (dG _)).trans ((sJ (by rw[dB];decide)).trans (Dw _)))
theorem Fg (s:aL) (x:dP):dQ (aA s) 47 (aY x) 80=aA { s with aU:={ s.aU with gJ:=x }}:=(aD rfl rfl (bT _)).trans (bO ((aD rfl rfl (dG _)).trans (bO ((uZ (by rw[dB];decide)).trans (Gc (Dx _ x))))))
theorem xG (s:aL):(aA s)[47]? = some (.v (.int .u64 s.aU.gJ.aG)):=(aJ rfl (bT _)).trans ((aJ rfl (dG _)).trans ((eN (by rw[dB];decide)).trans (tM _)))
theorem qL (s:aL):rd (aA s) 48 32=bD s.aU.gJ.root:=(bF rfl (bT _)).trans ((bF rfl (dG _)).trans ((sJ (by rw[dB];decide)).trans (vD _)))
theorem Gg (s:aL):rd (aA s) 80 33=aY s.aU.fin:=(bF rfl (bT _)).trans ((bF rfl (dG _)).trans ((sJ (by rw[dB];decide)).trans (Ft _)))
theorem Gh (s:aL) (x:dP):dQ (aA s) 80 (aY x) 113=aA { s with aU:={ s.aU with fin:=x }}:=(aD rfl rfl (bT _)).trans (bO ((aD rfl rfl (dG _)).trans (bO ((uZ (by rw[dB];decide)).trans (Gc (Fu _ x))))))
theorem xT (s:aL):(aA s)[80]? = some (.v (.int .u64 s.aU.fin.aG)):=(aJ rfl (bT _)).trans ((aJ rfl (dG _)).trans ((eN (by rw[dB];decide)).trans (uQ _)))
theorem rD (s:aL):rd (aA s) 81 32=bD s.aU.fin.root:=(bF rfl (bT _)).trans ((bF rfl (dG _)).trans ((sJ (by rw[dB];decide)).trans (xF _)))
theorem pD (s:aL):(aA s)[113]? = some (s.cD.early):=(aJ rfl (bT _)).trans ((aJ rfl (dG _)).trans ((aJ rfl (dB _)).trans ((eN (by rw[iI];decide)).trans (vM _))))
theorem Gi (s:aL) (x:AV):dQ (aA s) 113 ([x]) 114=aA { s with cD:={ s.cD with early:=x }}:=(aD rfl rfl (bT _)).trans (bO ((aD rfl rfl (dG _)).trans (bO ((aD rfl rfl (dB _)).trans (bO ((uZ (by rw[iI];decide)).trans (Gc (Fv _ x))))))))
theorem nI (s:aL):(aA s)[114]? = some (s.cD.bK):=(aJ rfl (bT _)).trans ((aJ rfl (dG _)).trans ((aJ rfl (dB _)).trans ((eN (by rw[iI];decide)).trans (sT _))))
theorem Dz (s:aL) (x:AV):dQ (aA s) 114 ([x]) 115=aA { s with cD:={ s.cD with bK:=x }}:=(aD rfl rfl (bT _)).trans (bO ((aD rfl rfl (dG _)).trans (bO ((aD rfl rfl (dB _)).trans (bO ((uZ (by rw[iI];decide)).trans (Gc (Bu _ x))))))))
theorem Ks (s:aL):rd (aA s) 115 1=mS s.tree:=(bF rfl (bT _)).trans ((bF rfl (dG _)).trans ((bF rfl (dB _)).trans ((bF rfl (iI _)).trans (gK (mM _)))))
theorem Cl (s:aL) (x:Fl):dQ (aA s) 115 (mS x) 116=aA { s with tree:=x }:=(aD rfl rfl (bT _)).trans (bO ((aD rfl rfl (dG _)).trans (bO ((aD rfl rfl (dB _)).trans (bO ((aD rfl rfl (iI _)).trans (bO (cI (mM _)))))))))
theorem qV (s:aL):(aA s)[115]? = some (s.tree.nodes):=(aJ rfl (bT _)).trans ((aJ rfl (dG _)).trans ((aJ rfl (dB _)).trans ((aJ rfl (iI _)).trans ((eN (by rw[mM];decide)).trans (xL _)))))
theorem Ka (s:aL) (x:AV):dQ (aA s) 115 ([x]) 116=aA { s with tree:={ s.tree with nodes:=x }}:=(aD rfl rfl (bT _)).trans (bO ((aD rfl rfl (dG _)).trans (bO ((aD rfl rfl (dB _)).trans (bO ((aD rfl rfl (iI _)).trans (bO ((uZ (by rw[mM];decide)).trans (Gc (Im _ x))))))))))
theorem Kt (s:aL):(aA s)[116]? = some (.v (.int .u64 s.now)):=(aJ rfl (bT _)).trans ((aJ rfl (dG _)).trans ((aJ rfl (dB _)).trans ((aJ rfl (iI _)).trans ((aJ rfl (mM _)).trans (rfl)))))
theorem JW (s:aL) (x:Int):dQ (aA s) 116 ([.v (.int .u64 x)]) 117=aA { s with now:=x }:=(aD rfl rfl (bT _)).trans (bO ((aD rfl rfl (dG _)).trans (bO ((aD rfl rfl (dB _)).trans (bO ((aD rfl rfl (iI _)).trans (bO ((aD rfl rfl (mM _)).trans (bO (cI (bB _)))))))))))
theorem Iq (s:aL):rd (aA s) 117 32=bD s.eR:=(bF rfl (bT _)).trans ((bF rfl (dG _)).trans ((bF rfl (dB _)).trans ((bF rfl (iI _)).trans ((bF rfl (mM _)).trans ((bF rfl (bB _)).trans (gK (aO _)))))))
theorem Ir (s:aL) (x:cJ):dQ (aA s) 117 (bD x) 149=aA { s with eR:=x }:=(aD rfl rfl (bT _)).trans (bO ((aD rfl rfl (dG _)).trans (bO ((aD rfl rfl (dB _)).trans (bO ((aD rfl rfl (iI _)).trans (bO ((aD rfl rfl (mM _)).trans (bO ((aD rfl rfl (bB _)).trans (bO (cI (aO _)))))))))))))
theorem vN (s:aL):(aA s)[149]? = some (s.tables):=(aJ rfl (bT _)).trans ((aJ rfl (dG _)).trans ((aJ rfl (dB _)).trans ((aJ rfl (iI _)).trans ((aJ rfl (mM _)).trans ((aJ rfl (bB _)).trans ((aJ rfl (aO _)).trans (rfl)))))))
theorem Uu (s:aL) (x:AV):dQ (aA s) 149 ([x]) 150=aA { s with tables:=x }:=(aD rfl rfl (bT _)).trans (bO ((aD rfl rfl (dG _)).trans (bO ((aD rfl rfl (dB _)).trans (bO ((aD rfl rfl (iI _)).trans (bO ((aD rfl rfl (mM _)).trans (bO ((aD rfl rfl (bB _)).trans (bO ((aD rfl rfl (aO _)).trans (bO (eK rfl))))))))))))))
def fZ:aL:=⟨mO,Lg,Si,El,Qo,0,dR,(.v (.slice none 0 0))⟩
def AI:List Value:=Pv++(AD++(Dy++(Vo++(XS++([.int .u64 0]++(tJ++([.slice none 0 0])))))))
theorem AJ:AI.map AV.v=aA fZ:=by simp only[AI,List.map_append,List.map_cons,List.map_nil,jL,jM,Sb,AE,Il,FX,RL];rfl
theorem gG (st:St) (s:aL):Ua st (aA s)=cS (cN st s.cFg.iP) fun x_config_bal=>cS (cN st s.gH.eA) fun x_votes_latest=>cS (cN st s.gH.gW) fun x_votes_equiv=>cS (cN st s.cD.early) fun x_queues_early=>cS (cN st s.cD.bK) fun x_queues_orphans=>cS (cN st s.tree.nodes) fun x_tree_nodes=>cS (cN st s.tables) fun x_tables=>some (aA { s with cFg:={ s.cFg with iP:=x_config_bal },gH:={ s.gH with eA:=x_votes_latest,gW:=x_votes_equiv },cD:={ s.cD with early:=x_queues_early,bK:=x_queues_orphans },tree:={ s.tree with nodes:=x_tree_nodes },tables:=x_tables }):=by
 simp only[aA,wI,Lq,I6,lF (lC _),XR,I7,lF (eC _),lF (dT _),yK,oR,cK]
theorem JX (s:aL):rd (aA s) 0 150=aA s:=jA (dE _)
theorem JY (s x:aL):dQ (aA s) 0 (aA x) 150=aA x:=eK (dE _)
structure State where
 store:aL
 iY:AV
 rI:AV
 cZ:Int
 Li:Bool
 last:Command
 overflow:Bool
 halted:Bool
def aP (s:State):List AV:=aA s.store++([s.iY]++([s.rI]++(lI s.cZ++(uY s.Li++(eI s.last++(uY s.overflow++(uY s.halted)))))))
@[simp] theorem Ml (s:State):(aP s).length=252:=by simp[aP]
theorem LU (s:State) (h0:Flat s.store.cFg.iP) (h1:Flat s.store.gH.eA) (h2:Flat s.store.gH.gW) (h3:Flat s.store.cD.early) (h4:Flat s.store.cD.bK) (h5:Flat s.store.tree.nodes) (h6:Flat s.store.tables) (h7:Flat s.iY) (h8:Flat s.rI):∀x∈aP s,Flat x:=by
 intro x hx;simp only[aP,List.mem_append,List.mem_singleton] at hx;rcases hx with hx|hx|hx|hx|hx|hx|hx|hx
 ·(exact Sw _ (by assumption) (by assumption) (by assumption) (by assumption) (by assumption) (by assumption) (by assumption) _ hx)
 ·(subst hx;assumption)
 ·(subst hx;assumption)
 ·(exact eC _ _ hx)
 ·(exact sZ _ _ hx)
 ·(exact sG _ _ hx)
 ·(exact sZ _ _ hx)
 ·(exact sZ _ _ hx)
theorem AK (s:State):rd (aP s) 0 150=aA s.store:=gK (dE _)
theorem AL (s:State) (x:aL):dQ (aP s) 0 (aA x) 150=aP { s with store:=x }:=cI (dE _)
theorem tR (s:State):(aP s)[4]? = some (.v (.int .i64 s.store.cFg.lG.oI)):=(eN (by rw[dE];decide)).trans (qK _)
theorem tC (s:State):(aP s)[5]? = some (.v (.int .u64 s.store.cFg.lG.rL)):=(eN (by rw[dE];decide)).trans (pU _)
theorem qW (s:State):(aP s)[44]? = some (s.store.cFg.iP):=(eN (by rw[dE];decide)).trans (qU _)
theorem pO (s:State):(aP s)[45]? = some (s.store.gH.eA):=(eN (by rw[dE];decide)).trans (pC _)
theorem qI (s:State):(aP s)[46]? = some (s.store.gH.gW):=(eN (by rw[dE];decide)).trans (qB _)
theorem tS (s:State):rd (aP s) 48 32=bD s.store.aU.gJ.root:=(sJ (by rw[dE];decide)).trans (qL _)
theorem uR (s:State):rd (aP s) 81 32=bD s.store.aU.fin.root:=(sJ (by rw[dE];decide)).trans (rD _)
theorem pP (s:State):(aP s)[113]? = some (s.store.cD.early):=(eN (by rw[dE];decide)).trans (pD _)
theorem oG (s:State):(aP s)[114]? = some (s.store.cD.bK):=(eN (by rw[dE];decide)).trans (nI _)
theorem Kb (s:State):rd (aP s) 115 1=mS s.store.tree:=(sJ (by rw[dE];decide)).trans (Ks _)
theorem xZ (s:State) (x:Fl):dQ (aP s) 115 (mS x) 116=aP { s with store:={ s.store with tree:=x }}:=(uZ (by rw[dE];decide)).trans (Gc (Cl _ x))
theorem qX (s:State):(aP s)[115]? = some (s.store.tree.nodes):=(eN (by rw[dE];decide)).trans (qV _)
theorem Kc (s:State):(aP s)[116]? = some (.v (.int .u64 s.store.now)):=(eN (by rw[dE];decide)).trans (Kt _)
theorem Is (s:State):rd (aP s) 117 32=bD s.store.eR:=(sJ (by rw[dE];decide)).trans (Iq _)
theorem It (s:State) (x:cJ):dQ (aP s) 117 (bD x) 149=aP { s with store:={ s.store with eR:=x }}:=(uZ (by rw[dE];decide)).trans (Gc (Ir _ x))
theorem uA (s:State):(aP s)[149]? = some (s.store.tables):=(eN (by rw[dE];decide)).trans (vN _)
theorem zI (s:State):(aP s)[150]? = some (s.iY):=(aJ rfl (dE _)).trans (rfl)
theorem Qd (s:State) (x:AV):dQ (aP s) 150 ([x]) 151=aP { s with iY:=x }:=(aD rfl rfl (dE _)).trans (bO (cI rfl))
theorem Ba (s:State):(aP s)[151]? = some (s.rI):=(aJ rfl (dE _)).trans ((aJ rfl rfl).trans (rfl))
theorem Sj (s:State) (x:AV):dQ (aP s) 151 ([x]) 152=aP { s with rI:=x }:=(aD rfl rfl (dE _)).trans (bO ((aD rfl rfl rfl).trans (bO (cI rfl))))
theorem Qe (s:State):(aP s)[152]? = some (.v (.int .u64 s.cZ)):=(aJ rfl (dE _)).trans ((aJ rfl rfl).trans ((aJ rfl rfl).trans (rfl)))
theorem Sk (s:State) (x:Int):dQ (aP s) 152 ([.v (.int .u64 x)]) 153=aP { s with cZ:=x }:=(aD rfl rfl (dE _)).trans (bO ((aD rfl rfl rfl).trans (bO ((aD rfl rfl rfl).trans (bO (cI (bB _)))))))
theorem AM (s:State):(aP s)[153]? = some (.v (.bool s.Li)):=(aJ rfl (dE _)).trans ((aJ rfl rfl).trans ((aJ rfl rfl).trans ((aJ rfl (bB _)).trans (rfl))))
theorem DE (s:State) (x:Bool):dQ (aP s) 153 ([.v (.bool x)]) 154=aP { s with Li:=x }:=(aD rfl rfl (dE _)).trans (bO ((aD rfl rfl rfl).trans (bO ((aD rfl rfl rfl).trans (bO ((aD rfl rfl (bB _)).trans (bO (cI (iA _)))))))))
theorem DF (s:State):rd (aP s) 154 96=eI s.last:=(bF rfl (dE _)).trans ((bF rfl rfl).trans ((bF rfl rfl).trans ((bF rfl (bB _)).trans ((bF rfl (iA _)).trans (gK (nD _))))))
theorem DG (s:State) (x:Command):dQ (aP s) 154 (eI x) 250=aP { s with last:=x }:=(aD rfl rfl (dE _)).trans (bO ((aD rfl rfl rfl).trans (bO ((aD rfl rfl rfl).trans (bO ((aD rfl rfl (bB _)).trans (bO ((aD rfl rfl (iA _)).trans (bO (cI (nD _)))))))))))
theorem Qf (s:State) (x:Bool):dQ (aP s) 250 ([.v (.bool x)]) 251=aP { s with overflow:=x }:=(aD rfl rfl (dE _)).trans (bO ((aD rfl rfl rfl).trans (bO ((aD rfl rfl rfl).trans (bO ((aD rfl rfl (bB _)).trans (bO ((aD rfl rfl (iA _)).trans (bO ((aD rfl rfl (nD _)).trans (bO (cI (iA _)))))))))))))
theorem Sl (s:State):(aP s)[251]? = some (.v (.bool s.halted)):=(aJ rfl (dE _)).trans ((aJ rfl rfl).trans ((aJ rfl rfl).trans ((aJ rfl (bB _)).trans ((aJ rfl (iA _)).trans ((aJ rfl (nD _)).trans ((aJ rfl (iA _)).trans (rfl)))))))
theorem Uv (s:State) (x:Bool):dQ (aP s) 251 ([.v (.bool x)]) 252=aP { s with halted:=x }:=(aD rfl rfl (dE _)).trans (bO ((aD rfl rfl rfl).trans (bO ((aD rfl rfl rfl).trans (bO ((aD rfl rfl (bB _)).trans (bO ((aD rfl rfl (iA _)).trans (bO ((aD rfl rfl (nD _)).trans (bO ((aD rfl rfl (iA _)).trans (bO (eK (iA _)))))))))))))))
def lW:State:=⟨fZ,(.v (.slice none 0 0)),(.v (.slice none 0 0)),0,false,Zz,false,false⟩
def JZ:List Value:=AI++([.slice none 0 0]++([.slice none 0 0]++([.int .u64 0]++([.bool false]++(Ij++([.bool false]++([.bool false])))))))
theorem RM:JZ.map AV.v=aP lW:=by simp only[JZ,List.map_append,List.map_cons,List.map_nil,jL,jM,AJ,Mk];rfl
theorem vT (st:St) (s:State):Ua st (aP s)=cS (cN st s.store.cFg.iP) fun x_store_config_bal=>cS (cN st s.store.gH.eA) fun x_store_votes_latest=>cS (cN st s.store.gH.gW) fun x_store_votes_equiv=>cS (cN st s.store.cD.early) fun x_store_queues_early=>cS (cN st s.store.cD.bK) fun x_store_queues_orphans=>cS (cN st s.store.tree.nodes) fun x_store_tree_nodes=>cS (cN st s.store.tables) fun x_store_tables=>cS (cN st s.iY) fun x_requests=>cS (cN st s.rI) fun x_retries=>some (aP { s with store:={ s.store with cFg:={ s.store.cFg with iP:=x_store_config_bal },gH:={ s.store.gH with eA:=x_store_votes_latest,gW:=x_store_votes_equiv },cD:={ s.store.cD with early:=x_store_queues_early,bK:=x_store_queues_orphans },tree:={ s.store.tree with nodes:=x_store_tree_nodes },tables:=x_store_tables },iY:=x_requests,rI:=x_retries }):=by
 simp only[aP,wI,gG,yK,lF (eC _),lF (sZ _),lF (sG _),oR,cK]
theorem KA (s:State):rd (aP s) 0 252=aP s:=jA (Ml _)
theorem KB (s x:State):dQ (aP s) 0 (aP x) 252=aP x:=eK (Ml _)
structure xI where
 kind:Int
 block:Block
 Ga:sC
 oV:fW
 table:Table
 verdict:gV
 write:Int
 qO:Int
def kZ (s:xI):List AV:=qS s.kind++(aV s.block++(iB s.Ga++(cC s.oV++(cA s.table++(dJ s.verdict++(qS s.write++(qS s.qO)))))))
@[simp] theorem AN (s:xI):(kZ s).length=446:=by simp[kZ]
theorem B7 (s:xI) (h0:Flat s.Ga.eU) (h1:Flat s.oV.first.eU) (h2:Flat s.oV.second.eU) (h3:Flat s.table.iP):∀x∈kZ s,Flat x:=by
 intro x hx;simp only[kZ,List.mem_append,List.mem_singleton] at hx;rcases hx with hx|hx|hx|hx|hx|hx|hx|hx
 ·(exact mE _ _ hx)
 ·(exact Bp _ _ hx)
 ·(exact Qk _ (by assumption) _ hx)
 ·(exact Gz _ (by assumption) (by assumption) _ hx)
 ·(exact Ha _ (by assumption) _ hx)
 ·(exact jP _ _ hx)
 ·(exact mE _ _ hx)
 ·(exact mE _ _ hx)
theorem KC (s:xI):(kZ s)[0]? = some (.v (.int .i64 s.kind)):=rfl
theorem RN (s:xI) (x:Int):dQ (kZ s) 0 ([.v (.int .i64 x)]) 1=kZ { s with kind:=x }:=cI (bI _)
theorem KD (s:xI):rd (kZ s) 1 238=aV s.block:=(bF rfl (bI _)).trans (gK (bR _))
theorem KE (s:xI) (x:Block):dQ (kZ s) 1 (aV x) 239=kZ { s with block:=x }:=(aD rfl rfl (bI _)).trans (bO (cI (bR _)))
theorem XT (s:xI):rd (kZ s) 239 67=iB s.Ga:=(bF rfl (bI _)).trans ((bF rfl (bR _)).trans (gK (iH _)))
theorem XU (s:xI) (x:sC):dQ (kZ s) 239 (iB x) 306=kZ { s with Ga:=x }:=(aD rfl rfl (bI _)).trans (bO ((aD rfl rfl (bR _)).trans (bO (cI (iH _)))))
theorem Cv (s:xI):(kZ s)[305]? = some (s.Ga.eU):=(aJ rfl (bI _)).trans ((aJ rfl (bR _)).trans ((eN (by rw[iH];decide)).trans (Eh _)))
theorem KF (s:xI):rd (kZ s) 306 70=cC s.oV:=(bF rfl (bI _)).trans ((bF rfl (bR _)).trans ((bF rfl (iH _)).trans (gK (fN _))))
theorem KG (s:xI) (x:fW):dQ (kZ s) 306 (cC x) 376=kZ { s with oV:=x }:=(aD rfl rfl (bI _)).trans (bO ((aD rfl rfl (bR _)).trans (bO ((aD rfl rfl (iH _)).trans (bO (cI (fN _)))))))
theorem sE (s:xI):(kZ s)[340]? = some (s.oV.first.eU):=(aJ rfl (bI _)).trans ((aJ rfl (bR _)).trans ((aJ rfl (iH _)).trans ((eN (by rw[fN];decide)).trans (oH _))))
theorem rU (s:xI):(kZ s)[375]? = some (s.oV.second.eU):=(aJ rfl (bI _)).trans ((aJ rfl (bR _)).trans ((aJ rfl (iH _)).trans ((eN (by rw[fN];decide)).trans (nJ _))))
theorem KH (s:xI):rd (kZ s) 376 34=cA s.table:=(bF rfl (bI _)).trans ((bF rfl (bR _)).trans ((bF rfl (iH _)).trans ((bF rfl (fN _)).trans (gK (eM _)))))
theorem KI (s:xI) (x:Table):dQ (kZ s) 376 (cA x) 410=kZ { s with table:=x }:=(aD rfl rfl (bI _)).trans (bO ((aD rfl rfl (bR _)).trans (bO ((aD rfl rfl (iH _)).trans (bO ((aD rfl rfl (fN _)).trans (bO (cI (eM _)))))))))
theorem Bb (s:xI):(kZ s)[409]? = some (s.table.iP):=(aJ rfl (bI _)).trans ((aJ rfl (bR _)).trans ((aJ rfl (iH _)).trans ((aJ rfl (fN _)).trans ((eN (by rw[eM];decide)).trans (Cb _)))))
theorem AO (s:xI):rd (kZ s) 410 34=dJ s.verdict:=(bF rfl (bI _)).trans ((bF rfl (bR _)).trans ((bF rfl (iH _)).trans ((bF rfl (fN _)).trans ((bF rfl (eM _)).trans (gK (mA _))))))
theorem AP (s:xI) (x:gV):dQ (kZ s) 410 (dJ x) 444=kZ { s with verdict:=x }:=(aD rfl rfl (bI _)).trans (bO ((aD rfl rfl (bR _)).trans (bO ((aD rfl rfl (iH _)).trans (bO ((aD rfl rfl (fN _)).trans (bO ((aD rfl rfl (eM _)).trans (bO (cI (mA _)))))))))))
theorem DH (s:xI):(kZ s)[444]? = some (.v (.int .i64 s.write)):=(aJ rfl (bI _)).trans ((aJ rfl (bR _)).trans ((aJ rfl (iH _)).trans ((aJ rfl (fN _)).trans ((aJ rfl (eM _)).trans ((aJ rfl (mA _)).trans (rfl))))))
theorem KJ (s:xI) (x:Int):dQ (kZ s) 444 ([.v (.int .i64 x)]) 445=kZ { s with write:=x }:=(aD rfl rfl (bI _)).trans (bO ((aD rfl rfl (bR _)).trans (bO ((aD rfl rfl (iH _)).trans (bO ((aD rfl rfl (fN _)).trans (bO ((aD rfl rfl (eM _)).trans (bO ((aD rfl rfl (mA _)).trans (bO (cI (bI _)))))))))))))
theorem KK (s:xI):(kZ s)[445]? = some (.v (.int .i64 s.qO)):=(aJ rfl (bI _)).trans ((aJ rfl (bR _)).trans ((aJ rfl (iH _)).trans ((aJ rfl (fN _)).trans ((aJ rfl (eM _)).trans ((aJ rfl (mA _)).trans ((aJ rfl (bI _)).trans (rfl)))))))
theorem RO (s:xI) (x:Int):dQ (kZ s) 445 ([.v (.int .i64 x)]) 446=kZ { s with qO:=x }:=(aD rfl rfl (bI _)).trans (bO ((aD rfl rfl (bR _)).trans (bO ((aD rfl rfl (iH _)).trans (bO ((aD rfl rfl (fN _)).trans (bO ((aD rfl rfl (eM _)).trans (bO ((aD rfl rfl (mA _)).trans (bO ((aD rfl rfl (bI _)).trans (bO (eK (bI _)))))))))))))))
def zP:xI:=⟨0,dY,Hk,Sd,dX,Zo,0,0⟩
def aDO:List Value:=[.int .i64 0]++(Hn++(aA1++(Dv++(Ls++(Dh++([.int .i64 0]++([.int .i64 0])))))))
theorem aA2:aDO.map AV.v=kZ zP:=by simp only[aDO,List.map_append,List.map_cons,List.map_nil,jL,jM,Pj,XN,Ii,Zt,Me];rfl
theorem XV (s:xI):rd (kZ s) 0 446=kZ s:=jA (AN _)
theorem XW (s x:xI):dQ (kZ s) 0 (kZ x) 446=kZ x:=eK (AN _)
def dC (l:List kN):List AV:=l.flatMap jN
@[simp] theorem XX (l:List (kN)):(dC l).length=l.length * 34:=by
 induction l with
 | nil=>rfl
 | cons x l ih=>simp only[dC,List.flatMap_cons,List.length_append,rR,List.length_cons] at *;omega
theorem mY (l:List (kN)):∀x∈dC l,Flat x:=by
 intro x hx;obtain⟨y,_,hy⟩:=List.mem_flatMap.1 hx
 exact XL y x hy
def dN (l:List sC):List AV:=l.flatMap iB
@[simp] theorem aJI (l:List (sC)):(dN l).length=l.length * 67:=by
 induction l with
 | nil=>rfl
 | cons x l ih=>simp only[dN,List.flatMap_cons,List.length_append,iH,List.length_cons] at *;omega
theorem sW (l:List (sC)) (h:∀y∈l,Flat y.eU):∀x∈dN l,Flat x:=by
 intro x hx;obtain⟨y,hm,hy⟩:=List.mem_flatMap.1 hx
 exact Qk y (h y hm) x hy
def aI (l:List Table):List AV:=l.flatMap cA
@[simp] theorem wZ (l:List (Table)):(aI l).length=l.length * 34:=by
 induction l with
 | nil=>rfl
 | cons x l ih=>simp only[aI,List.flatMap_cons,List.length_append,eM,List.length_cons] at *;omega
theorem jV (l:List (Table)) (h:∀y∈l,Flat y.iP):∀x∈aI l,Flat x:=by
 intro x hx;obtain⟨y,hm,hy⟩:=List.mem_flatMap.1 hx
 exact Ha y (h y hm) x hy
def aE (l:List Request):List AV:=l.flatMap dD
@[simp] theorem DI (l:List (Request)):(aE l).length=l.length * 35:=by
 induction l with
 | nil=>rfl
 | cons x l ih=>simp only[aE,List.flatMap_cons,List.length_append,gQ,List.length_cons] at *;omega
theorem uD (l:List (Request)):∀x∈aE l,Flat x:=by
 intro x hx;obtain⟨y,_,hy⟩:=List.mem_flatMap.1 hx
 exact jO y x hy
end Go.Ab
end
