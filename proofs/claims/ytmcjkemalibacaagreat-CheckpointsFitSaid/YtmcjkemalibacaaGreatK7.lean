/-
  Part 7 of the proof: an evaluator of programs, its soundness, and what functions of this program compute.
-/
import Derived.Test.YtmcjkemalibacaaGreatK6
set_option linter.all false
set_option maxRecDepth 20000
set_option maxHeartbeats 40000000
section
namespace Go.Ab
open Classical
variable [Ext]
noncomputable def Ux (st:St) (cs:List AV):Option (List AV):=cP (cs.map (cS st))
theorem wN (st:St) (a b:List AV):Ux st (a++b)=cT (Ux st a) fun x=>cT (Ux st b) fun y=>some (x++y):=by
 unfold Ux;induction a with
 | nil=>simp[cP,cT];cases cP (b.map (cS st))<;>rfl
 | cons c a ih =>
   simp only[List.cons_append,List.map_cons];cases cS st c with
   | none=>rfl
   | some c' =>
     simp only[cP,ih];cases cP (a.map (cS st)) with
     | none=>rfl
     | some a' =>
       simp only[cT,Option.map_some];cases cP (b.map (cS st))<;>rfl
theorem yO (st:St) (x:AV):Ux st [x]=cT (cS st x) fun y=>some [y]:=by
 unfold Ux;simp only[List.map_cons,List.map_nil];cases cS st x<;>rfl
theorem lJ {st:St} {cs:List AV} (h:∀c∈cs,Flat c):Ux st cs=some cs:=by
 unfold Ux;induction cs with
 | nil=>rfl
 | cons c cs ih =>
   simp only[List.map_cons,cW (h c (by simp)),cP,ih fun x hx=>h x (by simp[hx]),Option.map_some]
theorem bS (st:St) (cs:List AV):fO st (.agg cs)=cT (Ux st cs) fun x=>some (.agg x):=by
 unfold fO;by_cases h:Flat (.agg cs)
 ·rw[if_pos h];have h':∀c∈cs,Flat c:=by cases h with|agg _ h=>exact h
  rw[lJ h'];rfl
 ·rw[if_neg h];simp only[Ux];cases cP (cs.map (cS st))<;>rfl
def ov {α:Type} (c:List α→List AV):Option (List α)→AV
 | none=>.v (.slice none 0 0)
 | some l=>.sl l.length (c l)
def ol {α:Type} (o:Option (List α)):List α:=o.getD []
theorem Wg {α:Type} (l:List α):ol (some l)=l:=rfl
theorem aEg {α:Type}:ol (none:Option (List α))=[]:=rfl
def gx {α:Type} (z:α) (l:List α) (i:Int):α:=l.getD i.toNat z
theorem YF {α:Type} {z:α} {l:List α} {i:Int} (h0:0≤i) (h1:i<l.length):∃h:i.toNat<l.length,gx z l i=l[i.toNat]:=by
 have h:i.toNat<l.length:=by omega
 exact⟨h,by simp[gx,h]⟩
theorem oO {α:Type} {z:α} {l:List α} {i:Int} (h0:0≤i) (h1:i<l.length):gx z l i∈l:=by
 obtain⟨h,e⟩:=YF (z:=z) h0 h1
 rw[e];exact List.getElem_mem h
def nP (l:List dP):List AV:=l.flatMap aW
@[simp] theorem Xy (l:List (dP)):(nP l).length=l.length * 33:=by
 induction l with
 | nil=>rfl
 | cons x l ih=>simp only[nP,List.flatMap_cons,List.length_append,bR,List.length_cons] at *;omega
def aG (l:List Block):List AV:=l.flatMap aP
@[simp] theorem pC (l:List (Block)):(aG l).length=l.length * 238:=by
 induction l with
 | nil=>rfl
 | cons x l ih=>simp only[aG,List.flatMap_cons,List.length_append,bT,List.length_cons] at *;omega
theorem lB (l:List (Block)):∀x∈aG l,Flat x:=by
 intro x hx;obtain⟨y,_,hy⟩:=List.mem_flatMap.1 hx
 exact Bx y x hy
def mW (l:List Bool):List AV:=l.flatMap uT
@[simp] theorem aH9 (l:List (Bool)):(mW l).length=l.length * 1:=by
 induction l with
 | nil=>rfl
 | cons x l ih=>simp only[mW,List.flatMap_cons,List.length_append,iC,List.length_cons] at *;omega
theorem Tv (l:List (Bool)):∀x∈mW l,Flat x:=by
 intro x hx;obtain⟨y,_,hy⟩:=List.mem_flatMap.1 hx
 exact tG y x hy
structure xV where
 tag:Int
def mR (s:xV):List AV:=lG s.tag
@[simp] theorem gY (s:xV):(mR s).length=1:=by simp[mR]
theorem Qg (s:xV):∀x∈mR s,Flat x:=by
 intro x hx;simp only[mR,List.mem_append,List.mem_singleton] at hx;(exact eD _ _ hx)
theorem Aj (s:xV):(mR s)[0]? = some (.v (.int .u64 s.tag)):=rfl
theorem Lc (s:xV) (x:Int):dS (mR s) 0 ([.v (.int .u64 x)]) 1=mR { s with tag:=x }:=eM (bB _)
def Wo:xV:=⟨0⟩
def Kb:List Value:=[.int .u64 0]
theorem Kc:Kb.map AV.v=mR Wo:=by simp only[Kb,List.map_append,List.map_cons,List.map_nil,jM,jN];rfl
def B0:List Bool:=[true]
theorem KE (a b:xV):iS B0 (mR a) (mR b):=(show iS [true] [_] [_] from ⟨rfl,trivial⟩)
theorem RR (a b:xV):mR a=mR b↔a=b:=by
 refine⟨fun h=>?_,fun h=>by rw[h]⟩
 cases a;cases b
 simp only[mR] at h;have e0:=(Io _ _).1 h
 subst e0;rfl
structure gV where
 tagged:xV
 kind:Int
 eB:cN
def dL (s:gV):List AV:=mR s.tagged++(qV s.kind++(bF s.eB))
@[simp] theorem mE (s:gV):(dL s).length=34:=by simp[dL]
theorem jR (s:gV):∀x∈dL s,Flat x:=by
 intro x hx;simp only[dL,List.mem_append,List.mem_singleton] at hx;rcases hx with hx|hx|hx
 ·(exact Qg _ _ hx)
 ·(exact mF _ _ hx)
 ·(exact dX _ _ hx)
theorem Qh (s:gV) (x:xV):dS (dL s) 0 (mR x) 1=dL { s with tagged:=x }:=cM (gY _)
theorem Fs (s:gV):(dL s)[0]? = some (.v (.int .u64 s.tagged.tag)):=(eP (by rw[gY];decide)).trans (Aj _)
theorem Gs (s:gV) (x:Int):dS (dL s) 0 ([.v (.int .u64 x)]) 1=dL { s with tagged:={ s.tagged with tag:=x }}:=(sR (by rw[gY];decide)).trans (Cr (Lc _ x))
theorem Ss (s:gV):(dL s)[1]? = some (.v (.int .i64 s.kind)):=(aJ rfl (gY _)).trans (rfl)
theorem Vh (s:gV) (x:Int):dS (dL s) 1 ([.v (.int .i64 x)]) 2=dL { s with kind:=x }:=(aC rfl rfl (gY _)).trans (bL (cM (bJ _)))
theorem Qi (s:gV):rd (dL s) 2 32=bF s.eB:=(bG rfl (gY _)).trans ((bG rfl (bJ _)).trans (jA (aO _)))
theorem Qj (s:gV) (x:cN):dS (dL s) 2 (bF x) 34=dL { s with eB:=x }:=(aC rfl rfl (gY _)).trans (bL ((aC rfl rfl (bJ _)).trans (bL (eM (aO _)))))
def AQ:gV:=⟨Wo,0,dV⟩
def Dr:List Value:=Kb++([.int .i64 0]++(tO))
theorem Mu:Dr.map AV.v=dL AQ:=by simp only[Dr,List.map_append,List.map_cons,List.map_nil,jM,jN,Kc];rfl
def RS:List Bool:=B0++([true]++(Ip))
theorem DT (a b:gV):iS RS (dL a) (dL b):=(fW (KE _ _) (fW (show iS [true] [_] [_] from ⟨rfl,trivial⟩) (oA _ _)))
theorem KF (a b:gV):dL a=dL b↔a=b:=by
 refine⟨fun h=>?_,fun h=>by rw[h]⟩
 cases a;cases b
 simp only[dL] at h;obtain⟨h0,h⟩:=List.append_inj h (by simp)
 obtain⟨h1,h⟩:=List.append_inj h (by simp)
 have e0:=(RR _ _).1 h0
 have e1:=(xG _ _).1 h1
 have e2:=(pZ _ _).1 h
 subst e0 e1 e2;rfl
theorem AR (s:gV):rd (dL s) 0 34=dL s:=jA (mE _)
theorem AS (s x:gV):dS (dL s) 0 (dL x) 34=dL x:=eM (mE _)
structure lH where
 sM:Int
 wU:Int
 qG:Int
 qF:Int
 oP:Int
 rQ:Int
def fP (s:lH):List AV:=qV s.sM++(qV s.wU++(qV s.qG++(qV s.qF++(qV s.oP++(lG s.rQ)))))
@[simp] theorem gB (s:lH):(fP s).length=6:=by simp[fP]
theorem uS (s:lH):∀x∈fP s,Flat x:=by
 intro x hx;simp only[fP,List.mem_append,List.mem_singleton] at hx;rcases hx with hx|hx|hx|hx|hx|hx
 ·(exact mF _ _ hx)
 ·(exact mF _ _ hx)
 ·(exact mF _ _ hx)
 ·(exact mF _ _ hx)
 ·(exact mF _ _ hx)
 ·(exact eD _ _ hx)
theorem Ec (s:lH):(fP s)[0]? = some (.v (.int .i64 s.sM)):=rfl
theorem Vi (s:lH) (x:Int):dS (fP s) 0 ([.v (.int .i64 x)]) 1=fP { s with sM:=x }:=cM (bJ _)
theorem Ed (s:lH):(fP s)[1]? = some (.v (.int .i64 s.wU)):=(aJ rfl (bJ _)).trans (rfl)
theorem Vj (s:lH) (x:Int):dS (fP s) 1 ([.v (.int .i64 x)]) 2=fP { s with wU:=x }:=(aC rfl rfl (bJ _)).trans (bL (cM (bJ _)))
theorem Bz (s:lH):(fP s)[2]? = some (.v (.int .i64 s.qG)):=(aJ rfl (bJ _)).trans ((aJ rfl (bJ _)).trans (rfl))
theorem Su (s:lH) (x:Int):dS (fP s) 2 ([.v (.int .i64 x)]) 3=fP { s with qG:=x }:=(aC rfl rfl (bJ _)).trans (bL ((aC rfl rfl (bJ _)).trans (bL (cM (bJ _)))))
theorem Ca (s:lH):(fP s)[3]? = some (.v (.int .i64 s.qF)):=(aJ rfl (bJ _)).trans ((aJ rfl (bJ _)).trans ((aJ rfl (bJ _)).trans (rfl)))
theorem Sv (s:lH) (x:Int):dS (fP s) 3 ([.v (.int .i64 x)]) 4=fP { s with qF:=x }:=(aC rfl rfl (bJ _)).trans (bL ((aC rfl rfl (bJ _)).trans (bL ((aC rfl rfl (bJ _)).trans (bL (cM (bJ _)))))))
theorem Cb (s:lH):(fP s)[4]? = some (.v (.int .i64 s.oP)):=(aJ rfl (bJ _)).trans ((aJ rfl (bJ _)).trans ((aJ rfl (bJ _)).trans ((aJ rfl (bJ _)).trans (rfl))))
theorem Sw (s:lH) (x:Int):dS (fP s) 4 ([.v (.int .i64 x)]) 5=fP { s with oP:=x }:=(aC rfl rfl (bJ _)).trans (bL ((aC rfl rfl (bJ _)).trans (bL ((aC rfl rfl (bJ _)).trans (bL ((aC rfl rfl (bJ _)).trans (bL (cM (bJ _)))))))))
theorem Ak (s:lH):(fP s)[5]? = some (.v (.int .u64 s.rQ)):=(aJ rfl (bJ _)).trans ((aJ rfl (bJ _)).trans ((aJ rfl (bJ _)).trans ((aJ rfl (bJ _)).trans ((aJ rfl (bJ _)).trans (rfl)))))
theorem Qk (s:lH) (x:Int):dS (fP s) 5 ([.v (.int .u64 x)]) 6=fP { s with rQ:=x }:=(aC rfl rfl (bJ _)).trans (bL ((aC rfl rfl (bJ _)).trans (bL ((aC rfl rfl (bJ _)).trans (bL ((aC rfl rfl (bJ _)).trans (bL ((aC rfl rfl (bJ _)).trans (bL (eM (bB _)))))))))))
def KG:lH:=⟨0,0,0,0,0,0⟩
def Ql:List Value:=[.int .i64 0]++([.int .i64 0]++([.int .i64 0]++([.int .i64 0]++([.int .i64 0]++([.int .u64 0])))))
theorem Sx:Ql.map AV.v=fP KG:=by simp only[Ql,List.map_append,List.map_cons,List.map_nil,jM,jN];rfl
def B4:List Bool:=[true]++([true]++([true]++([true]++([true]++([true])))))
theorem KH (a b:lH):iS B4 (fP a) (fP b):=(fW (show iS [true] [_] [_] from ⟨rfl,trivial⟩) (fW (show iS [true] [_] [_] from ⟨rfl,trivial⟩) (fW (show iS [true] [_] [_] from ⟨rfl,trivial⟩) (fW (show iS [true] [_] [_] from ⟨rfl,trivial⟩) (fW (show iS [true] [_] [_] from ⟨rfl,trivial⟩) (show iS [true] [_] [_] from ⟨rfl,trivial⟩))))))
theorem RT (a b:lH):fP a=fP b↔a=b:=by
 refine⟨fun h=>?_,fun h=>by rw[h]⟩
 cases a;cases b
 simp only[fP] at h;obtain⟨h0,h⟩:=List.append_inj h (by simp)
 obtain⟨h1,h⟩:=List.append_inj h (by simp)
 obtain⟨h2,h⟩:=List.append_inj h (by simp)
 obtain⟨h3,h⟩:=List.append_inj h (by simp)
 obtain⟨h4,h⟩:=List.append_inj h (by simp)
 have e0:=(xG _ _).1 h0
 have e1:=(xG _ _).1 h1
 have e2:=(xG _ _).1 h2
 have e3:=(xG _ _).1 h3
 have e4:=(xG _ _).1 h4
 have e5:=(Io _ _).1 h
 subst e0 e1 e2 e3 e4 e5;rfl
structure Config where
 lK:lH
 jL:Int
 Hq:Int
 CI:qE
 cX:cN
 iP:AV
def bW (s:Config):List AV:=fP s.lK++(lG s.jL++(lG s.Hq++(gG s.CI++(bF s.cX++([s.iP])))))
@[simp] theorem bV (s:Config):(bW s).length=45:=by simp[bW]
theorem uF (s:Config) (h0:Flat s.iP):∀x∈bW s,Flat x:=by
 intro x hx;simp only[bW,List.mem_append,List.mem_singleton] at hx;rcases hx with hx|hx|hx|hx|hx|hx
 ·(exact uS _ _ hx)
 ·(exact eD _ _ hx)
 ·(exact eD _ _ hx)
 ·(exact iQ _ _ hx)
 ·(exact dX _ _ hx)
 ·(subst hx;assumption)
theorem DU (s:Config):rd (bW s) 0 6=fP s.lK:=gN (gB _)
theorem DV (s:Config) (x:lH):dS (bW s) 0 (fP x) 6=bW { s with lK:=x }:=cM (gB _)
theorem xH (s:Config):(bW s)[0]? = some (.v (.int .i64 s.lK.sM)):=(eP (by rw[gB];decide)).trans (Ec _)
theorem xI (s:Config):(bW s)[1]? = some (.v (.int .i64 s.lK.wU)):=(eP (by rw[gB];decide)).trans (Ed _)
theorem vF (s:Config):(bW s)[2]? = some (.v (.int .i64 s.lK.qG)):=(eP (by rw[gB];decide)).trans (Bz _)
theorem vG (s:Config):(bW s)[3]? = some (.v (.int .i64 s.lK.qF)):=(eP (by rw[gB];decide)).trans (Ca _)
theorem vH (s:Config):(bW s)[4]? = some (.v (.int .i64 s.lK.oP)):=(eP (by rw[gB];decide)).trans (Cb _)
theorem uW (s:Config):(bW s)[5]? = some (.v (.int .u64 s.lK.rQ)):=(eP (by rw[gB];decide)).trans (Ak _)
theorem It (s:Config):(bW s)[6]? = some (.v (.int .u64 s.jL)):=(aJ rfl (gB _)).trans (rfl)
theorem DW (s:Config) (x:Int):dS (bW s) 6 ([.v (.int .u64 x)]) 7=bW { s with jL:=x }:=(aC rfl rfl (gB _)).trans (bL (cM (bB _)))
theorem Qm (s:Config):(bW s)[7]? = some (.v (.int .u64 s.Hq)):=(aJ rfl (gB _)).trans ((aJ rfl (bB _)).trans (rfl))
theorem Sy (s:Config) (x:Int):dS (bW s) 7 ([.v (.int .u64 x)]) 8=bW { s with Hq:=x }:=(aC rfl rfl (gB _)).trans (bL ((aC rfl rfl (bB _)).trans (bL (cM (bB _)))))
theorem Ld (s:Config):rd (bW s) 8 4=gG s.CI:=(bG rfl (gB _)).trans ((bG rfl (bB _)).trans ((bG rfl (bB _)).trans (gN (dO _))))
theorem DX (s:Config) (x:qE):dS (bW s) 8 (gG x) 12=bW { s with CI:=x }:=(aC rfl rfl (gB _)).trans (bL ((aC rfl rfl (bB _)).trans (bL ((aC rfl rfl (bB _)).trans (bL (cM (dO _)))))))
theorem Qn (s:Config):rd (bW s) 12 32=bF s.cX:=(bG rfl (gB _)).trans ((bG rfl (bB _)).trans ((bG rfl (bB _)).trans ((bG rfl (dO _)).trans (gN (aO _)))))
theorem Qo (s:Config) (x:cN):dS (bW s) 12 (bF x) 44=bW { s with cX:=x }:=(aC rfl rfl (gB _)).trans (bL ((aC rfl rfl (bB _)).trans (bL ((aC rfl rfl (bB _)).trans (bL ((aC rfl rfl (dO _)).trans (bL (cM (aO _)))))))))
theorem zM (s:Config):(bW s)[44]? = some (s.iP):=(aJ rfl (gB _)).trans ((aJ rfl (bB _)).trans ((aJ rfl (bB _)).trans ((aJ rfl (dO _)).trans ((aJ rfl (aO _)).trans (rfl)))))
theorem Lf (s:Config) (x:AV):dS (bW s) 44 ([x]) 45=bW { s with iP:=x }:=(aC rfl rfl (gB _)).trans (bL ((aC rfl rfl (bB _)).trans (bL ((aC rfl rfl (bB _)).trans (bL ((aC rfl rfl (dO _)).trans (bL ((aC rfl rfl (aO _)).trans (bL (eM rfl))))))))))
def mQ:Config:=⟨KG,0,0,GW,dV,(.v (.slice none 0 0))⟩
def Qp:List Value:=Ql++([.int .u64 0]++([.int .u64 0]++(AJ++(tO++([.slice none 0 0])))))
theorem Sz:Qp.map AV.v=bW mQ:=by simp only[Qp,List.map_append,List.map_cons,List.map_nil,jM,jN,Sx];rfl
theorem Mf (st:St) (s:Config):Ux st (bW s)=cT (cS st s.iP) fun aBs=>some (bW { s with iP:=aBs }):=by
 simp only[bW,wN,lJ (uS _),lJ (eD _),lJ (iQ _),lJ (dX _),yO,oY,cO]
theorem DY (s:Config):rd (bW s) 0 45=bW s:=jA (bV _)
theorem DZ (s x:Config):dS (bW s) 0 (bW x) 45=bW x:=eM (bV _)
structure kO where
 has:Bool
 aE:Int
 root:cN
def jO (s:kO):List AV:=uT s.has++(lG s.aE++(bF s.root))
@[simp] theorem rV (s:kO):(jO s).length=34:=by simp[jO]
theorem YG (s:kO):∀x∈jO s,Flat x:=by
 intro x hx;simp only[jO,List.mem_append,List.mem_singleton] at hx;rcases hx with hx|hx|hx
 ·(exact tG _ _ hx)
 ·(exact eD _ _ hx)
 ·(exact dX _ _ hx)
theorem KI (s:kO):(jO s)[0]? = some (.v (.bool s.has)):=rfl
theorem RU (s:kO) (x:Bool):dS (jO s) 0 ([.v (.bool x)]) 1=jO { s with has:=x }:=cM (iC _)
theorem AT (s:kO):(jO s)[1]? = some (.v (.int .u64 s.aE)):=(aJ rfl (iC _)).trans (rfl)
theorem EA (s:kO) (x:Int):dS (jO s) 1 ([.v (.int .u64 x)]) 2=jO { s with aE:=x }:=(aC rfl rfl (iC _)).trans (bL (cM (bB _)))
theorem KJ (s:kO):rd (jO s) 2 32=bF s.root:=(bG rfl (iC _)).trans ((bG rfl (bB _)).trans (jA (aO _)))
theorem KK (s:kO) (x:cN):dS (jO s) 2 (bF x) 34=jO { s with root:=x }:=(aC rfl rfl (iC _)).trans (bL ((aC rfl rfl (bB _)).trans (bL (eM (aO _)))))
def tN:kO:=⟨false,0,dV⟩
def B5:List Value:=[.bool false]++([.int .u64 0]++(tO))
theorem B6:B5.map AV.v=jO tN:=by simp only[B5,List.map_append,List.map_cons,List.map_nil,jM,jN];rfl
def aGf:List Bool:=[false]++([true]++(Ip))
theorem YH (a b:kO):iS aGf (jO a) (jO b):=(fW (show iS [false] [_] [_] from trivial) (fW (show iS [true] [_] [_] from ⟨rfl,trivial⟩) (oA _ _)))
theorem L4 (a b:kO):jO a=jO b↔a=b:=by
 refine⟨fun h=>?_,fun h=>by rw[h]⟩
 cases a;cases b
 simp only[jO] at h;obtain⟨h0,h⟩:=List.append_inj h (by simp)
 obtain⟨h1,h⟩:=List.append_inj h (by simp)
 have e0:=(GV _ _).1 h0
 have e1:=(Io _ _).1 h1
 have e2:=(pZ _ _).1 h
 subst e0 e1 e2;rfl
theorem RV (s:kO):rd (jO s) 0 34=jO s:=jA (rV _)
theorem RW (s x:kO):dS (jO s) 0 (jO x) 34=jO x:=eM (rV _)
structure sG where
 slot:Int
 root:cN
 target:dP
 eZ:AV
def iD (s:sG):List AV:=lG s.slot++(bF s.root++(aW s.target++([s.eZ])))
@[simp] theorem iJ (s:sG):(iD s).length=67:=by simp[iD]
theorem Re (s:sG) (h0:Flat s.eZ):∀x∈iD s,Flat x:=by
 intro x hx;simp only[iD,List.mem_append,List.mem_singleton] at hx;rcases hx with hx|hx|hx|hx
 ·(exact eD _ _ hx)
 ·(exact dX _ _ hx)
 ·(exact bM _ _ hx)
 ·(subst hx;assumption)
theorem KL (s:sG):(iD s)[0]? = some (.v (.int .u64 s.slot)):=rfl
theorem RX (s:sG) (x:Int):dS (iD s) 0 ([.v (.int .u64 x)]) 1=iD { s with slot:=x }:=cM (bB _)
theorem RY (s:sG):rd (iD s) 1 32=bF s.root:=(bG rfl (bB _)).trans (gN (aO _))
theorem RZ (s:sG) (x:cN):dS (iD s) 1 (bF x) 33=iD { s with root:=x }:=(aC rfl rfl (bB _)).trans (bL (cM (aO _)))
theorem EB (s:sG):rd (iD s) 33 33=aW s.target:=(bG rfl (bB _)).trans ((bG rfl (aO _)).trans (gN (bR _)))
theorem EC (s:sG) (x:dP):dS (iD s) 33 (aW x) 66=iD { s with target:=x }:=(aC rfl rfl (bB _)).trans (bL ((aC rfl rfl (aO _)).trans (bL (cM (bR _)))))
theorem Iu (s:sG):(iD s)[33]? = some (.v (.int .u64 s.target.aE)):=(aJ rfl (bB _)).trans ((aJ rfl (aO _)).trans ((eP (by rw[bR];decide)).trans (kE _)))
theorem Kl (s:sG) (x:Int):dS (iD s) 33 ([.v (.int .u64 x)]) 34=iD { s with target:={ s.target with aE:=x }}:=(aC rfl rfl (bB _)).trans (bL ((aC rfl rfl (aO _)).trans (bL ((sR (by rw[bR];decide)).trans (Cr (qA _ x))))))
theorem Mv (s:sG):rd (iD s) 34 32=bF s.target.root:=(bG rfl (bB _)).trans ((bG rfl (aO _)).trans ((sQ (by rw[bR];decide)).trans (uU _)))
theorem Mw (s:sG) (x:cN):dS (iD s) 34 (bF x) 66=iD { s with target:={ s.target with root:=x }}:=(aC rfl rfl (bB _)).trans (bL ((aC rfl rfl (aO _)).trans (bL ((sR (by rw[bR];decide)).trans (Cr (Fq _ x))))))
theorem Et (s:sG):(iD s)[66]? = some (s.eZ):=(aJ rfl (bB _)).trans ((aJ rfl (aO _)).trans ((aJ rfl (bR _)).trans (rfl)))
theorem SA (s:sG) (x:AV):dS (iD s) 66 ([x]) 67=iD { s with eZ:=x }:=(aC rfl rfl (bB _)).trans (bL ((aC rfl rfl (aO _)).trans (bL ((aC rfl rfl (bR _)).trans (bL (eM rfl))))))
def Hw:sG:=⟨0,dV,fV,(.v (.slice none 0 0))⟩
def aBt:List Value:=[.int .u64 0]++(tO++(zS++([.slice none 0 0])))
theorem YI:aBt.map AV.v=iD Hw:=by simp only[aBt,List.map_append,List.map_cons,List.map_nil,jM,jN,Bl];rfl
theorem mA (st:St) (s:sG):Ux st (iD s)=cT (cS st s.eZ) fun YJ=>some (iD { s with eZ:=YJ }):=by
 simp only[iD,wN,lJ (eD _),lJ (dX _),lJ (bM _),yO,oY,cO]
theorem YK (s:sG):rd (iD s) 0 67=iD s:=jA (iJ _)
theorem YL (s x:sG):dS (iD s) 0 (iD x) 67=iD x:=eM (iJ _)
structure Claim where
 source:Int
 target:Int
 root:cN
 eZ:AV
def gU (s:Claim):List AV:=lG s.source++(lG s.target++(bF s.root++([s.eZ])))
@[simp] theorem iR (s:Claim):(gU s).length=35:=by simp[gU]
theorem Hk (s:Claim) (h0:Flat s.eZ):∀x∈gU s,Flat x:=by
 intro x hx;simp only[gU,List.mem_append,List.mem_singleton] at hx;rcases hx with hx|hx|hx|hx
 ·(exact eD _ _ hx)
 ·(exact eD _ _ hx)
 ·(exact dX _ _ hx)
 ·(subst hx;assumption)
theorem wD (s:Claim):(gU s)[0]? = some (.v (.int .u64 s.source)):=rfl
theorem Ge (s:Claim) (x:Int):dS (gU s) 0 ([.v (.int .u64 x)]) 1=gU { s with source:=x }:=cM (bB _)
theorem wE (s:Claim):(gU s)[1]? = some (.v (.int .u64 s.target)):=(aJ rfl (bB _)).trans (rfl)
theorem Gf (s:Claim) (x:Int):dS (gU s) 1 ([.v (.int .u64 x)]) 2=gU { s with target:=x }:=(aC rfl rfl (bB _)).trans (bL (cM (bB _)))
theorem ED (s:Claim):rd (gU s) 2 32=bF s.root:=(bG rfl (bB _)).trans ((bG rfl (bB _)).trans (gN (aO _)))
theorem Lg (s:Claim) (x:cN):dS (gU s) 2 (bF x) 34=gU { s with root:=x }:=(aC rfl rfl (bB _)).trans (bL ((aC rfl rfl (bB _)).trans (bL (cM (aO _)))))
theorem uI (s:Claim):(gU s)[34]? = some (s.eZ):=(aJ rfl (bB _)).trans ((aJ rfl (bB _)).trans ((aJ rfl (aO _)).trans (rfl)))
theorem EE (s:Claim) (x:AV):dS (gU s) 34 ([x]) 35=gU { s with eZ:=x }:=(aC rfl rfl (bB _)).trans (bL ((aC rfl rfl (bB _)).trans (bL ((aC rfl rfl (aO _)).trans (bL (eM rfl))))))
def KM:Claim:=⟨0,0,dV,(.v (.slice none 0 0))⟩
def Ta:List Value:=[.int .u64 0]++([.int .u64 0]++(tO++([.slice none 0 0])))
theorem AU:Ta.map AV.v=gU KM:=by simp only[Ta,List.map_append,List.map_cons,List.map_nil,jM,jN];rfl
theorem vW (st:St) (s:Claim):Ux st (gU s)=cT (cS st s.eZ) fun YJ=>some (gU { s with eZ:=YJ }):=by
 simp only[gU,wN,lJ (eD _),lJ (dX _),yO,oY,cO]
structure fY where
 first:Claim
 second:Claim
def cD (s:fY):List AV:=gU s.first++(gU s.second)
@[simp] theorem fN (s:fY):(cD s).length=70:=by simp[cD]
theorem Hl (s:fY) (h0:Flat s.first.eZ) (h1:Flat s.second.eZ):∀x∈cD s,Flat x:=by
 intro x hx;simp only[cD,List.mem_append,List.mem_singleton] at hx;rcases hx with hx|hx
 ·(exact Hk _ (by assumption) _ hx)
 ·(exact Hk _ (by assumption) _ hx)
theorem Qq (s:fY):rd (cD s) 0 35=gU s.first:=gN (iR _)
theorem Qr (s:fY) (x:Claim):dS (cD s) 0 (gU x) 35=cD { s with first:=x }:=cM (iR _)
theorem Ax (s:fY):(cD s)[0]? = some (.v (.int .u64 s.first.source)):=(eP (by rw[iR];decide)).trans (wD _)
theorem Ay (s:fY):(cD s)[1]? = some (.v (.int .u64 s.first.target)):=(eP (by rw[iR];decide)).trans (wE _)
theorem oM (s:fY):(cD s)[34]? = some (s.first.eZ):=(eP (by rw[iR];decide)).trans (uI _)
theorem Mx (s:fY):rd (cD s) 35 35=gU s.second:=(bG rfl (iR _)).trans (jA (iR _))
theorem My (s:fY) (x:Claim):dS (cD s) 35 (gU x) 70=cD { s with second:=x }:=(aC rfl rfl (iR _)).trans (bL (eM (iR _)))
theorem Al (s:fY):(cD s)[35]? = some (.v (.int .u64 s.second.source)):=(aJ rfl (iR _)).trans (wD _)
theorem Az (s:fY) (x:Int):dS (cD s) 35 ([.v (.int .u64 x)]) 36=cD { s with second:={ s.second with source:=x }}:=(aC rfl rfl (iR _)).trans (bL (Ge _ x))
theorem Am (s:fY):(cD s)[36]? = some (.v (.int .u64 s.second.target)):=(aJ rfl (iR _)).trans (wE _)
theorem Ba (s:fY) (x:Int):dS (cD s) 36 ([.v (.int .u64 x)]) 37=cD { s with second:={ s.second with target:=x }}:=(aC rfl rfl (iR _)).trans (bL (Gf _ x))
theorem Ee (s:fY) (x:cN):dS (cD s) 37 (bF x) 69=cD { s with second:={ s.second with root:=x }}:=(aC rfl rfl (iR _)).trans (bL (Lg _ x))
theorem nN (s:fY):(cD s)[69]? = some (s.second.eZ):=(aJ rfl (iR _)).trans (uI _)
def Tb:fY:=⟨KM,KM⟩
def Ef:List Value:=Ta++(Ta)
theorem Iv:Ef.map AV.v=cD Tb:=by simp only[Ef,List.map_append,List.map_cons,List.map_nil,jM,jN,AU];rfl
theorem rS (st:St) (s:fY):Ux st (cD s)=cT (cS st s.first.eZ) fun x_first_vals=>cT (cS st s.second.eZ) fun x_second_vals=>some (cD { s with first:={ s.first with eZ:=x_first_vals },second:={ s.second with eZ:=x_second_vals }}):=by
 simp only[cD,wN,vW,oY,cO]
theorem Vk (s:fY):rd (cD s) 0 70=cD s:=jA (fN _)
theorem Vl (s x:fY):dS (cD s) 0 (cD x) 70=cD x:=eM (fN _)
structure Table where
 ck:dP
 iP:AV
def cA (s:Table):List AV:=aW s.ck++([s.iP])
@[simp] theorem eN (s:Table):(cA s).length=34:=by simp[cA]
theorem Hm (s:Table) (h0:Flat s.iP):∀x∈cA s,Flat x:=by
 intro x hx;simp only[cA,List.mem_append,List.mem_singleton] at hx;rcases hx with hx|hx
 ·(exact bM _ _ hx)
 ·(subst hx;assumption)
theorem SC (s:Table):rd (cA s) 0 33=aW s.ck:=gN (bR _)
theorem SE (s:Table) (x:dP):dS (cA s) 0 (aW x) 33=cA { s with ck:=x }:=cM (bR _)
theorem Mz (s:Table):(cA s)[0]? = some (.v (.int .u64 s.ck.aE)):=(eP (by rw[bR];decide)).trans (kE _)
theorem Tc (s:Table):rd (cA s) 1 32=bF s.ck.root:=(sQ (by rw[bR];decide)).trans (uU _)
theorem Cj (s:Table):(cA s)[33]? = some (s.iP):=(aJ rfl (bR _)).trans (rfl)
theorem KN (s:Table) (x:AV):dS (cA s) 33 ([x]) 34=cA { s with iP:=x }:=(aC rfl rfl (bR _)).trans (bL (eM rfl))
def dZ:Table:=⟨fV,(.v (.slice none 0 0))⟩
def Mh:List Value:=zS++([.slice none 0 0])
theorem AW:Mh.map AV.v=cA dZ:=by simp only[Mh,List.map_append,List.map_cons,List.map_nil,jM,jN,Bl];rfl
theorem tM (st:St) (s:Table):Ux st (cA s)=cT (cS st s.iP) fun aBs=>some (cA { s with iP:=aBs }):=by
 simp only[cA,wN,lJ (bM _),yO,oY,cO]
theorem KO (s:Table):rd (cA s) 0 34=cA s:=jA (eN _)
theorem KP (s x:Table):dS (cA s) 0 (cA x) 34=cA x:=eM (eN _)
structure Request where
 tagged:xV
 block:cN
 tries:Int
 due:Int
def dF (s:Request):List AV:=mR s.tagged++(bF s.block++(qV s.tries++(lG s.due)))
@[simp] theorem gR (s:Request):(dF s).length=35:=by simp[dF]
theorem jQ (s:Request):∀x∈dF s,Flat x:=by
 intro x hx;simp only[dF,List.mem_append,List.mem_singleton] at hx;rcases hx with hx|hx|hx|hx
 ·(exact Qg _ _ hx)
 ·(exact dX _ _ hx)
 ·(exact mF _ _ hx)
 ·(exact eD _ _ hx)
theorem Qs (s:Request) (x:xV):dS (dF s) 0 (mR x) 1=dF { s with tagged:=x }:=cM (gY _)
theorem Ft (s:Request):(dF s)[0]? = some (.v (.int .u64 s.tagged.tag)):=(eP (by rw[gY];decide)).trans (Aj _)
theorem Td (s:Request):rd (dF s) 1 32=bF s.block:=(bG rfl (gY _)).trans (gN (aO _))
theorem Te (s:Request) (x:cN):dS (dF s) 1 (bF x) 33=dF { s with block:=x }:=(aC rfl rfl (gY _)).trans (bL (cM (aO _)))
theorem Qt (s:Request):(dF s)[33]? = some (.v (.int .i64 s.tries)):=(aJ rfl (gY _)).trans ((aJ rfl (aO _)).trans (rfl))
theorem Tf (s:Request) (x:Int):dS (dF s) 33 ([.v (.int .i64 x)]) 34=dF { s with tries:=x }:=(aC rfl rfl (gY _)).trans (bL ((aC rfl rfl (aO _)).trans (bL (cM (bJ _)))))
theorem Vm (s:Request):(dF s)[34]? = some (.v (.int .u64 s.due)):=(aJ rfl (gY _)).trans ((aJ rfl (aO _)).trans ((aJ rfl (bJ _)).trans (rfl)))
theorem AX (s:Request) (x:Int):dS (dF s) 34 ([.v (.int .u64 x)]) 35=dF { s with due:=x }:=(aC rfl rfl (gY _)).trans (bL ((aC rfl rfl (aO _)).trans (bL ((aC rfl rfl (bJ _)).trans (bL (eM (bB _)))))))
def cY:Request:=⟨Wo,dV,0,0⟩
def Qu:List Value:=Kb++(tO++([.int .i64 0]++([.int .u64 0])))
theorem AY:Qu.map AV.v=dF cY:=by simp only[Qu,List.map_append,List.map_cons,List.map_nil,jM,jN,Kc];rfl
theorem AZ (s:Request):rd (dF s) 0 35=dF s:=jA (gR _)
theorem BA (s x:Request):dS (dF s) 0 (dF x) 35=dF x:=eM (gR _)
structure Command where
 head:cN
 safe:cN
 fin:cN
def eK (s:Command):List AV:=bF s.head++(bF s.safe++(bF s.fin))
@[simp] theorem nH (s:Command):(eK s).length=96:=by simp[eK]
theorem sN (s:Command):∀x∈eK s,Flat x:=by
 intro x hx;simp only[eK,List.mem_append,List.mem_singleton] at hx;rcases hx with hx|hx|hx
 ·(exact dX _ _ hx)
 ·(exact dX _ _ hx)
 ·(exact dX _ _ hx)
theorem Vn (s:Command) (x:cN):dS (eK s) 0 (bF x) 32=eK { s with head:=x }:=cM (aO _)
theorem Vo (s:Command) (x:cN):dS (eK s) 32 (bF x) 64=eK { s with safe:=x }:=(aC rfl rfl (aO _)).trans (bL (cM (aO _)))
theorem BB (s:Command) (x:cN):dS (eK s) 64 (bF x) 96=eK { s with fin:=x }:=(aC rfl rfl (aO _)).trans (bL ((aC rfl rfl (aO _)).trans (bL (eM (aO _)))))
def BC:Command:=⟨dV,dV,dV⟩
def Iw:List Value:=tO++(tO++(tO))
theorem Na:Iw.map AV.v=eK BC:=by simp only[Iw,List.map_append,List.map_cons,List.map_nil,jM,jN];rfl
def SF:List Bool:=Ip++(Ip++(Ip))
theorem EF (a b:Command):iS SF (eK a) (eK b):=(fW (oA _ _) (fW (oA _ _) (oA _ _)))
theorem KQ (a b:Command):eK a=eK b↔a=b:=by
 refine⟨fun h=>?_,fun h=>by rw[h]⟩
 cases a;cases b
 simp only[eK] at h;obtain⟨h0,h⟩:=List.append_inj h (by simp)
 obtain⟨h1,h⟩:=List.append_inj h (by simp)
 have e0:=(pZ _ _).1 h0
 have e1:=(pZ _ _).1 h1
 have e2:=(pZ _ _).1 h
 subst e0 e1 e2;rfl
theorem BD (s:Command):rd (eK s) 0 96=eK s:=jA (nH _)
theorem BE (s x:Command):dS (eK s) 0 (eK x) 96=eK x:=eM (nH _)
structure vE where
 eB:AV
 gW:AV
def fF (s:vE):List AV:=[s.eB]++([s.gW])
@[simp] theorem dI (s:vE):(fF s).length=2:=by simp[fF]
theorem qW (s:vE) (h0:Flat s.eB) (h1:Flat s.gW):∀x∈fF s,Flat x:=by
 intro x hx;simp only[fF,List.mem_append,List.mem_singleton] at hx;rcases hx with hx|hx
 ·(subst hx;assumption)
 ·(subst hx;assumption)
theorem vQ (s:vE):(fF s)[0]? = some (s.eB):=rfl
theorem Gg (s:vE) (x:AV):dS (fF s) 0 ([x]) 1=fF { s with eB:=x }:=cM rfl
theorem xQ (s:vE):(fF s)[1]? = some (s.gW):=(aJ rfl rfl).trans (rfl)
theorem Ix (s:vE) (x:AV):dS (fF s) 1 ([x]) 2=fF { s with gW:=x }:=(aC rfl rfl rfl).trans (bL (eM rfl))
def Lv:vE:=⟨(.v (.slice none 0 0)),(.v (.slice none 0 0))⟩
def BF:List Value:=[.slice none 0 0]++([.slice none 0 0])
theorem BG:BF.map AV.v=fF Lv:=by simp only[BF,List.map_append,List.map_cons,List.map_nil,jM,jN];rfl
theorem L5 (st:St) (s:vE):Ux st (fF s)=cT (cS st s.eB) fun x_latest=>cT (cS st s.gW) fun x_equiv=>some (fF { s with eB:=x_latest,gW:=x_equiv }):=by
 simp only[fF,wN,yO,oY,cO]
theorem KR (s:vE):rd (fF s) 0 2=fF s:=jA (dI _)
theorem KS (s x:vE):dS (fF s) 0 (fF x) 2=fF x:=eM (dI _)
structure kD where
 gD:dP
 fin:dP
def eR (s:kD):List AV:=aW s.gD++(aW s.fin)
@[simp] theorem dC (s:kD):(eR s).length=66:=by simp[eR]
theorem lF (s:kD):∀x∈eR s,Flat x:=by
 intro x hx;simp only[eR,List.mem_append,List.mem_singleton] at hx;rcases hx with hx|hx
 ·(exact bM _ _ hx)
 ·(exact bM _ _ hx)
theorem Eg (s:kD):rd (eR s) 0 33=aW s.gD:=gN (bR _)
theorem Eh (s:kD) (x:dP):dS (eR s) 0 (aW x) 33=eR { s with gD:=x }:=cM (bR _)
theorem tS (s:kD):(eR s)[0]? = some (.v (.int .u64 s.gD.aE)):=(eP (by rw[bR];decide)).trans (kE _)
theorem vI (s:kD):rd (eR s) 1 32=bF s.gD.root:=(sQ (by rw[bR];decide)).trans (uU _)
theorem Gh (s:kD):rd (eR s) 33 33=aW s.fin:=(bG rfl (bR _)).trans (jA (bR _))
theorem Gi (s:kD) (x:dP):dS (eR s) 33 (aW x) 66=eR { s with fin:=x }:=(aC rfl rfl (bR _)).trans (bL (eM (bR _)))
theorem uX (s:kD):(eR s)[33]? = some (.v (.int .u64 s.fin.aE)):=(aJ rfl (bR _)).trans (kE _)
theorem xJ (s:kD):rd (eR s) 34 32=bF s.fin.root:=(bG rfl (bR _)).trans (uU _)
def Tg:kD:=⟨fV,fV⟩
def Ei:List Value:=zS++(zS)
theorem Iy:Ei.map AV.v=eR Tg:=by simp only[Ei,List.map_append,List.map_cons,List.map_nil,jM,jN,Bl];rfl
def GX:List Bool:=Un++(Un)
theorem BH (a b:kD):iS GX (eR a) (eR b):=(fW (tH _ _) (tH _ _))
theorem EG (a b:kD):eR a=eR b↔a=b:=by
 refine⟨fun h=>?_,fun h=>by rw[h]⟩
 cases a;cases b
 simp only[eR] at h;obtain⟨h0,h⟩:=List.append_inj h (by simp)
 have e0:=(mY _ _).1 h0
 have e1:=(mY _ _).1 h
 subst e0 e1;rfl
structure zN where
 early:AV
 bN:AV
def jX (s:zN):List AV:=[s.early]++([s.bN])
@[simp] theorem iK (s:zN):(jX s).length=2:=by simp[jX]
theorem Ob (s:zN) (h0:Flat s.early) (h1:Flat s.bN):∀x∈jX s,Flat x:=by
 intro x hx;simp only[jX,List.mem_append,List.mem_singleton] at hx;rcases hx with hx|hx
 ·(subst hx;assumption)
 ·(subst hx;assumption)
theorem vR (s:zN):(jX s)[0]? = some (s.early):=rfl
theorem Gj (s:zN) (x:AV):dS (jX s) 0 ([x]) 1=jX { s with early:=x }:=cM rfl
theorem sZ (s:zN):(jX s)[1]? = some (s.bN):=(aJ rfl rfl).trans (rfl)
theorem Cc (s:zN) (x:AV):dS (jX s) 1 ([x]) 2=jX { s with bN:=x }:=(aC rfl rfl rfl).trans (bL (eM rfl))
def Ey:zN:=⟨(.v (.slice none 0 0)),(.v (.slice none 0 0))⟩
def Wp:List Value:=[.slice none 0 0]++([.slice none 0 0])
theorem GY:Wp.map AV.v=jX Ey:=by simp only[Wp,List.map_append,List.map_cons,List.map_nil,jM,jN];rfl
theorem YM (st:St) (s:zN):Ux st (jX s)=cT (cS st s.early) fun x_early=>cT (cS st s.bN) fun x_orphans=>some (jX { s with early:=x_early,bN:=x_orphans }):=by
 simp only[jX,wN,yO,oY,cO]
structure Gb where
 nodes:AV
def mV (s:Gb):List AV:=[s.nodes]
@[simp] theorem mO (s:Gb):(mV s).length=1:=by simp[mV]
theorem wS (s:Gb) (h0:Flat s.nodes):∀x∈mV s,Flat x:=by
 intro x hx;simp only[mV,List.mem_append,List.mem_singleton] at hx;(subst hx;assumption)
theorem xR (s:Gb):(mV s)[0]? = some (s.nodes):=rfl
theorem Iz (s:Gb) (x:AV):dS (mV s) 0 ([x]) 1=mV { s with nodes:=x }:=eM rfl
def Rl:Gb:=⟨(.v (.slice none 0 0))⟩
def YN:List Value:=[.slice none 0 0]
theorem SG:YN.map AV.v=mV Rl:=by simp only[YN,List.map_append,List.map_cons,List.map_nil,jM,jN];rfl
theorem L6 (st:St) (s:Gb):Ux st (mV s)=cT (cS st s.nodes) fun x_nodes=>some (mV { s with nodes:=x_nodes }):=by
 simp only[mV,wN,yO,oY,cO]
structure aL where
 cFg:Config
 gK:vE
 aU:kD
 cF:zN
 tree:Gb
 now:Int
 eW:cN
 tables:AV
def aA (s:aL):List AV:=bW s.cFg++(fF s.gK++(eR s.aU++(jX s.cF++(mV s.tree++(lG s.now++(bF s.eW++([s.tables])))))))
@[simp] theorem dG (s:aL):(aA s).length=150:=by simp[aA]
theorem Tt (s:aL) (h0:Flat s.cFg.iP) (h1:Flat s.gK.eB) (h2:Flat s.gK.gW) (h3:Flat s.cF.early) (h4:Flat s.cF.bN) (h5:Flat s.tree.nodes) (h6:Flat s.tables):∀x∈aA s,Flat x:=by
 intro x hx;simp only[aA,List.mem_append,List.mem_singleton] at hx;rcases hx with hx|hx|hx|hx|hx|hx|hx|hx
 ·(exact uF _ (by assumption) _ hx)
 ·(exact qW _ (by assumption) (by assumption) _ hx)
 ·(exact lF _ _ hx)
 ·(exact Ob _ (by assumption) (by assumption) _ hx)
 ·(exact wS _ (by assumption) _ hx)
 ·(exact eD _ _ hx)
 ·(exact dX _ _ hx)
 ·(subst hx;assumption)
theorem Vp (s:aL):rd (aA s) 0 45=bW s.cFg:=gN (bV _)
theorem Vq (s:aL) (x:Config):dS (aA s) 0 (bW x) 45=aA { s with cFg:=x }:=cM (bV _)
theorem An (s:aL):(aA s)[0]? = some (.v (.int .i64 s.cFg.lK.sM)):=(eP (by rw[bV];decide)).trans (xH _)
theorem Ao (s:aL):(aA s)[1]? = some (.v (.int .i64 s.cFg.lK.wU)):=(eP (by rw[bV];decide)).trans (xI _)
theorem yP (s:aL):(aA s)[2]? = some (.v (.int .i64 s.cFg.lK.qG)):=(eP (by rw[bV];decide)).trans (vF _)
theorem yQ (s:aL):(aA s)[3]? = some (.v (.int .i64 s.cFg.lK.qF)):=(eP (by rw[bV];decide)).trans (vG _)
theorem qO (s:aL):(aA s)[4]? = some (.v (.int .i64 s.cFg.lK.oP)):=(eP (by rw[bV];decide)).trans (vH _)
theorem pW (s:aL):(aA s)[5]? = some (.v (.int .u64 s.cFg.lK.rQ)):=(eP (by rw[bV];decide)).trans (uW _)
theorem Ja (s:aL):(aA s)[6]? = some (.v (.int .u64 s.cFg.jL)):=(eP (by rw[bV];decide)).trans (It _)
theorem Km (s:aL):rd (aA s) 8 4=gG s.cFg.CI:=(sQ (by rw[bV];decide)).trans (Ld _)
theorem qX (s:aL):(aA s)[44]? = some (s.cFg.iP):=(eP (by rw[bV];decide)).trans (zM _)
theorem Kn (s:aL) (x:AV):dS (aA s) 44 ([x]) 45=aA { s with cFg:={ s.cFg with iP:=x }}:=(sR (by rw[bV];decide)).trans (Cr (Lf _ x))
theorem BI (s:aL):rd (aA s) 45 2=fF s.gK:=(bG rfl (bV _)).trans (gN (dI _))
theorem BJ (s:aL) (x:vE):dS (aA s) 45 (fF x) 47=aA { s with gK:=x }:=(aC rfl rfl (bV _)).trans (bL (cM (dI _)))
theorem pH (s:aL):(aA s)[45]? = some (s.gK.eB):=(aJ rfl (bV _)).trans ((eP (by rw[dI];decide)).trans (vQ _))
theorem Gt (s:aL) (x:AV):dS (aA s) 45 ([x]) 46=aA { s with gK:={ s.gK with eB:=x }}:=(aC rfl rfl (bV _)).trans (bL ((sR (by rw[dI];decide)).trans (Cr (Gg _ x))))
theorem qD (s:aL):(aA s)[46]? = some (s.gK.gW):=(aJ rfl (bV _)).trans ((eP (by rw[dI];decide)).trans (xQ _))
theorem Jb (s:aL) (x:AV):dS (aA s) 46 ([x]) 47=aA { s with gK:={ s.gK with gW:=x }}:=(aC rfl rfl (bV _)).trans (bL ((sR (by rw[dI];decide)).trans (Cr (Ix _ x))))
theorem Qv (s:aL):rd (aA s) 47 66=eR s.aU:=(bG rfl (bV _)).trans ((bG rfl (dI _)).trans (gN (dC _)))
theorem Qw (s:aL) (x:kD):dS (aA s) 47 (eR x) 113=aA { s with aU:=x }:=(aC rfl rfl (bV _)).trans (bL ((aC rfl rfl (dI _)).trans (bL (cM (dC _)))))
theorem Fu (s:aL):rd (aA s) 47 33=aW s.aU.gD:=(bG rfl (bV _)).trans ((bG rfl (dI _)).trans ((sQ (by rw[dC];decide)).trans (Eg _)))
theorem Fv (s:aL) (x:dP):dS (aA s) 47 (aW x) 80=aA { s with aU:={ s.aU with gD:=x }}:=(aC rfl rfl (bV _)).trans (bL ((aC rfl rfl (dI _)).trans (bL ((sR (by rw[dC];decide)).trans (Cr (Eh _ x))))))
theorem xK (s:aL):(aA s)[47]? = some (.v (.int .u64 s.aU.gD.aE)):=(aJ rfl (bV _)).trans ((aJ rfl (dI _)).trans ((eP (by rw[dC];decide)).trans (tS _)))
theorem qP (s:aL):rd (aA s) 48 32=bF s.aU.gD.root:=(bG rfl (bV _)).trans ((bG rfl (dI _)).trans ((sQ (by rw[dC];decide)).trans (vI _)))
theorem Gu (s:aL):rd (aA s) 80 33=aW s.aU.fin:=(bG rfl (bV _)).trans ((bG rfl (dI _)).trans ((sQ (by rw[dC];decide)).trans (Gh _)))
theorem Gv (s:aL) (x:dP):dS (aA s) 80 (aW x) 113=aA { s with aU:={ s.aU with fin:=x }}:=(aC rfl rfl (bV _)).trans (bL ((aC rfl rfl (dI _)).trans (bL ((sR (by rw[dC];decide)).trans (Cr (Gi _ x))))))
theorem xW (s:aL):(aA s)[80]? = some (.v (.int .u64 s.aU.fin.aE)):=(aJ rfl (bV _)).trans ((aJ rfl (dI _)).trans ((eP (by rw[dC];decide)).trans (uX _)))
theorem rK (s:aL):rd (aA s) 81 32=bF s.aU.fin.root:=(bG rfl (bV _)).trans ((bG rfl (dI _)).trans ((sQ (by rw[dC];decide)).trans (xJ _)))
theorem pI (s:aL):(aA s)[113]? = some (s.cF.early):=(aJ rfl (bV _)).trans ((aJ rfl (dI _)).trans ((aJ rfl (dC _)).trans ((eP (by rw[iK];decide)).trans (vR _))))
theorem Gw (s:aL) (x:AV):dS (aA s) 113 ([x]) 114=aA { s with cF:={ s.cF with early:=x }}:=(aC rfl rfl (bV _)).trans (bL ((aC rfl rfl (dI _)).trans (bL ((aC rfl rfl (dC _)).trans (bL ((sR (by rw[iK];decide)).trans (Cr (Gj _ x))))))))
theorem nM (s:aL):(aA s)[114]? = some (s.cF.bN):=(aJ rfl (bV _)).trans ((aJ rfl (dI _)).trans ((aJ rfl (dC _)).trans ((eP (by rw[iK];decide)).trans (sZ _))))
theorem Ej (s:aL) (x:AV):dS (aA s) 114 ([x]) 115=aA { s with cF:={ s.cF with bN:=x }}:=(aC rfl rfl (bV _)).trans (bL ((aC rfl rfl (dI _)).trans (bL ((aC rfl rfl (dC _)).trans (bL ((sR (by rw[iK];decide)).trans (Cr (Cc _ x))))))))
theorem Lh (s:aL):rd (aA s) 115 1=mV s.tree:=(bG rfl (bV _)).trans ((bG rfl (dI _)).trans ((bG rfl (dC _)).trans ((bG rfl (iK _)).trans (gN (mO _)))))
theorem Cu (s:aL) (x:Gb):dS (aA s) 115 (mV x) 116=aA { s with tree:=x }:=(aC rfl rfl (bV _)).trans (bL ((aC rfl rfl (dI _)).trans (bL ((aC rfl rfl (dC _)).trans (bL ((aC rfl rfl (iK _)).trans (bL (cM (mO _)))))))))
theorem qY (s:aL):(aA s)[115]? = some (s.tree.nodes):=(aJ rfl (bV _)).trans ((aJ rfl (dI _)).trans ((aJ rfl (dC _)).trans ((aJ rfl (iK _)).trans ((eP (by rw[mO];decide)).trans (xR _)))))
theorem Ko (s:aL) (x:AV):dS (aA s) 115 ([x]) 116=aA { s with tree:={ s.tree with nodes:=x }}:=(aC rfl rfl (bV _)).trans (bL ((aC rfl rfl (dI _)).trans (bL ((aC rfl rfl (dC _)).trans (bL ((aC rfl rfl (iK _)).trans (bL ((sR (by rw[mO];decide)).trans (Cr (Iz _ x))))))))))
theorem Li (s:aL):(aA s)[116]? = some (.v (.int .u64 s.now)):=(aJ rfl (bV _)).trans ((aJ rfl (dI _)).trans ((aJ rfl (dC _)).trans ((aJ rfl (iK _)).trans ((aJ rfl (mO _)).trans (rfl)))))
theorem KT (s:aL) (x:Int):dS (aA s) 116 ([.v (.int .u64 x)]) 117=aA { s with now:=x }:=(aC rfl rfl (bV _)).trans (bL ((aC rfl rfl (dI _)).trans (bL ((aC rfl rfl (dC _)).trans (bL ((aC rfl rfl (iK _)).trans (bL ((aC rfl rfl (mO _)).trans (bL (cM (bB _)))))))))))
theorem Jc (s:aL):rd (aA s) 117 32=bF s.eW:=(bG rfl (bV _)).trans ((bG rfl (dI _)).trans ((bG rfl (dC _)).trans ((bG rfl (iK _)).trans ((bG rfl (mO _)).trans ((bG rfl (bB _)).trans (gN (aO _)))))))
theorem Jd (s:aL) (x:cN):dS (aA s) 117 (bF x) 149=aA { s with eW:=x }:=(aC rfl rfl (bV _)).trans (bL ((aC rfl rfl (dI _)).trans (bL ((aC rfl rfl (dC _)).trans (bL ((aC rfl rfl (iK _)).trans (bL ((aC rfl rfl (mO _)).trans (bL ((aC rfl rfl (bB _)).trans (bL (cM (aO _)))))))))))))
theorem vS (s:aL):(aA s)[149]? = some (s.tables):=(aJ rfl (bV _)).trans ((aJ rfl (dI _)).trans ((aJ rfl (dC _)).trans ((aJ rfl (iK _)).trans ((aJ rfl (mO _)).trans ((aJ rfl (bB _)).trans ((aJ rfl (aO _)).trans (rfl)))))))
theorem Vr (s:aL) (x:AV):dS (aA s) 149 ([x]) 150=aA { s with tables:=x }:=(aC rfl rfl (bV _)).trans (bL ((aC rfl rfl (dI _)).trans (bL ((aC rfl rfl (dC _)).trans (bL ((aC rfl rfl (iK _)).trans (bL ((aC rfl rfl (mO _)).trans (bL ((aC rfl rfl (bB _)).trans (bL ((aC rfl rfl (aO _)).trans (bL (eM rfl))))))))))))))
def gA:aL:=⟨mQ,Lv,Tg,Ey,Rl,0,dV,(.v (.slice none 0 0))⟩
def BK:List Value:=Qp++(BF++(Ei++(Wp++(YN++([.int .u64 0]++(tO++([.slice none 0 0])))))))
theorem BL:BK.map AV.v=aA gA:=by simp only[BK,List.map_append,List.map_cons,List.map_nil,jM,jN,Sz,BG,Iy,GY,SG];rfl
theorem gJ (st:St) (s:aL):Ux st (aA s)=cT (cS st s.cFg.iP) fun x_config_bal=>cT (cS st s.gK.eB) fun x_votes_latest=>cT (cS st s.gK.gW) fun x_votes_equiv=>cT (cS st s.cF.early) fun x_queues_early=>cT (cS st s.cF.bN) fun x_queues_orphans=>cT (cS st s.tree.nodes) fun x_tree_nodes=>cT (cS st s.tables) fun x_tables=>some (aA { s with cFg:={ s.cFg with iP:=x_config_bal },gK:={ s.gK with eB:=x_votes_latest,gW:=x_votes_equiv },cF:={ s.cF with early:=x_queues_early,bN:=x_queues_orphans },tree:={ s.tree with nodes:=x_tree_nodes },tables:=x_tables }):=by
 simp only[aA,wN,Mf,L5,lJ (lF _),YM,L6,lJ (eD _),lJ (dX _),yO,oY,cO]
theorem KU (s:aL):rd (aA s) 0 150=aA s:=jA (dG _)
theorem KV (s x:aL):dS (aA s) 0 (aA x) 150=aA x:=eM (dG _)
structure State where
 store:aL
 iY:AV
 rO:AV
 dA:Int
 Lx:Bool
 last:Command
 overflow:Bool
 halted:Bool
def aQ (s:State):List AV:=aA s.store++([s.iY]++([s.rO]++(lG s.dA++(uT s.Lx++(eK s.last++(uT s.overflow++(uT s.halted)))))))
@[simp] theorem Nb (s:State):(aQ s).length=252:=by simp[aQ]
theorem MS (s:State) (h0:Flat s.store.cFg.iP) (h1:Flat s.store.gK.eB) (h2:Flat s.store.gK.gW) (h3:Flat s.store.cF.early) (h4:Flat s.store.cF.bN) (h5:Flat s.store.tree.nodes) (h6:Flat s.store.tables) (h7:Flat s.iY) (h8:Flat s.rO):∀x∈aQ s,Flat x:=by
 intro x hx;simp only[aQ,List.mem_append,List.mem_singleton] at hx;rcases hx with hx|hx|hx|hx|hx|hx|hx|hx
 ·(exact Tt _ (by assumption) (by assumption) (by assumption) (by assumption) (by assumption) (by assumption) (by assumption) _ hx)
 ·(subst hx;assumption)
 ·(subst hx;assumption)
 ·(exact eD _ _ hx)
 ·(exact tG _ _ hx)
 ·(exact sN _ _ hx)
 ·(exact tG _ _ hx)
 ·(exact tG _ _ hx)
theorem BM (s:State):rd (aQ s) 0 150=aA s.store:=gN (dG _)
theorem BN (s:State) (x:aL):dS (aQ s) 0 (aA x) 150=aQ { s with store:=x }:=cM (dG _)
theorem tX (s:State):(aQ s)[4]? = some (.v (.int .i64 s.store.cFg.lK.oP)):=(eP (by rw[dG];decide)).trans (qO _)
theorem tI (s:State):(aQ s)[5]? = some (.v (.int .u64 s.store.cFg.lK.rQ)):=(eP (by rw[dG];decide)).trans (pW _)
theorem qZ (s:State):(aQ s)[44]? = some (s.store.cFg.iP):=(eP (by rw[dG];decide)).trans (qX _)
theorem pQ (s:State):(aQ s)[45]? = some (s.store.gK.eB):=(eP (by rw[dG];decide)).trans (pH _)
theorem qM (s:State):(aQ s)[46]? = some (s.store.gK.gW):=(eP (by rw[dG];decide)).trans (qD _)
theorem tY (s:State):rd (aQ s) 48 32=bF s.store.aU.gD.root:=(sQ (by rw[dG];decide)).trans (qP _)
theorem uY (s:State):rd (aQ s) 81 32=bF s.store.aU.fin.root:=(sQ (by rw[dG];decide)).trans (rK _)
theorem pR (s:State):(aQ s)[113]? = some (s.store.cF.early):=(eP (by rw[dG];decide)).trans (pI _)
theorem oL (s:State):(aQ s)[114]? = some (s.store.cF.bN):=(eP (by rw[dG];decide)).trans (nM _)
theorem Kp (s:State):rd (aQ s) 115 1=mV s.store.tree:=(sQ (by rw[dG];decide)).trans (Lh _)
theorem yC (s:State) (x:Gb):dS (aQ s) 115 (mV x) 116=aQ { s with store:={ s.store with tree:=x }}:=(sR (by rw[dG];decide)).trans (Cr (Cu _ x))
theorem rA (s:State):(aQ s)[115]? = some (s.store.tree.nodes):=(eP (by rw[dG];decide)).trans (qY _)
theorem Kq (s:State):(aQ s)[116]? = some (.v (.int .u64 s.store.now)):=(eP (by rw[dG];decide)).trans (Li _)
theorem Je (s:State):rd (aQ s) 117 32=bF s.store.eW:=(sQ (by rw[dG];decide)).trans (Jc _)
theorem Jf (s:State) (x:cN):dS (aQ s) 117 (bF x) 149=aQ { s with store:={ s.store with eW:=x }}:=(sR (by rw[dG];decide)).trans (Cr (Jd _ x))
theorem uH (s:State):(aQ s)[149]? = some (s.store.tables):=(eP (by rw[dG];decide)).trans (vS _)
theorem zO (s:State):(aQ s)[150]? = some (s.iY):=(aJ rfl (dG _)).trans (rfl)
theorem Qx (s:State) (x:AV):dS (aQ s) 150 ([x]) 151=aQ { s with iY:=x }:=(aC rfl rfl (dG _)).trans (bL (cM rfl))
theorem Bh (s:State):(aQ s)[151]? = some (s.rO):=(aJ rfl (dG _)).trans ((aJ rfl rfl).trans (rfl))
theorem Th (s:State) (x:AV):dS (aQ s) 151 ([x]) 152=aQ { s with rO:=x }:=(aC rfl rfl (dG _)).trans (bL ((aC rfl rfl rfl).trans (bL (cM rfl))))
theorem Qy (s:State):(aQ s)[152]? = some (.v (.int .u64 s.dA)):=(aJ rfl (dG _)).trans ((aJ rfl rfl).trans ((aJ rfl rfl).trans (rfl)))
theorem Ti (s:State) (x:Int):dS (aQ s) 152 ([.v (.int .u64 x)]) 153=aQ { s with dA:=x }:=(aC rfl rfl (dG _)).trans (bL ((aC rfl rfl rfl).trans (bL ((aC rfl rfl rfl).trans (bL (cM (bB _)))))))
theorem BO (s:State):(aQ s)[153]? = some (.v (.bool s.Lx)):=(aJ rfl (dG _)).trans ((aJ rfl rfl).trans ((aJ rfl rfl).trans ((aJ rfl (bB _)).trans (rfl))))
theorem EH (s:State) (x:Bool):dS (aQ s) 153 ([.v (.bool x)]) 154=aQ { s with Lx:=x }:=(aC rfl rfl (dG _)).trans (bL ((aC rfl rfl rfl).trans (bL ((aC rfl rfl rfl).trans (bL ((aC rfl rfl (bB _)).trans (bL (cM (iC _)))))))))
theorem EI (s:State):rd (aQ s) 154 96=eK s.last:=(bG rfl (dG _)).trans ((bG rfl rfl).trans ((bG rfl rfl).trans ((bG rfl (bB _)).trans ((bG rfl (iC _)).trans (gN (nH _))))))
theorem EJ (s:State) (x:Command):dS (aQ s) 154 (eK x) 250=aQ { s with last:=x }:=(aC rfl rfl (dG _)).trans (bL ((aC rfl rfl rfl).trans (bL ((aC rfl rfl rfl).trans (bL ((aC rfl rfl (bB _)).trans (bL ((aC rfl rfl (iC _)).trans (bL (cM (nH _)))))))))))
theorem Qz (s:State) (x:Bool):dS (aQ s) 250 ([.v (.bool x)]) 251=aQ { s with overflow:=x }:=(aC rfl rfl (dG _)).trans (bL ((aC rfl rfl rfl).trans (bL ((aC rfl rfl rfl).trans (bL ((aC rfl rfl (bB _)).trans (bL ((aC rfl rfl (iC _)).trans (bL ((aC rfl rfl (nH _)).trans (bL (cM (iC _)))))))))))))
theorem Tj (s:State):(aQ s)[251]? = some (.v (.bool s.halted)):=(aJ rfl (dG _)).trans ((aJ rfl rfl).trans ((aJ rfl rfl).trans ((aJ rfl (bB _)).trans ((aJ rfl (iC _)).trans ((aJ rfl (nH _)).trans ((aJ rfl (iC _)).trans (rfl)))))))
theorem Vs (s:State) (x:Bool):dS (aQ s) 251 ([.v (.bool x)]) 252=aQ { s with halted:=x }:=(aC rfl rfl (dG _)).trans (bL ((aC rfl rfl rfl).trans (bL ((aC rfl rfl rfl).trans (bL ((aC rfl rfl (bB _)).trans (bL ((aC rfl rfl (iC _)).trans (bL ((aC rfl rfl (nH _)).trans (bL ((aC rfl rfl (iC _)).trans (bL (eM (iC _)))))))))))))))
def lZ:State:=⟨gA,(.v (.slice none 0 0)),(.v (.slice none 0 0)),0,false,BC,false,false⟩
def KW:List Value:=BK++([.slice none 0 0]++([.slice none 0 0]++([.int .u64 0]++([.bool false]++(Iw++([.bool false]++([.bool false])))))))
theorem SH:KW.map AV.v=aQ lZ:=by simp only[KW,List.map_append,List.map_cons,List.map_nil,jM,jN,BL,Na];rfl
theorem vX (st:St) (s:State):Ux st (aQ s)=cT (cS st s.store.cFg.iP) fun x_store_config_bal=>cT (cS st s.store.gK.eB) fun x_store_votes_latest=>cT (cS st s.store.gK.gW) fun x_store_votes_equiv=>cT (cS st s.store.cF.early) fun x_store_queues_early=>cT (cS st s.store.cF.bN) fun x_store_queues_orphans=>cT (cS st s.store.tree.nodes) fun x_store_tree_nodes=>cT (cS st s.store.tables) fun x_store_tables=>cT (cS st s.iY) fun x_requests=>cT (cS st s.rO) fun x_retries=>some (aQ { s with store:={ s.store with cFg:={ s.store.cFg with iP:=x_store_config_bal },gK:={ s.store.gK with eB:=x_store_votes_latest,gW:=x_store_votes_equiv },cF:={ s.store.cF with early:=x_store_queues_early,bN:=x_store_queues_orphans },tree:={ s.store.tree with nodes:=x_store_tree_nodes },tables:=x_store_tables },iY:=x_requests,rO:=x_retries }):=by
 simp only[aQ,wN,gJ,yO,lJ (eD _),lJ (tG _),lJ (sN _),oY,cO]
theorem KX (s:State):rd (aQ s) 0 252=aQ s:=jA (Nb _)
theorem KY (s x:State):dS (aQ s) 0 (aQ x) 252=aQ x:=eM (Nb _)
structure xM where
 kind:Int
 block:Block
 Gp:sG
 pB:fY
 table:Table
 verdict:gV
 write:Int
 qR:Int
def lA (s:xM):List AV:=qV s.kind++(aP s.block++(iD s.Gp++(cD s.pB++(cA s.table++(dL s.verdict++(qV s.write++(qV s.qR)))))))
@[simp] theorem BP (s:xM):(lA s).length=446:=by simp[lA]
theorem E7 (s:xM) (h0:Flat s.Gp.eZ) (h1:Flat s.pB.first.eZ) (h2:Flat s.pB.second.eZ) (h3:Flat s.table.iP):∀x∈lA s,Flat x:=by
 intro x hx;simp only[lA,List.mem_append,List.mem_singleton] at hx;rcases hx with hx|hx|hx|hx|hx|hx|hx|hx
 ·(exact mF _ _ hx)
 ·(exact Bx _ _ hx)
 ·(exact Re _ (by assumption) _ hx)
 ·(exact Hl _ (by assumption) (by assumption) _ hx)
 ·(exact Hm _ (by assumption) _ hx)
 ·(exact jR _ _ hx)
 ·(exact mF _ _ hx)
 ·(exact mF _ _ hx)
theorem KZ (s:xM):(lA s)[0]? = some (.v (.int .i64 s.kind)):=rfl
theorem SI (s:xM) (x:Int):dS (lA s) 0 ([.v (.int .i64 x)]) 1=lA { s with kind:=x }:=cM (bJ _)
theorem LA (s:xM):rd (lA s) 1 238=aP s.block:=(bG rfl (bJ _)).trans (gN (bT _))
theorem LB (s:xM) (x:Block):dS (lA s) 1 (aP x) 239=lA { s with block:=x }:=(aC rfl rfl (bJ _)).trans (bL (cM (bT _)))
theorem YO (s:xM):rd (lA s) 239 67=iD s.Gp:=(bG rfl (bJ _)).trans ((bG rfl (bT _)).trans (gN (iJ _)))
theorem YP (s:xM) (x:sG):dS (lA s) 239 (iD x) 306=lA { s with Gp:=x }:=(aC rfl rfl (bJ _)).trans (bL ((aC rfl rfl (bT _)).trans (bL (cM (iJ _)))))
theorem De (s:xM):(lA s)[305]? = some (s.Gp.eZ):=(aJ rfl (bJ _)).trans ((aJ rfl (bT _)).trans ((eP (by rw[iJ];decide)).trans (Et _)))
theorem LC (s:xM):rd (lA s) 306 70=cD s.pB:=(bG rfl (bJ _)).trans ((bG rfl (bT _)).trans ((bG rfl (iJ _)).trans (gN (fN _))))
theorem LD (s:xM) (x:fY):dS (lA s) 306 (cD x) 376=lA { s with pB:=x }:=(aC rfl rfl (bJ _)).trans (bL ((aC rfl rfl (bT _)).trans (bL ((aC rfl rfl (iJ _)).trans (bL (cM (fN _)))))))
theorem sJ (s:xM):(lA s)[340]? = some (s.pB.first.eZ):=(aJ rfl (bJ _)).trans ((aJ rfl (bT _)).trans ((aJ rfl (iJ _)).trans ((eP (by rw[fN];decide)).trans (oM _))))
theorem rZ (s:xM):(lA s)[375]? = some (s.pB.second.eZ):=(aJ rfl (bJ _)).trans ((aJ rfl (bT _)).trans ((aJ rfl (iJ _)).trans ((eP (by rw[fN];decide)).trans (nN _))))
theorem LF (s:xM):rd (lA s) 376 34=cA s.table:=(bG rfl (bJ _)).trans ((bG rfl (bT _)).trans ((bG rfl (iJ _)).trans ((bG rfl (fN _)).trans (gN (eN _)))))
theorem LG (s:xM) (x:Table):dS (lA s) 376 (cA x) 410=lA { s with table:=x }:=(aC rfl rfl (bJ _)).trans (bL ((aC rfl rfl (bT _)).trans (bL ((aC rfl rfl (iJ _)).trans (bL ((aC rfl rfl (fN _)).trans (bL (cM (eN _)))))))))
theorem Bi (s:xM):(lA s)[409]? = some (s.table.iP):=(aJ rfl (bJ _)).trans ((aJ rfl (bT _)).trans ((aJ rfl (iJ _)).trans ((aJ rfl (fN _)).trans ((eP (by rw[eN];decide)).trans (Cj _)))))
theorem BR (s:xM):rd (lA s) 410 34=dL s.verdict:=(bG rfl (bJ _)).trans ((bG rfl (bT _)).trans ((bG rfl (iJ _)).trans ((bG rfl (fN _)).trans ((bG rfl (eN _)).trans (gN (mE _))))))
theorem BS (s:xM) (x:gV):dS (lA s) 410 (dL x) 444=lA { s with verdict:=x }:=(aC rfl rfl (bJ _)).trans (bL ((aC rfl rfl (bT _)).trans (bL ((aC rfl rfl (iJ _)).trans (bL ((aC rfl rfl (fN _)).trans (bL ((aC rfl rfl (eN _)).trans (bL (cM (mE _)))))))))))
theorem EK (s:xM):(lA s)[444]? = some (.v (.int .i64 s.write)):=(aJ rfl (bJ _)).trans ((aJ rfl (bT _)).trans ((aJ rfl (iJ _)).trans ((aJ rfl (fN _)).trans ((aJ rfl (eN _)).trans ((aJ rfl (mE _)).trans (rfl))))))
theorem LH (s:xM) (x:Int):dS (lA s) 444 ([.v (.int .i64 x)]) 445=lA { s with write:=x }:=(aC rfl rfl (bJ _)).trans (bL ((aC rfl rfl (bT _)).trans (bL ((aC rfl rfl (iJ _)).trans (bL ((aC rfl rfl (fN _)).trans (bL ((aC rfl rfl (eN _)).trans (bL ((aC rfl rfl (mE _)).trans (bL (cM (bJ _)))))))))))))
theorem LI (s:xM):(lA s)[445]? = some (.v (.int .i64 s.qR)):=(aJ rfl (bJ _)).trans ((aJ rfl (bT _)).trans ((aJ rfl (iJ _)).trans ((aJ rfl (fN _)).trans ((aJ rfl (eN _)).trans ((aJ rfl (mE _)).trans ((aJ rfl (bJ _)).trans (rfl)))))))
theorem SJ (s:xM) (x:Int):dS (lA s) 445 ([.v (.int .i64 x)]) 446=lA { s with qR:=x }:=(aC rfl rfl (bJ _)).trans (bL ((aC rfl rfl (bT _)).trans (bL ((aC rfl rfl (iJ _)).trans (bL ((aC rfl rfl (fN _)).trans (bL ((aC rfl rfl (eN _)).trans (bL ((aC rfl rfl (mE _)).trans (bL ((aC rfl rfl (bJ _)).trans (bL (eM (bJ _)))))))))))))))
def zX:xM:=⟨0,eA,Hw,Tb,dZ,AQ,0,0⟩
def aEh:List Value:=[.int .i64 0]++(Fg++(aBt++(Ef++(Mh++(Dr++([.int .i64 0]++([.int .i64 0])))))))
theorem aBu:aEh.map AV.v=lA zX:=by simp only[aEh,List.map_append,List.map_cons,List.map_nil,jM,jN,Qe,YI,Iv,AW,Mu];rfl
theorem YQ (s:xM):rd (lA s) 0 446=lA s:=jA (BP _)
theorem YR (s x:xM):dS (lA s) 0 (lA x) 446=lA x:=eM (BP _)
def dD (l:List kO):List AV:=l.flatMap jO
@[simp] theorem YS (l:List (kO)):(dD l).length=l.length * 34:=by
 induction l with
 | nil=>rfl
 | cons x l ih=>simp only[dD,List.flatMap_cons,List.length_append,rV,List.length_cons] at *;omega
theorem nD (l:List (kO)):∀x∈dD l,Flat x:=by
 intro x hx;obtain⟨y,_,hy⟩:=List.mem_flatMap.1 hx
 exact YG y x hy
def dR (l:List sG):List AV:=l.flatMap iD
@[simp] theorem aKi (l:List (sG)):(dR l).length=l.length * 67:=by
 induction l with
 | nil=>rfl
 | cons x l ih=>simp only[dR,List.flatMap_cons,List.length_append,iJ,List.length_cons] at *;omega
theorem tD (l:List (sG)) (h:∀y∈l,Flat y.eZ):∀x∈dR l,Flat x:=by
 intro x hx;obtain⟨y,hm,hy⟩:=List.mem_flatMap.1 hx
 exact Re y (h y hm) x hy
def aI (l:List Table):List AV:=l.flatMap cA
@[simp] theorem xD (l:List (Table)):(aI l).length=l.length * 34:=by
 induction l with
 | nil=>rfl
 | cons x l ih=>simp only[aI,List.flatMap_cons,List.length_append,eN,List.length_cons] at *;omega
theorem jY (l:List (Table)) (h:∀y∈l,Flat y.iP):∀x∈aI l,Flat x:=by
 intro x hx;obtain⟨y,hm,hy⟩:=List.mem_flatMap.1 hx
 exact Hm y (h y hm) x hy
def aF (l:List Request):List AV:=l.flatMap dF
@[simp] theorem EL (l:List (Request)):(aF l).length=l.length * 35:=by
 induction l with
 | nil=>rfl
 | cons x l ih=>simp only[aF,List.flatMap_cons,List.length_append,gR,List.length_cons] at *;omega
theorem uK (l:List (Request)):∀x∈aF l,Flat x:=by
 intro x hx;obtain⟨y,_,hy⟩:=List.mem_flatMap.1 hx
 exact jQ y x hy
end Go.Ab
end
