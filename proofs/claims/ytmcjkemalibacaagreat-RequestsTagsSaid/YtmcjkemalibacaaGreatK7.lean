/-
  Part 7 of the proof: an evaluator of programs, its soundness, and what functions of this program compute.
-/
import Derived.Test.YtmcjkemalibacaaGreatK6
set_option linter.all false
set_option maxRecDepth 20000
set_option maxHeartbeats 40000000
section
namespace Go.Ab
open Classical
variable [Ext]
noncomputable def AK (st:St) (cs:List AV):Option (List AV):=cF (cs.map (cI st))
theorem tN (st:St) (a b:List AV):AK st (a++b)=cH (AK st a) fun x=>cH (AK st b) fun y=>some (x++y):=by
 unfold AK;induction a with
 | nil=>simp[cF,cH];cases cF (b.map (cI st))<;>rfl
 | cons c a ih =>
   simp only[List.cons_append,List.map_cons];cases cI st c with
   | none=>rfl
   | some c' =>
     simp only[cF,ih];cases cF (a.map (cI st)) with
     | none=>rfl
     | some a' =>
       simp only[cH,Option.map_some];cases cF (b.map (cI st))<;>rfl
theorem vH (st:St) (x:AV):AK st [x]=cH (cI st x) fun y=>some [y]:=by
 unfold AK;simp only[List.map_cons,List.map_nil];cases cI st x<;>rfl
theorem iZ {st:St} {cs:List AV} (h:∀c∈cs,Flat c):AK st cs=some cs:=by
 unfold AK;induction cs with
 | nil=>rfl
 | cons c cs ih =>
   simp only[List.map_cons,cE (h c (by simp)),cF,ih fun x hx=>h x (by simp[hx]),Option.map_some]
theorem bO (st:St) (cs:List AV):eT st (.agg cs)=cH (AK st cs) fun x=>some (.agg x):=by
 unfold eT;by_cases h:Flat (.agg cs)
 ·rw[if_pos h];have h':∀c∈cs,Flat c:=by cases h with|agg _ h=>exact h
  rw[iZ h'];rfl
 ·rw[if_neg h];simp only[AK];cases cF (cs.map (cI st))<;>rfl
def ov {α:Type} (c:List α→List AV):Option (List α)→AV
 | none=>.v (.slice none 0 0)
 | some l=>.sl l.length (c l)
def ol {α:Type} (o:Option (List α)):List α:=o.getD []
theorem xF {α:Type} (l:List α):ol (some l)=l:=rfl
theorem aCz {α:Type}:ol (none:Option (List α))=[]:=rfl
def gx {α:Type} (z:α) (l:List α) (i:Int):α:=l.getD i.toNat z
theorem VE {α:Type} {z:α} {l:List α} {i:Int} (h0:0≤i) (h1:i<l.length):∃h:i.toNat<l.length,gx z l i=l[i.toNat]:=by
 have h:i.toNat<l.length:=by omega
 exact⟨h,by simp[gx,h]⟩
theorem yI {α:Type} {z:α} {l:List α} {i:Int} (h0:0≤i) (h1:i<l.length):gx z l i∈l:=by
 obtain⟨h,e⟩:=VE (z:=z) h0 h1
 rw[e];exact List.getElem_mem h
def yJ (l:List fK):List AV:=l.flatMap bV
@[simp] theorem Vy (l:List (fK)):(yJ l).length=l.length * 33:=by
 induction l with
 | nil=>rfl
 | cons x l ih=>simp only[yJ,List.flatMap_cons,List.length_append,bP,List.length_cons] at *;omega
def aH (l:List Block):List AV:=l.flatMap aT
@[simp] theorem Aj (l:List (Block)):(aH l).length=l.length * 238:=by
 induction l with
 | nil=>rfl
 | cons x l ih=>simp only[aH,List.flatMap_cons,List.length_append,bN,List.length_cons] at *;omega
theorem oO (l:List (Block)):∀x∈aH l,Flat x:=by
 intro x hx;obtain⟨y,_,hy⟩:=List.mem_flatMap.1 hx
 exact Aq y x hy
def mG (l:List Bool):List AV:=l.flatMap uF
@[simp] theorem aFX (l:List (Bool)):(mG l).length=l.length * 1:=by
 induction l with
 | nil=>rfl
 | cons x l ih=>simp only[mG,List.flatMap_cons,List.length_append,gS,List.length_cons] at *;omega
theorem Sb (l:List (Bool)):∀x∈mG l,Flat x:=by
 intro x hx;obtain⟨y,_,hy⟩:=List.mem_flatMap.1 hx
 exact lW y x hy
structure sK where
 tag:Int
def jN (s:sK):List AV:=rV s.tag
@[simp] theorem gF (s:sK):(jN s).length=1:=by simp[jN]
theorem Ec (s:sK):∀x∈jN s,Flat x:=by
 intro x hx;simp only[jN,List.mem_append,List.mem_singleton] at hx;(exact dW _ _ hx)
theorem PD (s:sK):∀x∈jN s,fF x:=by
 intro x hx;simp only[jN,List.mem_append] at hx;exact NS _ _ hx
theorem zA (s:sK):(jN s)[0]? = some (.v (.int .u64 s.tag)):=rfl
theorem Jv (s:sK) (x:Int):dJ (jN s) 0 ([.v (.int .u64 x)]) 1=jN { s with tag:=x }:=eA (aW _)
def Uq:sK:=⟨0⟩
def Iu:List Value:=[.int .u64 0]
theorem Iv:Iu.map AV.v=jN Uq:=by simp only[Iu,List.map_append,List.map_cons,List.map_nil,jC,jD];rfl
def HX:List Bool:=[true]
theorem Oo (a b:sK):jY HX (jN a) (jN b):=(show jY [true] [_] [_] from ⟨rfl,trivial⟩)
theorem Ss (a b:sK):jN a=jN b↔a=b:=by
 refine⟨fun h=>?_,fun h=>by rw[h]⟩
 cases a;cases b
 simp only[jN] at h;have e0:=(Od _ _).1 h
 subst e0;rfl
structure eR where
 tagged:sK
 kind:Int
 dR:cC
def bU (s:eR):List AV:=jN s.tagged++(pK s.kind++(aV s.dR))
@[simp] theorem lL (s:eR):(bU s).length=34:=by simp[bU]
theorem fV (s:eR):∀x∈bU s,Flat x:=by
 intro x hx;simp only[bU,List.mem_append,List.mem_singleton] at hx;rcases hx with hx|hx|hx
 ·(exact Ec _ _ hx)
 ·(exact lS _ _ hx)
 ·(exact dD _ _ hx)
theorem Oq (s:eR) (x:sK):dJ (bU s) 0 (jN x) 1=bU { s with tagged:=x }:=cD (gF _)
theorem Em (s:eR):(bU s)[0]? = some (.v (.int .u64 s.tagged.tag)):=(eD (by rw[gF];decide)).trans (zA _)
theorem Fq (s:eR) (x:Int):dJ (bU s) 0 ([.v (.int .u64 x)]) 1=bU { s with tagged:={ s.tagged with tag:=x }}:=(tR (by rw[gF];decide)).trans (Ej (Jv _ x))
theorem Rb (s:eR):(bU s)[1]? = some (.v (.int .i64 s.kind)):=(aG rfl (gF _)).trans (rfl)
theorem Tl (s:eR) (x:Int):dJ (bU s) 1 ([.v (.int .i64 x)]) 2=bU { s with kind:=x }:=(aC rfl rfl (gF _)).trans (bF (cD (aZ _)))
theorem Ot (s:eR):rd (bU s) 2 32=aV s.dR:=(aY rfl (gF _)).trans ((aY rfl (aZ _)).trans (iQ (aL _)))
theorem Ou (s:eR) (x:cC):dJ (bU s) 2 (aV x) 34=bU { s with dR:=x }:=(aC rfl rfl (gF _)).trans (bF ((aC rfl rfl (aZ _)).trans (bF (eA (aL _)))))
def tO:eR:=⟨Uq,0,dI⟩
def Cm:List Value:=Iu++([.int .i64 0]++(sT))
theorem Ln:Cm.map AV.v=bU tO:=by simp only[Cm,List.map_append,List.map_cons,List.map_nil,jC,jD,Iv];rfl
def PE:List Bool:=HX++([true]++(Hh))
theorem BN (a b:eR):jY PE (bU a) (bU b):=(gT (Oo _ _) (gT (show jY [true] [_] [_] from ⟨rfl,trivial⟩) (mW _ _)))
theorem HY (a b:eR):bU a=bU b↔a=b:=by
 refine⟨fun h=>?_,fun h=>by rw[h]⟩
 cases a;cases b
 simp only[bU] at h;obtain⟨h0,h⟩:=List.append_inj h (by simp)
 obtain⟨h1,h⟩:=List.append_inj h (by simp)
 have e0:=(Ss _ _).1 h0
 have e1:=(NT _ _).1 h1
 have e2:=(pH _ _).1 h
 subst e0 e1 e2;rfl
theorem Yn (s:eR):rd (bU s) 0 34=bU s:=iQ (lL _)
theorem Yo (s x:eR):dJ (bU s) 0 (bU x) 34=bU x:=eA (lL _)
structure nU where
 rD:Int
 vQ:Int
 pM:Int
 qJ:Int
 nK:Int
 qV:Int
def iJ (s:nU):List AV:=pK s.rD++(pK s.vQ++(pK s.pM++(pK s.qJ++(pK s.nK++(rV s.qV)))))
@[simp] theorem fZ (s:nU):(iJ s).length=6:=by simp[iJ]
theorem tM (s:nU):∀x∈iJ s,Flat x:=by
 intro x hx;simp only[iJ,List.mem_append,List.mem_singleton] at hx;rcases hx with hx|hx|hx|hx|hx|hx
 ·(exact lS _ _ hx)
 ·(exact lS _ _ hx)
 ·(exact lS _ _ hx)
 ·(exact lS _ _ hx)
 ·(exact lS _ _ hx)
 ·(exact dW _ _ hx)
theorem Cv (s:nU):(iJ s)[0]? = some (.v (.int .i64 s.rD)):=rfl
theorem Tm (s:nU) (x:Int):dJ (iJ s) 0 ([.v (.int .i64 x)]) 1=iJ { s with rD:=x }:=cD (aZ _)
theorem Cw (s:nU):(iJ s)[1]? = some (.v (.int .i64 s.vQ)):=(aG rfl (aZ _)).trans (rfl)
theorem Tn (s:nU) (x:Int):dJ (iJ s) 1 ([.v (.int .i64 x)]) 2=iJ { s with vQ:=x }:=(aC rfl rfl (aZ _)).trans (bF (cD (aZ _)))
theorem Ar (s:nU):(iJ s)[2]? = some (.v (.int .i64 s.pM)):=(aG rfl (aZ _)).trans ((aG rfl (aZ _)).trans (rfl))
theorem Rc (s:nU) (x:Int):dJ (iJ s) 2 ([.v (.int .i64 x)]) 3=iJ { s with pM:=x }:=(aC rfl rfl (aZ _)).trans (bF ((aC rfl rfl (aZ _)).trans (bF (cD (aZ _)))))
theorem As (s:nU):(iJ s)[3]? = some (.v (.int .i64 s.qJ)):=(aG rfl (aZ _)).trans ((aG rfl (aZ _)).trans ((aG rfl (aZ _)).trans (rfl)))
theorem Rd (s:nU) (x:Int):dJ (iJ s) 3 ([.v (.int .i64 x)]) 4=iJ { s with qJ:=x }:=(aC rfl rfl (aZ _)).trans (bF ((aC rfl rfl (aZ _)).trans (bF ((aC rfl rfl (aZ _)).trans (bF (cD (aZ _)))))))
theorem At (s:nU):(iJ s)[4]? = some (.v (.int .i64 s.nK)):=(aG rfl (aZ _)).trans ((aG rfl (aZ _)).trans ((aG rfl (aZ _)).trans ((aG rfl (aZ _)).trans (rfl))))
theorem Re (s:nU) (x:Int):dJ (iJ s) 4 ([.v (.int .i64 x)]) 5=iJ { s with nK:=x }:=(aC rfl rfl (aZ _)).trans (bF ((aC rfl rfl (aZ _)).trans (bF ((aC rfl rfl (aZ _)).trans (bF ((aC rfl rfl (aZ _)).trans (bF (cD (aZ _)))))))))
theorem zB (s:nU):(iJ s)[5]? = some (.v (.int .u64 s.qV)):=(aG rfl (aZ _)).trans ((aG rfl (aZ _)).trans ((aG rfl (aZ _)).trans ((aG rfl (aZ _)).trans ((aG rfl (aZ _)).trans (rfl)))))
theorem Ov (s:nU) (x:Int):dJ (iJ s) 5 ([.v (.int .u64 x)]) 6=iJ { s with qV:=x }:=(aC rfl rfl (aZ _)).trans (bF ((aC rfl rfl (aZ _)).trans (bF ((aC rfl rfl (aZ _)).trans (bF ((aC rfl rfl (aZ _)).trans (bF ((aC rfl rfl (aZ _)).trans (bF (eA (aW _)))))))))))
def HZ:nU:=⟨0,0,0,0,0,0⟩
def Ow:List Value:=[.int .i64 0]++([.int .i64 0]++([.int .i64 0]++([.int .i64 0]++([.int .i64 0]++([.int .u64 0])))))
theorem Rf:Ow.map AV.v=iJ HZ:=by simp only[Ow,List.map_append,List.map_cons,List.map_nil,jC,jD];rfl
structure Config where
 lT:nU
 qG:Int
 Gq:Int
 AD:rS
 dV:cC
 jH:AV
def bR (s:Config):List AV:=iJ s.lT++(rV s.qG++(rV s.Gq++(gI s.AD++(aV s.dV++([s.jH])))))
@[simp] theorem bL (s:Config):(bR s).length=45:=by simp[bR]
theorem tH (s:Config) (h0:Flat s.jH):∀x∈bR s,Flat x:=by
 intro x hx;simp only[bR,List.mem_append,List.mem_singleton] at hx;rcases hx with hx|hx|hx|hx|hx|hx
 ·(exact tM _ _ hx)
 ·(exact dW _ _ hx)
 ·(exact dW _ _ hx)
 ·(exact iG _ _ hx)
 ·(exact dD _ _ hx)
 ·(subst hx;assumption)
theorem BO (s:Config) (x:nU):dJ (bR s) 0 (iJ x) 6=bR { s with lT:=x }:=cD (fZ _)
theorem vZ (s:Config):(bR s)[0]? = some (.v (.int .i64 s.lT.rD)):=(eD (by rw[fZ];decide)).trans (Cv _)
theorem wA (s:Config):(bR s)[1]? = some (.v (.int .i64 s.lT.vQ)):=(eD (by rw[fZ];decide)).trans (Cw _)
theorem uG (s:Config):(bR s)[2]? = some (.v (.int .i64 s.lT.pM)):=(eD (by rw[fZ];decide)).trans (Ar _)
theorem uH (s:Config):(bR s)[3]? = some (.v (.int .i64 s.lT.qJ)):=(eD (by rw[fZ];decide)).trans (As _)
theorem uI (s:Config):(bR s)[4]? = some (.v (.int .i64 s.lT.nK)):=(eD (by rw[fZ];decide)).trans (At _)
theorem tT (s:Config):(bR s)[5]? = some (.v (.int .u64 s.lT.qV)):=(eD (by rw[fZ];decide)).trans (zB _)
theorem Hl (s:Config):(bR s)[6]? = some (.v (.int .u64 s.qG)):=(aG rfl (fZ _)).trans (rfl)
theorem BP (s:Config) (x:Int):dJ (bR s) 6 ([.v (.int .u64 x)]) 7=bR { s with qG:=x }:=(aC rfl rfl (fZ _)).trans (bF (cD (aW _)))
theorem Ox (s:Config):(bR s)[7]? = some (.v (.int .u64 s.Gq)):=(aG rfl (fZ _)).trans ((aG rfl (aW _)).trans (rfl))
theorem Rh (s:Config) (x:Int):dJ (bR s) 7 ([.v (.int .u64 x)]) 8=bR { s with Gq:=x }:=(aC rfl rfl (fZ _)).trans (bF ((aC rfl rfl (aW _)).trans (bF (cD (aW _)))))
theorem Jw (s:Config):rd (bR s) 8 4=gI s.AD:=(aY rfl (fZ _)).trans ((aY rfl (aW _)).trans ((aY rfl (aW _)).trans (gH (dP _))))
theorem BR (s:Config) (x:rS):dJ (bR s) 8 (gI x) 12=bR { s with AD:=x }:=(aC rfl rfl (fZ _)).trans (bF ((aC rfl rfl (aW _)).trans (bF ((aC rfl rfl (aW _)).trans (bF (cD (dP _)))))))
theorem Au (s:Config):rd (bR s) 12 32=aV s.dV:=(aY rfl (fZ _)).trans ((aY rfl (aW _)).trans ((aY rfl (aW _)).trans ((aY rfl (dP _)).trans (gH (aL _)))))
theorem Oy (s:Config) (x:cC):dJ (bR s) 12 (aV x) 44=bR { s with dV:=x }:=(aC rfl rfl (fZ _)).trans (bF ((aC rfl rfl (aW _)).trans (bF ((aC rfl rfl (aW _)).trans (bF ((aC rfl rfl (dP _)).trans (bF (cD (aL _)))))))))
theorem yD (s:Config):(bR s)[44]? = some (s.jH):=(aG rfl (fZ _)).trans ((aG rfl (aW _)).trans ((aG rfl (aW _)).trans ((aG rfl (dP _)).trans ((aG rfl (aL _)).trans (rfl)))))
theorem Jx (s:Config) (x:AV):dJ (bR s) 44 ([x]) 45=bR { s with jH:=x }:=(aC rfl rfl (fZ _)).trans (bF ((aC rfl rfl (aW _)).trans (bF ((aC rfl rfl (aW _)).trans (bF ((aC rfl rfl (dP _)).trans (bF ((aC rfl rfl (aL _)).trans (bF (eA rfl))))))))))
def mO:Config:=⟨HZ,0,0,EE,dI,(.v (.slice none 0 0))⟩
def Oz:List Value:=Ow++([.int .u64 0]++([.int .u64 0]++(Yh++(sT++([.slice none 0 0])))))
theorem Ri:Oz.map AV.v=bR mO:=by simp only[Oz,List.map_append,List.map_cons,List.map_nil,jC,jD,Rf];rfl
theorem Wt (st:St) (s:Config):AK st (bR s)=cH (cI st s.jH) fun Y4=>some (bR { s with jH:=Y4 }):=by
 simp only[bR,tN,iZ (tM _),iZ (dW _),iZ (iG _),iZ (dD _),vH,mH,cT]
theorem BS (s:Config):rd (bR s) 0 45=bR s:=iQ (bL _)
theorem BT (s x:Config):dJ (bR s) 0 (bR x) 45=bR x:=eA (bL _)
structure lE where
 has:Bool
 aK:Int
 root:cC
def lV (s:lE):List AV:=uF s.has++(rV s.aK++(aV s.root))
@[simp] theorem rA (s:lE):(lV s).length=34:=by simp[lV]
theorem VF (s:lE):∀x∈lV s,Flat x:=by
 intro x hx;simp only[lV,List.mem_append,List.mem_singleton] at hx;rcases hx with hx|hx|hx
 ·(exact lW _ _ hx)
 ·(exact dW _ _ hx)
 ·(exact dD _ _ hx)
theorem IA (s:lE):(lV s)[0]? = some (.v (.bool s.has)):=rfl
theorem PF (s:lE) (x:Bool):dJ (lV s) 0 ([.v (.bool x)]) 1=lV { s with has:=x }:=cD (gS _)
theorem Yp (s:lE):(lV s)[1]? = some (.v (.int .u64 s.aK)):=(aG rfl (gS _)).trans (rfl)
theorem BU (s:lE) (x:Int):dJ (lV s) 1 ([.v (.int .u64 x)]) 2=lV { s with aK:=x }:=(aC rfl rfl (gS _)).trans (bF (cD (aW _)))
theorem IB (s:lE):rd (lV s) 2 32=aV s.root:=(aY rfl (gS _)).trans ((aY rfl (aW _)).trans (iQ (aL _)))
theorem IC (s:lE) (x:cC):dJ (lV s) 2 (aV x) 34=lV { s with root:=x }:=(aC rfl rfl (gS _)).trans (bF ((aC rfl rfl (aW _)).trans (bF (eA (aL _)))))
def rT:lE:=⟨false,0,dI⟩
def YG:List Value:=[.bool false]++([.int .u64 0]++(sT))
theorem YH:YG.map AV.v=lV rT:=by simp only[YG,List.map_append,List.map_cons,List.map_nil,jC,jD];rfl
theorem PG (s:lE):rd (lV s) 0 34=lV s:=iQ (rA _)
theorem PH (s x:lE):dJ (lV s) 0 (lV x) 34=lV x:=eA (rA _)
structure rQ where
 slot:Int
 root:cC
 target:fK
 eK:AV
def iF (s:rQ):List AV:=rV s.slot++(aV s.root++(bV s.target++([s.eK])))
@[simp] theorem gX (s:rQ):(iF s).length=67:=by simp[iF]
theorem Pt (s:rQ) (h0:Flat s.eK):∀x∈iF s,Flat x:=by
 intro x hx;simp only[iF,List.mem_append,List.mem_singleton] at hx;rcases hx with hx|hx|hx|hx
 ·(exact dW _ _ hx)
 ·(exact dD _ _ hx)
 ·(exact dA _ _ hx)
 ·(subst hx;assumption)
theorem ID (s:rQ):(iF s)[0]? = some (.v (.int .u64 s.slot)):=rfl
theorem PI (s:rQ) (x:Int):dJ (iF s) 0 ([.v (.int .u64 x)]) 1=iF { s with slot:=x }:=cD (aW _)
theorem PJ (s:rQ):rd (iF s) 1 32=aV s.root:=(aY rfl (aW _)).trans (gH (aL _))
theorem PK (s:rQ) (x:cC):dJ (iF s) 1 (aV x) 33=iF { s with root:=x }:=(aC rfl rfl (aW _)).trans (bF (cD (aL _)))
theorem BV (s:rQ):rd (iF s) 33 33=bV s.target:=(aY rfl (aW _)).trans ((aY rfl (aL _)).trans (gH (bP _)))
theorem BW (s:rQ) (x:fK):dJ (iF s) 33 (bV x) 66=iF { s with target:=x }:=(aC rfl rfl (aW _)).trans (bF ((aC rfl rfl (aL _)).trans (bF (cD (bP _)))))
theorem Hm (s:rQ):(iF s)[33]? = some (.v (.int .u64 s.target.aK)):=(aG rfl (aW _)).trans ((aG rfl (aL _)).trans ((eD (by rw[bP];decide)).trans (jO _)))
theorem Jc (s:rQ) (x:Int):dJ (iF s) 33 ([.v (.int .u64 x)]) 34=iF { s with target:={ s.target with aK:=x }}:=(aC rfl rfl (aW _)).trans (bF ((aC rfl rfl (aL _)).trans (bF ((tR (by rw[bP];decide)).trans (Ej (Bm _ x))))))
theorem Lo (s:rQ):rd (iF s) 34 32=aV s.target.root:=(aY rfl (aW _)).trans ((aY rfl (aL _)).trans ((pS (by rw[bP];decide)).trans (tS _)))
theorem Lp (s:rQ) (x:cC):dJ (iF s) 34 (aV x) 66=iF { s with target:={ s.target with root:=x }}:=(aC rfl rfl (aW _)).trans (bF ((aC rfl rfl (aL _)).trans (bF ((tR (by rw[bP];decide)).trans (Ej (Ek _ x))))))
theorem Dt (s:rQ):(iF s)[66]? = some (s.eK):=(aG rfl (aW _)).trans ((aG rfl (aL _)).trans ((aG rfl (bP _)).trans (rfl)))
theorem PL (s:rQ) (x:AV):dJ (iF s) 66 ([x]) 67=iF { s with eK:=x }:=(aC rfl rfl (aW _)).trans (bF ((aC rfl rfl (aL _)).trans (bF ((aC rfl rfl (bP _)).trans (bF (eA rfl))))))
def Ku:rQ:=⟨0,dI,gR,(.v (.slice none 0 0))⟩
def Y5:List Value:=[.int .u64 0]++(sT++(Cb++([.slice none 0 0])))
theorem VG:Y5.map AV.v=iF Ku:=by simp only[Y5,List.map_append,List.map_cons,List.map_nil,jC,jD,Ae];rfl
theorem lG (st:St) (s:rQ):AK st (iF s)=cH (cI st s.eK) fun VH=>some (iF { s with eK:=VH }):=by
 simp only[iF,tN,iZ (dW _),iZ (dD _),iZ (dA _),vH,mH,cT]
theorem VI (s:rQ):rd (iF s) 0 67=iF s:=iQ (gX _)
theorem VJ (s x:rQ):dJ (iF s) 0 (iF x) 67=iF x:=eA (gX _)
structure Claim where
 source:Int
 target:Int
 root:cC
 eK:AV
def gL (s:Claim):List AV:=rV s.source++(rV s.target++(aV s.root++([s.eK])))
@[simp] theorem iH (s:Claim):(gL s).length=35:=by simp[gL]
theorem Gi (s:Claim) (h0:Flat s.eK):∀x∈gL s,Flat x:=by
 intro x hx;simp only[gL,List.mem_append,List.mem_singleton] at hx;rcases hx with hx|hx|hx|hx
 ·(exact dW _ _ hx)
 ·(exact dW _ _ hx)
 ·(exact dD _ _ hx)
 ·(subst hx;assumption)
theorem vC (s:Claim):(gL s)[0]? = some (.v (.int .u64 s.source)):=rfl
theorem Fb (s:Claim) (x:Int):dJ (gL s) 0 ([.v (.int .u64 x)]) 1=gL { s with source:=x }:=cD (aW _)
theorem vD (s:Claim):(gL s)[1]? = some (.v (.int .u64 s.target)):=(aG rfl (aW _)).trans (rfl)
theorem Fc (s:Claim) (x:Int):dJ (gL s) 1 ([.v (.int .u64 x)]) 2=gL { s with target:=x }:=(aC rfl rfl (aW _)).trans (bF (cD (aW _)))
theorem BX (s:Claim):rd (gL s) 2 32=aV s.root:=(aY rfl (aW _)).trans ((aY rfl (aW _)).trans (gH (aL _)))
theorem Jy (s:Claim) (x:cC):dJ (gL s) 2 (aV x) 34=gL { s with root:=x }:=(aC rfl rfl (aW _)).trans (bF ((aC rfl rfl (aW _)).trans (bF (cD (aL _)))))
theorem tJ (s:Claim):(gL s)[34]? = some (s.eK):=(aG rfl (aW _)).trans ((aG rfl (aW _)).trans ((aG rfl (aL _)).trans (rfl)))
theorem BY (s:Claim) (x:AV):dJ (gL s) 34 ([x]) 35=gL { s with eK:=x }:=(aC rfl rfl (aW _)).trans (bF ((aC rfl rfl (aW _)).trans (bF ((aC rfl rfl (aL _)).trans (bF (eA rfl))))))
def IE:Claim:=⟨0,0,dI,(.v (.slice none 0 0))⟩
def Rj:List Value:=[.int .u64 0]++([.int .u64 0]++(sT++([.slice none 0 0])))
theorem Yq:Rj.map AV.v=gL IE:=by simp only[Rj,List.map_append,List.map_cons,List.map_nil,jC,jD];rfl
theorem uV (st:St) (s:Claim):AK st (gL s)=cH (cI st s.eK) fun VH=>some (gL { s with eK:=VH }):=by
 simp only[gL,tN,iZ (dW _),iZ (dD _),vH,mH,cT]
structure fN where
 first:Claim
 second:Claim
def bW (s:fN):List AV:=gL s.first++(gL s.second)
@[simp] theorem fC (s:fN):(bW s).length=70:=by simp[bW]
theorem Gj (s:fN) (h0:Flat s.first.eK) (h1:Flat s.second.eK):∀x∈bW s,Flat x:=by
 intro x hx;simp only[bW,List.mem_append,List.mem_singleton] at hx;rcases hx with hx|hx
 ·(exact Gi _ (by assumption) _ hx)
 ·(exact Gi _ (by assumption) _ hx)
theorem Pa (s:fN):rd (bW s) 0 35=gL s.first:=gH (iH _)
theorem Pb (s:fN) (x:Claim):dJ (bW s) 0 (gL x) 35=bW { s with first:=x }:=cD (iH _)
theorem zM (s:fN):(bW s)[0]? = some (.v (.int .u64 s.first.source)):=(eD (by rw[iH];decide)).trans (vC _)
theorem zN (s:fN):(bW s)[1]? = some (.v (.int .u64 s.first.target)):=(eD (by rw[iH];decide)).trans (vD _)
theorem nI (s:fN):(bW s)[34]? = some (s.first.eK):=(eD (by rw[iH];decide)).trans (tJ _)
theorem Lq (s:fN):rd (bW s) 35 35=gL s.second:=(aY rfl (iH _)).trans (iQ (iH _))
theorem Lr (s:fN) (x:Claim):dJ (bW s) 35 (gL x) 70=bW { s with second:=x }:=(aC rfl rfl (iH _)).trans (bF (eA (iH _)))
theorem zC (s:fN):(bW s)[35]? = some (.v (.int .u64 s.second.source)):=(aG rfl (iH _)).trans (vC _)
theorem zO (s:fN) (x:Int):dJ (bW s) 35 ([.v (.int .u64 x)]) 36=bW { s with second:={ s.second with source:=x }}:=(aC rfl rfl (iH _)).trans (bF (Fb _ x))
theorem zD (s:fN):(bW s)[36]? = some (.v (.int .u64 s.second.target)):=(aG rfl (iH _)).trans (vD _)
theorem zP (s:fN) (x:Int):dJ (bW s) 36 ([.v (.int .u64 x)]) 37=bW { s with second:={ s.second with target:=x }}:=(aC rfl rfl (iH _)).trans (bF (Fc _ x))
theorem Cx (s:fN) (x:cC):dJ (bW s) 37 (aV x) 69=bW { s with second:={ s.second with root:=x }}:=(aC rfl rfl (iH _)).trans (bF (Jy _ x))
theorem mV (s:fN):(bW s)[69]? = some (s.second.eK):=(aG rfl (iH _)).trans (tJ _)
def Rk:fN:=⟨IE,IE⟩
def Cy:List Value:=Rj++(Rj)
theorem Hn:Cy.map AV.v=bW Rk:=by simp only[Cy,List.map_append,List.map_cons,List.map_nil,jC,jD,Yq];rfl
theorem qX (st:St) (s:fN):AK st (bW s)=cH (cI st s.first.eK) fun x_first_vals=>cH (cI st s.second.eK) fun x_second_vals=>some (bW { s with first:={ s.first with eK:=x_first_vals },second:={ s.second with eK:=x_second_vals }}):=by
 simp only[bW,tN,uV,mH,cT]
theorem To (s:fN):rd (bW s) 0 70=bW s:=iQ (fC _)
theorem Tp (s x:fN):dJ (bW s) 0 (bW x) 70=bW x:=eA (fC _)
structure Table where
 ck:fK
 jH:AV
def cN (s:Table):List AV:=bV s.ck++([s.jH])
@[simp] theorem fJ (s:Table):(cN s).length=34:=by simp[cN]
theorem Gk (s:Table) (h0:Flat s.jH):∀x∈cN s,Flat x:=by
 intro x hx;simp only[cN,List.mem_append,List.mem_singleton] at hx;rcases hx with hx|hx
 ·(exact dA _ _ hx)
 ·(subst hx;assumption)
theorem PM (s:Table):rd (cN s) 0 33=bV s.ck:=gH (bP _)
theorem PN (s:Table) (x:fK):dJ (cN s) 0 (bV x) 33=cN { s with ck:=x }:=cD (bP _)
theorem Ls (s:Table):(cN s)[0]? = some (.v (.int .u64 s.ck.aK)):=(eD (by rw[bP];decide)).trans (jO _)
theorem Rl (s:Table):rd (cN s) 1 32=aV s.ck.root:=(pS (by rw[bP];decide)).trans (tS _)
theorem Bb (s:Table):(cN s)[33]? = some (s.jH):=(aG rfl (bP _)).trans (rfl)
theorem IF (s:Table) (x:AV):dJ (cN s) 33 ([x]) 34=cN { s with jH:=x }:=(aC rfl rfl (bP _)).trans (bF (eA rfl))
def iS:Table:=⟨gR,(.v (.slice none 0 0))⟩
def Yr:List Value:=Cb++([.slice none 0 0])
theorem Ys:Yr.map AV.v=cN iS:=by simp only[Yr,List.map_append,List.map_cons,List.map_nil,jC,jD,Ae];rfl
theorem sR (st:St) (s:Table):AK st (cN s)=cH (cI st s.jH) fun Y4=>some (cN { s with jH:=Y4 }):=by
 simp only[cN,tN,iZ (dA _),vH,mH,cT]
theorem IG (s:Table):rd (cN s) 0 34=cN s:=iQ (fJ _)
theorem II (s x:Table):dJ (cN s) 0 (cN x) 34=cN x:=eA (fJ _)
structure Request where
 tagged:sK
 block:cC
 tries:Int
 due:Int
def bM (s:Request):List AV:=jN s.tagged++(aV s.block++(pK s.tries++(rV s.due)))
@[simp] theorem fP (s:Request):(bM s).length=35:=by simp[bM]
theorem fU (s:Request):∀x∈bM s,Flat x:=by
 intro x hx;simp only[bM,List.mem_append,List.mem_singleton] at hx;rcases hx with hx|hx|hx|hx
 ·(exact Ec _ _ hx)
 ·(exact dD _ _ hx)
 ·(exact lS _ _ hx)
 ·(exact dW _ _ hx)
theorem GB (s:Request):∀x∈bM s,fF x:=by
 intro x hx;simp only[bM,List.mem_append] at hx;rcases hx with hx|hx|hx|hx
 ·exact PD _ _ hx
 ·exact A1 _ _ hx
 ·exact U9 _ _ hx
 ·exact NS _ _ hx
theorem Pc (s:Request):rd (bM s) 0 1=jN s.tagged:=gH (gF _)
theorem Pd (s:Request) (x:sK):dJ (bM s) 0 (jN x) 1=bM { s with tagged:=x }:=cD (gF _)
theorem En (s:Request):(bM s)[0]? = some (.v (.int .u64 s.tagged.tag)):=(eD (by rw[gF];decide)).trans (zA _)
theorem Rm (s:Request):rd (bM s) 1 32=aV s.block:=(aY rfl (gF _)).trans (gH (aL _))
theorem Rn (s:Request) (x:cC):dJ (bM s) 1 (aV x) 33=bM { s with block:=x }:=(aC rfl rfl (gF _)).trans (bF (cD (aL _)))
theorem Pe (s:Request):(bM s)[33]? = some (.v (.int .i64 s.tries)):=(aG rfl (gF _)).trans ((aG rfl (aL _)).trans (rfl))
theorem Ro (s:Request) (x:Int):dJ (bM s) 33 ([.v (.int .i64 x)]) 34=bM { s with tries:=x }:=(aC rfl rfl (gF _)).trans (bF ((aC rfl rfl (aL _)).trans (bF (cD (aZ _)))))
theorem Tq (s:Request):(bM s)[34]? = some (.v (.int .u64 s.due)):=(aG rfl (gF _)).trans ((aG rfl (aL _)).trans ((aG rfl (aZ _)).trans (rfl)))
theorem Yt (s:Request) (x:Int):dJ (bM s) 34 ([.v (.int .u64 x)]) 35=bM { s with due:=x }:=(aC rfl rfl (gF _)).trans (bF ((aC rfl rfl (aL _)).trans (bF ((aC rfl rfl (aZ _)).trans (bF (eA (aW _)))))))
def bJ:Request:=⟨Uq,dI,0,0⟩
def Cl:List Value:=Iu++(sT++([.int .i64 0]++([.int .u64 0])))
theorem Yu:Cl.map AV.v=bM bJ:=by simp only[Cl,List.map_append,List.map_cons,List.map_nil,jC,jD,Iv];rfl
def PO:List Bool:=HX++(Hh++([true]++([true])))
theorem BZ (a b:Request):jY PO (bM a) (bM b):=(gT (Oo _ _) (gT (mW _ _) (gT (show jY [true] [_] [_] from ⟨rfl,trivial⟩) (show jY [true] [_] [_] from ⟨rfl,trivial⟩))))
theorem IJ (a b:Request):bM a=bM b↔a=b:=by
 refine⟨fun h=>?_,fun h=>by rw[h]⟩
 cases a;cases b
 simp only[bM] at h;obtain⟨h0,h⟩:=List.append_inj h (by simp)
 obtain⟨h1,h⟩:=List.append_inj h (by simp)
 obtain⟨h2,h⟩:=List.append_inj h (by simp)
 have e0:=(Ss _ _).1 h0
 have e1:=(pH _ _).1 h1
 have e2:=(NT _ _).1 h2
 have e3:=(Od _ _).1 h
 subst e0 e1 e2 e3;rfl
theorem Yv (s:Request):rd (bM s) 0 35=bM s:=iQ (fP _)
theorem Yw (s x:Request):dJ (bM s) 0 (bM x) 35=bM x:=eA (fP _)
structure Command where
 head:cC
 safe:cC
 fin:cC
def dZ (s:Command):List AV:=aV s.head++(aV s.safe++(aV s.fin))
@[simp] theorem mQ (s:Command):(dZ s).length=96:=by simp[dZ]
theorem kH (s:Command):∀x∈dZ s,Flat x:=by
 intro x hx;simp only[dZ,List.mem_append,List.mem_singleton] at hx;rcases hx with hx|hx|hx
 ·(exact dD _ _ hx)
 ·(exact dD _ _ hx)
 ·(exact dD _ _ hx)
theorem Tr (s:Command) (x:cC):dJ (dZ s) 0 (aV x) 32=dZ { s with head:=x }:=cD (aL _)
theorem Ts (s:Command) (x:cC):dJ (dZ s) 32 (aV x) 64=dZ { s with safe:=x }:=(aC rfl rfl (aL _)).trans (bF (cD (aL _)))
theorem Yx (s:Command) (x:cC):dJ (dZ s) 64 (aV x) 96=dZ { s with fin:=x }:=(aC rfl rfl (aL _)).trans (bF ((aC rfl rfl (aL _)).trans (bF (eA (aL _)))))
def Yy:Command:=⟨dI,dI,dI⟩
def Ho:List Value:=sT++(sT++(sT))
theorem Lt:Ho.map AV.v=dZ Yy:=by simp only[Ho,List.map_append,List.map_cons,List.map_nil,jC,jD];rfl
def PQ:List Bool:=Hh++(Hh++(Hh))
theorem CA (a b:Command):jY PQ (dZ a) (dZ b):=(gT (mW _ _) (gT (mW _ _) (mW _ _)))
theorem IK (a b:Command):dZ a=dZ b↔a=b:=by
 refine⟨fun h=>?_,fun h=>by rw[h]⟩
 cases a;cases b
 simp only[dZ] at h;obtain⟨h0,h⟩:=List.append_inj h (by simp)
 obtain⟨h1,h⟩:=List.append_inj h (by simp)
 have e0:=(pH _ _).1 h0
 have e1:=(pH _ _).1 h1
 have e2:=(pH _ _).1 h
 subst e0 e1 e2;rfl
theorem Yz (s:Command):rd (dZ s) 0 96=dZ s:=iQ (mQ _)
theorem Za (s x:Command):dJ (dZ s) 0 (dZ x) 96=dZ x:=eA (mQ _)
structure uA where
 dR:AV
 gZ:AV
def eP (s:uA):List AV:=[s.dR]++([s.gZ])
@[simp] theorem dE (s:uA):(eP s).length=2:=by simp[eP]
theorem qA (s:uA) (h0:Flat s.dR) (h1:Flat s.gZ):∀x∈eP s,Flat x:=by
 intro x hx;simp only[eP,List.mem_append,List.mem_singleton] at hx;rcases hx with hx|hx
 ·(subst hx;assumption)
 ·(subst hx;assumption)
theorem uP (s:uA):(eP s)[0]? = some (s.dR):=rfl
theorem Fe (s:uA) (x:AV):dJ (eP s) 0 ([x]) 1=eP { s with dR:=x }:=cD rfl
theorem wJ (s:uA):(eP s)[1]? = some (s.gZ):=(aG rfl rfl).trans (rfl)
theorem Hp (s:uA) (x:AV):dJ (eP s) 1 ([x]) 2=eP { s with gZ:=x }:=(aC rfl rfl rfl).trans (bF (eA rfl))
def Gn:uA:=⟨(.v (.slice none 0 0)),(.v (.slice none 0 0))⟩
def Zb:List Value:=[.slice none 0 0]++([.slice none 0 0])
theorem Zc:Zb.map AV.v=eP Gn:=by simp only[Zb,List.map_append,List.map_cons,List.map_nil,jC,jD];rfl
theorem C0 (st:St) (s:uA):AK st (eP s)=cH (cI st s.dR) fun x_latest=>cH (cI st s.gZ) fun x_equiv=>some (eP { s with dR:=x_latest,gZ:=x_equiv }):=by
 simp only[eP,tN,vH,mH,cT]
theorem IL (s:uA):rd (eP s) 0 2=eP s:=iQ (dE _)
theorem IM (s x:uA):dJ (eP s) 0 (eP x) 2=eP x:=eA (dE _)
structure mR where
 gP:fK
 fin:fK
def iN (s:mR):List AV:=bV s.gP++(bV s.fin)
@[simp] theorem cY (s:mR):(iN s).length=66:=by simp[iN]
theorem kM (s:mR):∀x∈iN s,Flat x:=by
 intro x hx;simp only[iN,List.mem_append,List.mem_singleton] at hx;rcases hx with hx|hx
 ·(exact dA _ _ hx)
 ·(exact dA _ _ hx)
theorem Cz (s:mR):rd (iN s) 0 33=bV s.gP:=gH (bP _)
theorem Da (s:mR) (x:fK):dJ (iN s) 0 (bV x) 33=iN { s with gP:=x }:=cD (bP _)
theorem sW (s:mR):(iN s)[0]? = some (.v (.int .u64 s.gP.aK)):=(eD (by rw[bP];decide)).trans (jO _)
theorem uJ (s:mR):rd (iN s) 1 32=aV s.gP.root:=(pS (by rw[bP];decide)).trans (tS _)
theorem Ff (s:mR):rd (iN s) 33 33=bV s.fin:=(aY rfl (bP _)).trans (iQ (bP _))
theorem Fg (s:mR) (x:fK):dJ (iN s) 33 (bV x) 66=iN { s with fin:=x }:=(aC rfl rfl (bP _)).trans (bF (eA (bP _)))
theorem tU (s:mR):(iN s)[33]? = some (.v (.int .u64 s.fin.aK)):=(aG rfl (bP _)).trans (jO _)
theorem wB (s:mR):rd (iN s) 34 32=aV s.fin.root:=(aY rfl (bP _)).trans (tS _)
def Rp:mR:=⟨gR,gR⟩
def Db:List Value:=Cb++(Cb)
theorem Hq:Db.map AV.v=iN Rp:=by simp only[Db,List.map_append,List.map_cons,List.map_nil,jC,jD,Ae];rfl
structure yE where
 early:AV
 bY:AV
def jK (s:yE):List AV:=[s.early]++([s.bY])
@[simp] theorem gY (s:yE):(jK s).length=2:=by simp[jK]
theorem Ms (s:yE) (h0:Flat s.early) (h1:Flat s.bY):∀x∈jK s,Flat x:=by
 intro x hx;simp only[jK,List.mem_append,List.mem_singleton] at hx;rcases hx with hx|hx
 ·(subst hx;assumption)
 ·(subst hx;assumption)
theorem uQ (s:yE):(jK s)[0]? = some (s.early):=rfl
theorem Fh (s:yE) (x:AV):dJ (jK s) 0 ([x]) 1=jK { s with early:=x }:=cD rfl
theorem sF (s:yE):(jK s)[1]? = some (s.bY):=(aG rfl rfl).trans (rfl)
theorem Av (s:yE) (x:AV):dJ (jK s) 1 ([x]) 2=jK { s with bY:=x }:=(aC rfl rfl rfl).trans (bF (eA rfl))
def Ah:yE:=⟨(.v (.slice none 0 0)),(.v (.slice none 0 0))⟩
def Ur:List Value:=[.slice none 0 0]++([.slice none 0 0])
theorem EG:Ur.map AV.v=jK Ah:=by simp only[Ur,List.map_append,List.map_cons,List.map_nil,jC,jD];rfl
theorem VK (st:St) (s:yE):AK st (jK s)=cH (cI st s.early) fun x_early=>cH (cI st s.bY) fun x_orphans=>some (jK { s with early:=x_early,bY:=x_orphans }):=by
 simp only[jK,tN,vH,mH,cT]
structure Eu where
 nodes:AV
def mF (s:Eu):List AV:=[s.nodes]
@[simp] theorem lY (s:Eu):(mF s).length=1:=by simp[mF]
theorem vO (s:Eu) (h0:Flat s.nodes):∀x∈mF s,Flat x:=by
 intro x hx;simp only[mF,List.mem_append,List.mem_singleton] at hx;(subst hx;assumption)
theorem wK (s:Eu):(mF s)[0]? = some (s.nodes):=rfl
theorem Hr (s:Eu) (x:AV):dJ (mF s) 0 ([x]) 1=mF { s with nodes:=x }:=eA rfl
def Km:Eu:=⟨(.v (.slice none 0 0))⟩
def VL:List Value:=[.slice none 0 0]
theorem PR:VL.map AV.v=mF Km:=by simp only[VL,List.map_append,List.map_cons,List.map_nil,jC,jD];rfl
theorem C1 (st:St) (s:Eu):AK st (mF s)=cH (cI st s.nodes) fun x_nodes=>some (mF { s with nodes:=x_nodes }):=by
 simp only[mF,tN,vH,mH,cT]
structure aN where
 cFg:Config
 fY:uA
 bH:mR
 dQ:yE
 tree:Eu
 now:Int
 hU:cC
 tables:AV
def aB (s:aN):List AV:=bR s.cFg++(eP s.fY++(iN s.bH++(jK s.dQ++(mF s.tree++(rV s.now++(aV s.hU++([s.tables])))))))
@[simp] theorem cK (s:aN):(aB s).length=150:=by simp[aB]
theorem Sa (s:aN) (h0:Flat s.cFg.jH) (h1:Flat s.fY.dR) (h2:Flat s.fY.gZ) (h3:Flat s.dQ.early) (h4:Flat s.dQ.bY) (h5:Flat s.tree.nodes) (h6:Flat s.tables):∀x∈aB s,Flat x:=by
 intro x hx;simp only[aB,List.mem_append,List.mem_singleton] at hx;rcases hx with hx|hx|hx|hx|hx|hx|hx|hx
 ·(exact tH _ (by assumption) _ hx)
 ·(exact qA _ (by assumption) (by assumption) _ hx)
 ·(exact kM _ _ hx)
 ·(exact Ms _ (by assumption) (by assumption) _ hx)
 ·(exact vO _ (by assumption) _ hx)
 ·(exact dW _ _ hx)
 ·(exact dD _ _ hx)
 ·(subst hx;assumption)
theorem Tt (s:aN):rd (aB s) 0 45=bR s.cFg:=gH (bL _)
theorem Tv (s:aN) (x:Config):dJ (aB s) 0 (bR x) 45=aB { s with cFg:=x }:=cD (bL _)
theorem zF (s:aN):(aB s)[0]? = some (.v (.int .i64 s.cFg.lT.rD)):=(eD (by rw[bL];decide)).trans (vZ _)
theorem zG (s:aN):(aB s)[1]? = some (.v (.int .i64 s.cFg.lT.vQ)):=(eD (by rw[bL];decide)).trans (wA _)
theorem xJ (s:aN):(aB s)[2]? = some (.v (.int .i64 s.cFg.lT.pM)):=(eD (by rw[bL];decide)).trans (uG _)
theorem xK (s:aN):(aB s)[3]? = some (.v (.int .i64 s.cFg.lT.qJ)):=(eD (by rw[bL];decide)).trans (uH _)
theorem pT (s:aN):(aB s)[4]? = some (.v (.int .i64 s.cFg.lT.nK)):=(eD (by rw[bL];decide)).trans (uI _)
theorem pD (s:aN):(aB s)[5]? = some (.v (.int .u64 s.cFg.lT.qV)):=(eD (by rw[bL];decide)).trans (tT _)
theorem Hs (s:aN):(aB s)[6]? = some (.v (.int .u64 s.cFg.qG)):=(eD (by rw[bL];decide)).trans (Hl _)
theorem Jd (s:aN):rd (aB s) 8 4=gI s.cFg.AD:=(pS (by rw[bL];decide)).trans (Jw _)
theorem sX (s:aN):rd (aB s) 12 32=aV s.cFg.dV:=(pS (by rw[bL];decide)).trans (Au _)
theorem qB (s:aN):(aB s)[44]? = some (s.cFg.jH):=(eD (by rw[bL];decide)).trans (yD _)
theorem Je (s:aN) (x:AV):dJ (aB s) 44 ([x]) 45=aB { s with cFg:={ s.cFg with jH:=x }}:=(tR (by rw[bL];decide)).trans (Ej (Jx _ x))
theorem Zd (s:aN):rd (aB s) 45 2=eP s.fY:=(aY rfl (bL _)).trans (gH (dE _))
theorem Ze (s:aN) (x:uA):dJ (aB s) 45 (eP x) 47=aB { s with fY:=x }:=(aC rfl rfl (bL _)).trans (bF (cD (dE _)))
theorem oL (s:aN):(aB s)[45]? = some (s.fY.dR):=(aG rfl (bL _)).trans ((eD (by rw[dE];decide)).trans (uP _))
theorem Fs (s:aN) (x:AV):dJ (aB s) 45 ([x]) 46=aB { s with fY:={ s.fY with dR:=x }}:=(aC rfl rfl (bL _)).trans (bF ((tR (by rw[dE];decide)).trans (Ej (Fe _ x))))
theorem pL (s:aN):(aB s)[46]? = some (s.fY.gZ):=(aG rfl (bL _)).trans ((eD (by rw[dE];decide)).trans (wJ _))
theorem Ht (s:aN) (x:AV):dJ (aB s) 46 ([x]) 47=aB { s with fY:={ s.fY with gZ:=x }}:=(aC rfl rfl (bL _)).trans (bF ((tR (by rw[dE];decide)).trans (Ej (Hp _ x))))
theorem Pf (s:aN) (x:mR):dJ (aB s) 47 (iN x) 113=aB { s with bH:=x }:=(aC rfl rfl (bL _)).trans (bF ((aC rfl rfl (dE _)).trans (bF (cD (cY _)))))
theorem Eo (s:aN):rd (aB s) 47 33=bV s.bH.gP:=(aY rfl (bL _)).trans ((aY rfl (dE _)).trans ((pS (by rw[cY];decide)).trans (Cz _)))
theorem Ep (s:aN) (x:fK):dJ (aB s) 47 (bV x) 80=aB { s with bH:={ s.bH with gP:=x }}:=(aC rfl rfl (bL _)).trans (bF ((aC rfl rfl (dE _)).trans (bF ((tR (by rw[cY];decide)).trans (Ej (Da _ x))))))
theorem wC (s:aN):(aB s)[47]? = some (.v (.int .u64 s.bH.gP.aK)):=(aG rfl (bL _)).trans ((aG rfl (dE _)).trans ((eD (by rw[cY];decide)).trans (sW _)))
theorem pU (s:aN):rd (aB s) 48 32=aV s.bH.gP.root:=(aY rfl (bL _)).trans ((aY rfl (dE _)).trans ((pS (by rw[cY];decide)).trans (uJ _)))
theorem uK (s:aN):rd (aB s) 80 33=bV s.bH.fin:=(aY rfl (bL _)).trans ((aY rfl (dE _)).trans ((pS (by rw[cY];decide)).trans (Ff _)))
theorem Ft (s:aN) (x:fK):dJ (aB s) 80 (bV x) 113=aB { s with bH:={ s.bH with fin:=x }}:=(aC rfl rfl (bL _)).trans (bF ((aC rfl rfl (dE _)).trans (bF ((tR (by rw[cY];decide)).trans (Ej (Fg _ x))))))
theorem wP (s:aN):(aB s)[80]? = some (.v (.int .u64 s.bH.fin.aK)):=(aG rfl (bL _)).trans ((aG rfl (dE _)).trans ((eD (by rw[cY];decide)).trans (tU _)))
theorem qQ (s:aN):rd (aB s) 81 32=aV s.bH.fin.root:=(aY rfl (bL _)).trans ((aY rfl (dE _)).trans ((pS (by rw[cY];decide)).trans (wB _)))
theorem oM (s:aN):(aB s)[113]? = some (s.dQ.early):=(aG rfl (bL _)).trans ((aG rfl (dE _)).trans ((aG rfl (cY _)).trans ((eD (by rw[gY];decide)).trans (uQ _))))
theorem Fu (s:aN) (x:AV):dJ (aB s) 113 ([x]) 114=aB { s with dQ:={ s.dQ with early:=x }}:=(aC rfl rfl (bL _)).trans (bF ((aC rfl rfl (dE _)).trans (bF ((aC rfl rfl (cY _)).trans (bF ((tR (by rw[gY];decide)).trans (Ej (Fh _ x))))))))
theorem mU (s:aN):(aB s)[114]? = some (s.dQ.bY):=(aG rfl (bL _)).trans ((aG rfl (dE _)).trans ((aG rfl (cY _)).trans ((eD (by rw[gY];decide)).trans (sF _))))
theorem Dc (s:aN) (x:AV):dJ (aB s) 114 ([x]) 115=aB { s with dQ:={ s.dQ with bY:=x }}:=(aC rfl rfl (bL _)).trans (bF ((aC rfl rfl (dE _)).trans (bF ((aC rfl rfl (cY _)).trans (bF ((tR (by rw[gY];decide)).trans (Ej (Av _ x))))))))
theorem Jz (s:aN):rd (aB s) 115 1=mF s.tree:=(aY rfl (bL _)).trans ((aY rfl (dE _)).trans ((aY rfl (cY _)).trans ((aY rfl (gY _)).trans (gH (lY _)))))
theorem Bo (s:aN) (x:Eu):dJ (aB s) 115 (mF x) 116=aB { s with tree:=x }:=(aC rfl rfl (bL _)).trans (bF ((aC rfl rfl (dE _)).trans (bF ((aC rfl rfl (cY _)).trans (bF ((aC rfl rfl (gY _)).trans (bF (cD (lY _)))))))))
theorem qC (s:aN):(aB s)[115]? = some (s.tree.nodes):=(aG rfl (bL _)).trans ((aG rfl (dE _)).trans ((aG rfl (cY _)).trans ((aG rfl (gY _)).trans ((eD (by rw[lY];decide)).trans (wK _)))))
theorem Jf (s:aN) (x:AV):dJ (aB s) 115 ([x]) 116=aB { s with tree:={ s.tree with nodes:=x }}:=(aC rfl rfl (bL _)).trans (bF ((aC rfl rfl (dE _)).trans (bF ((aC rfl rfl (cY _)).trans (bF ((aC rfl rfl (gY _)).trans (bF ((tR (by rw[lY];decide)).trans (Ej (Hr _ x))))))))))
theorem Ka (s:aN):(aB s)[116]? = some (.v (.int .u64 s.now)):=(aG rfl (bL _)).trans ((aG rfl (dE _)).trans ((aG rfl (cY _)).trans ((aG rfl (gY _)).trans ((aG rfl (lY _)).trans (rfl)))))
theorem Pg (s:aN) (x:Int):dJ (aB s) 116 ([.v (.int .u64 x)]) 117=aB { s with now:=x }:=(aC rfl rfl (bL _)).trans (bF ((aC rfl rfl (dE _)).trans (bF ((aC rfl rfl (cY _)).trans (bF ((aC rfl rfl (gY _)).trans (bF ((aC rfl rfl (lY _)).trans (bF (cD (aW _)))))))))))
theorem Hu (s:aN):rd (aB s) 117 32=aV s.hU:=(aY rfl (bL _)).trans ((aY rfl (dE _)).trans ((aY rfl (cY _)).trans ((aY rfl (gY _)).trans ((aY rfl (lY _)).trans ((aY rfl (aW _)).trans (gH (aL _)))))))
theorem Hv (s:aN) (x:cC):dJ (aB s) 117 (aV x) 149=aB { s with hU:=x }:=(aC rfl rfl (bL _)).trans (bF ((aC rfl rfl (dE _)).trans (bF ((aC rfl rfl (cY _)).trans (bF ((aC rfl rfl (gY _)).trans (bF ((aC rfl rfl (lY _)).trans (bF ((aC rfl rfl (aW _)).trans (bF (cD (aL _)))))))))))))
theorem uR (s:aN):(aB s)[149]? = some (s.tables):=(aG rfl (bL _)).trans ((aG rfl (dE _)).trans ((aG rfl (cY _)).trans ((aG rfl (gY _)).trans ((aG rfl (lY _)).trans ((aG rfl (aW _)).trans ((aG rfl (aL _)).trans (rfl)))))))
theorem Tw (s:aN) (x:AV):dJ (aB s) 149 ([x]) 150=aB { s with tables:=x }:=(aC rfl rfl (bL _)).trans (bF ((aC rfl rfl (dE _)).trans (bF ((aC rfl rfl (cY _)).trans (bF ((aC rfl rfl (gY _)).trans (bF ((aC rfl rfl (lY _)).trans (bF ((aC rfl rfl (aW _)).trans (bF ((aC rfl rfl (aL _)).trans (bF (eA rfl))))))))))))))
def gE:aN:=⟨mO,Gn,Rp,Ah,Km,0,dI,(.v (.slice none 0 0))⟩
def Zf:List Value:=Oz++(Zb++(Db++(Ur++(VL++([.int .u64 0]++(sT++([.slice none 0 0])))))))
theorem Zg:Zf.map AV.v=aB gE:=by simp only[Zf,List.map_append,List.map_cons,List.map_nil,jC,jD,Ri,Zc,Hq,EG,PR];rfl
theorem gB (st:St) (s:aN):AK st (aB s)=cH (cI st s.cFg.jH) fun x_config_bal=>cH (cI st s.fY.dR) fun x_votes_latest=>cH (cI st s.fY.gZ) fun x_votes_equiv=>cH (cI st s.dQ.early) fun x_queues_early=>cH (cI st s.dQ.bY) fun x_queues_orphans=>cH (cI st s.tree.nodes) fun x_tree_nodes=>cH (cI st s.tables) fun x_tables=>some (aB { s with cFg:={ s.cFg with jH:=x_config_bal },fY:={ s.fY with dR:=x_votes_latest,gZ:=x_votes_equiv },dQ:={ s.dQ with early:=x_queues_early,bY:=x_queues_orphans },tree:={ s.tree with nodes:=x_tree_nodes },tables:=x_tables }):=by
 simp only[aB,tN,Wt,C0,iZ (kM _),VK,C1,iZ (dW _),iZ (dD _),vH,mH,cT]
theorem IN (s:aN):rd (aB s) 0 150=aB s:=iQ (cK _)
theorem IP (s x:aN):dJ (aB s) 0 (aB x) 150=aB x:=eA (cK _)
structure State where
 store:aN
 cW:AV
 nA:AV
 bE:Int
 yL:Bool
 last:Command
 overflow:Bool
 halted:Bool
def aF (s:State):List AV:=aB s.store++([s.cW]++([s.nA]++(rV s.bE++(uF s.yL++(dZ s.last++(uF s.overflow++(uF s.halted)))))))
@[simp] theorem Lu (s:State):(aF s).length=252:=by simp[aF]
theorem KL (s:State) (h0:Flat s.store.cFg.jH) (h1:Flat s.store.fY.dR) (h2:Flat s.store.fY.gZ) (h3:Flat s.store.dQ.early) (h4:Flat s.store.dQ.bY) (h5:Flat s.store.tree.nodes) (h6:Flat s.store.tables) (h7:Flat s.cW) (h8:Flat s.nA):∀x∈aF s,Flat x:=by
 intro x hx;simp only[aF,List.mem_append,List.mem_singleton] at hx;rcases hx with hx|hx|hx|hx|hx|hx|hx|hx
 ·(exact Sa _ (by assumption) (by assumption) (by assumption) (by assumption) (by assumption) (by assumption) (by assumption) _ hx)
 ·(subst hx;assumption)
 ·(subst hx;assumption)
 ·(exact dW _ _ hx)
 ·(exact lW _ _ hx)
 ·(exact kH _ _ hx)
 ·(exact lW _ _ hx)
 ·(exact lW _ _ hx)
theorem Zh (s:State):rd (aF s) 0 150=aB s.store:=gH (cK _)
theorem Zi (s:State) (x:aN):dJ (aF s) 0 (aB x) 150=aF { s with store:=x }:=cD (cK _)
theorem sZ (s:State):(aF s)[4]? = some (.v (.int .i64 s.store.cFg.lT.nK)):=(eD (by rw[cK];decide)).trans (pT _)
theorem sM (s:State):(aF s)[5]? = some (.v (.int .u64 s.store.cFg.lT.qV)):=(eD (by rw[cK];decide)).trans (pD _)
theorem wD (s:State):rd (aF s) 12 32=aV s.store.cFg.dV:=(pS (by rw[cK];decide)).trans (sX _)
theorem qE (s:State):(aF s)[44]? = some (s.store.cFg.jH):=(eD (by rw[cK];decide)).trans (qB _)
theorem oX (s:State):(aF s)[45]? = some (s.store.fY.dR):=(eD (by rw[cK];decide)).trans (oL _)
theorem pR (s:State):(aF s)[46]? = some (s.store.fY.gZ):=(eD (by rw[cK];decide)).trans (pL _)
theorem tA (s:State):rd (aF s) 48 32=aV s.store.bH.gP.root:=(pS (by rw[cK];decide)).trans (pU _)
theorem xL (s:State):rd (aF s) 80 33=bV s.store.bH.fin:=(pS (by rw[cK];decide)).trans (uK _)
theorem tV (s:State):rd (aF s) 81 32=aV s.store.bH.fin.root:=(pS (by rw[cK];decide)).trans (qQ _)
theorem oY (s:State):(aF s)[113]? = some (s.store.dQ.early):=(eD (by rw[cK];decide)).trans (oM _)
theorem nH (s:State):(aF s)[114]? = some (s.store.dQ.bY):=(eD (by rw[cK];decide)).trans (mU _)
theorem Jg (s:State):rd (aF s) 115 1=mF s.store.tree:=(pS (by rw[cK];decide)).trans (Jz _)
theorem wW (s:State) (x:Eu):dJ (aF s) 115 (mF x) 116=aF { s with store:={ s.store with tree:=x }}:=(tR (by rw[cK];decide)).trans (Ej (Bo _ x))
theorem qF (s:State):(aF s)[115]? = some (s.store.tree.nodes):=(eD (by rw[cK];decide)).trans (qC _)
theorem Jh (s:State):(aF s)[116]? = some (.v (.int .u64 s.store.now)):=(eD (by rw[cK];decide)).trans (Ka _)
theorem Lv (s:State) (x:Int):dJ (aF s) 116 ([.v (.int .u64 x)]) 117=aF { s with store:={ s.store with now:=x }}:=(tR (by rw[cK];decide)).trans (Ej (Pg _ x))
theorem Hw (s:State):rd (aF s) 117 32=aV s.store.hU:=(pS (by rw[cK];decide)).trans (Hu _)
theorem Hx (s:State) (x:cC):dJ (aF s) 117 (aV x) 149=aF { s with store:={ s.store with hU:=x }}:=(tR (by rw[cK];decide)).trans (Ej (Hv _ x))
theorem tI (s:State):(aF s)[149]? = some (s.store.tables):=(eD (by rw[cK];decide)).trans (uR _)
theorem yF (s:State):(aF s)[150]? = some (s.cW):=(aG rfl (cK _)).trans (rfl)
theorem Ph (s:State) (x:AV):dJ (aF s) 150 ([x]) 151=aF { s with cW:=x }:=(aC rfl rfl (cK _)).trans (bF (cD rfl))
theorem Aa (s:State):(aF s)[151]? = some (s.nA):=(aG rfl (cK _)).trans ((aG rfl rfl).trans (rfl))
theorem Rq (s:State) (x:AV):dJ (aF s) 151 ([x]) 152=aF { s with nA:=x }:=(aC rfl rfl (cK _)).trans (bF ((aC rfl rfl rfl).trans (bF (cD rfl))))
theorem Pj (s:State):(aF s)[152]? = some (.v (.int .u64 s.bE)):=(aG rfl (cK _)).trans ((aG rfl rfl).trans ((aG rfl rfl).trans (rfl)))
theorem Rr (s:State) (x:Int):dJ (aF s) 152 ([.v (.int .u64 x)]) 153=aF { s with bE:=x }:=(aC rfl rfl (cK _)).trans (bF ((aC rfl rfl rfl).trans (bF ((aC rfl rfl rfl).trans (bF (cD (aW _)))))))
theorem Zj (s:State):(aF s)[153]? = some (.v (.bool s.yL)):=(aG rfl (cK _)).trans ((aG rfl rfl).trans ((aG rfl rfl).trans ((aG rfl (aW _)).trans (rfl))))
theorem CB (s:State) (x:Bool):dJ (aF s) 153 ([.v (.bool x)]) 154=aF { s with yL:=x }:=(aC rfl rfl (cK _)).trans (bF ((aC rfl rfl rfl).trans (bF ((aC rfl rfl rfl).trans (bF ((aC rfl rfl (aW _)).trans (bF (cD (gS _)))))))))
theorem CC (s:State):rd (aF s) 154 96=dZ s.last:=(aY rfl (cK _)).trans ((aY rfl rfl).trans ((aY rfl rfl).trans ((aY rfl (aW _)).trans ((aY rfl (gS _)).trans (gH (mQ _))))))
theorem CD (s:State) (x:Command):dJ (aF s) 154 (dZ x) 250=aF { s with last:=x }:=(aC rfl rfl (cK _)).trans (bF ((aC rfl rfl rfl).trans (bF ((aC rfl rfl rfl).trans (bF ((aC rfl rfl (aW _)).trans (bF ((aC rfl rfl (gS _)).trans (bF (cD (mQ _)))))))))))
theorem Pk (s:State) (x:Bool):dJ (aF s) 250 ([.v (.bool x)]) 251=aF { s with overflow:=x }:=(aC rfl rfl (cK _)).trans (bF ((aC rfl rfl rfl).trans (bF ((aC rfl rfl rfl).trans (bF ((aC rfl rfl (aW _)).trans (bF ((aC rfl rfl (gS _)).trans (bF ((aC rfl rfl (mQ _)).trans (bF (cD (gS _)))))))))))))
theorem Rs (s:State):(aF s)[251]? = some (.v (.bool s.halted)):=(aG rfl (cK _)).trans ((aG rfl rfl).trans ((aG rfl rfl).trans ((aG rfl (aW _)).trans ((aG rfl (gS _)).trans ((aG rfl (mQ _)).trans ((aG rfl (gS _)).trans (rfl)))))))
theorem Tx (s:State) (x:Bool):dJ (aF s) 251 ([.v (.bool x)]) 252=aF { s with halted:=x }:=(aC rfl rfl (cK _)).trans (bF ((aC rfl rfl rfl).trans (bF ((aC rfl rfl rfl).trans (bF ((aC rfl rfl (aW _)).trans (bF ((aC rfl rfl (gS _)).trans (bF ((aC rfl rfl (mQ _)).trans (bF ((aC rfl rfl (gS _)).trans (bF (eA (gS _)))))))))))))))
def jF:State:=⟨gE,(.v (.slice none 0 0)),(.v (.slice none 0 0)),0,false,Yy,false,false⟩
def IQ:List Value:=Zf++([.slice none 0 0]++([.slice none 0 0]++([.int .u64 0]++([.bool false]++(Ho++([.bool false]++([.bool false])))))))
theorem PS:IQ.map AV.v=aF jF:=by simp only[IQ,List.map_append,List.map_cons,List.map_nil,jC,jD,Zg,Lt];rfl
theorem uW (st:St) (s:State):AK st (aF s)=cH (cI st s.store.cFg.jH) fun x_store_config_bal=>cH (cI st s.store.fY.dR) fun x_store_votes_latest=>cH (cI st s.store.fY.gZ) fun x_store_votes_equiv=>cH (cI st s.store.dQ.early) fun x_store_queues_early=>cH (cI st s.store.dQ.bY) fun x_store_queues_orphans=>cH (cI st s.store.tree.nodes) fun x_store_tree_nodes=>cH (cI st s.store.tables) fun x_store_tables=>cH (cI st s.cW) fun x_requests=>cH (cI st s.nA) fun x_retries=>some (aF { s with store:={ s.store with cFg:={ s.store.cFg with jH:=x_store_config_bal },fY:={ s.store.fY with dR:=x_store_votes_latest,gZ:=x_store_votes_equiv },dQ:={ s.store.dQ with early:=x_store_queues_early,bY:=x_store_queues_orphans },tree:={ s.store.tree with nodes:=x_store_tree_nodes },tables:=x_store_tables },cW:=x_requests,nA:=x_retries }):=by
 simp only[aF,tN,gB,vH,iZ (dW _),iZ (lW _),iZ (kH _),mH,cT]
theorem IS (s:State):rd (aF s) 0 252=aF s:=iQ (Lu _)
theorem IT (s x:State):dJ (aF s) 0 (aF x) 252=aF x:=eA (Lu _)
structure wG where
 kind:Int
 block:Block
 Fk:rQ
 oD:fN
 table:Table
 verdict:eR
 write:Int
 pW:Int
def kF (s:wG):List AV:=pK s.kind++(aT s.block++(iF s.Fk++(bW s.oD++(cN s.table++(bU s.verdict++(pK s.write++(pK s.pW)))))))
@[simp] theorem Zk (s:wG):(kF s).length=446:=by simp[kF]
theorem ZQ (s:wG) (h0:Flat s.Fk.eK) (h1:Flat s.oD.first.eK) (h2:Flat s.oD.second.eK) (h3:Flat s.table.jH):∀x∈kF s,Flat x:=by
 intro x hx;simp only[kF,List.mem_append,List.mem_singleton] at hx;rcases hx with hx|hx|hx|hx|hx|hx|hx|hx
 ·(exact lS _ _ hx)
 ·(exact Aq _ _ hx)
 ·(exact Pt _ (by assumption) _ hx)
 ·(exact Gj _ (by assumption) (by assumption) _ hx)
 ·(exact Gk _ (by assumption) _ hx)
 ·(exact fV _ _ hx)
 ·(exact lS _ _ hx)
 ·(exact lS _ _ hx)
theorem IU (s:wG):(kF s)[0]? = some (.v (.int .i64 s.kind)):=rfl
theorem PT (s:wG) (x:Int):dJ (kF s) 0 ([.v (.int .i64 x)]) 1=kF { s with kind:=x }:=cD (aZ _)
theorem IV (s:wG):rd (kF s) 1 238=aT s.block:=(aY rfl (aZ _)).trans (gH (bN _))
theorem IW (s:wG) (x:Block):dJ (kF s) 1 (aT x) 239=kF { s with block:=x }:=(aC rfl rfl (aZ _)).trans (bF (cD (bN _)))
theorem VM (s:wG):rd (kF s) 239 67=iF s.Fk:=(aY rfl (aZ _)).trans ((aY rfl (bN _)).trans (gH (gX _)))
theorem VN (s:wG) (x:rQ):dJ (kF s) 239 (iF x) 306=kF { s with Fk:=x }:=(aC rfl rfl (aZ _)).trans (bF ((aC rfl rfl (bN _)).trans (bF (cD (gX _)))))
theorem Ca (s:wG):(kF s)[305]? = some (s.Fk.eK):=(aG rfl (aZ _)).trans ((aG rfl (bN _)).trans ((eD (by rw[gX];decide)).trans (Dt _)))
theorem IX (s:wG):rd (kF s) 306 70=bW s.oD:=(aY rfl (aZ _)).trans ((aY rfl (bN _)).trans ((aY rfl (gX _)).trans (gH (fC _))))
theorem IY (s:wG) (x:fN):dJ (kF s) 306 (bW x) 376=kF { s with oD:=x }:=(aC rfl rfl (aZ _)).trans (bF ((aC rfl rfl (bN _)).trans (bF ((aC rfl rfl (gX _)).trans (bF (cD (fC _)))))))
theorem rR (s:wG):(kF s)[340]? = some (s.oD.first.eK):=(aG rfl (aZ _)).trans ((aG rfl (bN _)).trans ((aG rfl (gX _)).trans ((eD (by rw[fC];decide)).trans (nI _))))
theorem rC (s:wG):(kF s)[375]? = some (s.oD.second.eK):=(aG rfl (aZ _)).trans ((aG rfl (bN _)).trans ((aG rfl (gX _)).trans ((eD (by rw[fC];decide)).trans (mV _))))
theorem IZ (s:wG):rd (kF s) 376 34=cN s.table:=(aY rfl (aZ _)).trans ((aY rfl (bN _)).trans ((aY rfl (gX _)).trans ((aY rfl (fC _)).trans (gH (fJ _)))))
theorem JA (s:wG) (x:Table):dJ (kF s) 376 (cN x) 410=kF { s with table:=x }:=(aC rfl rfl (aZ _)).trans (bF ((aC rfl rfl (bN _)).trans (bF ((aC rfl rfl (gX _)).trans (bF ((aC rfl rfl (fC _)).trans (bF (cD (fJ _)))))))))
theorem Ac (s:wG):(kF s)[409]? = some (s.table.jH):=(aG rfl (aZ _)).trans ((aG rfl (bN _)).trans ((aG rfl (gX _)).trans ((aG rfl (fC _)).trans ((eD (by rw[fJ];decide)).trans (Bb _)))))
theorem Zl (s:wG):rd (kF s) 410 34=bU s.verdict:=(aY rfl (aZ _)).trans ((aY rfl (bN _)).trans ((aY rfl (gX _)).trans ((aY rfl (fC _)).trans ((aY rfl (fJ _)).trans (gH (lL _))))))
theorem Zm (s:wG) (x:eR):dJ (kF s) 410 (bU x) 444=kF { s with verdict:=x }:=(aC rfl rfl (aZ _)).trans (bF ((aC rfl rfl (bN _)).trans (bF ((aC rfl rfl (gX _)).trans (bF ((aC rfl rfl (fC _)).trans (bF ((aC rfl rfl (fJ _)).trans (bF (cD (lL _)))))))))))
theorem CE (s:wG):(kF s)[444]? = some (.v (.int .i64 s.write)):=(aG rfl (aZ _)).trans ((aG rfl (bN _)).trans ((aG rfl (gX _)).trans ((aG rfl (fC _)).trans ((aG rfl (fJ _)).trans ((aG rfl (lL _)).trans (rfl))))))
theorem JB (s:wG) (x:Int):dJ (kF s) 444 ([.v (.int .i64 x)]) 445=kF { s with write:=x }:=(aC rfl rfl (aZ _)).trans (bF ((aC rfl rfl (bN _)).trans (bF ((aC rfl rfl (gX _)).trans (bF ((aC rfl rfl (fC _)).trans (bF ((aC rfl rfl (fJ _)).trans (bF ((aC rfl rfl (lL _)).trans (bF (cD (aZ _)))))))))))))
theorem JC (s:wG):(kF s)[445]? = some (.v (.int .i64 s.pW)):=(aG rfl (aZ _)).trans ((aG rfl (bN _)).trans ((aG rfl (gX _)).trans ((aG rfl (fC _)).trans ((aG rfl (fJ _)).trans ((aG rfl (lL _)).trans ((aG rfl (aZ _)).trans (rfl)))))))
theorem PU (s:wG) (x:Int):dJ (kF s) 445 ([.v (.int .i64 x)]) 446=kF { s with pW:=x }:=(aC rfl rfl (aZ _)).trans (bF ((aC rfl rfl (bN _)).trans (bF ((aC rfl rfl (gX _)).trans (bF ((aC rfl rfl (fC _)).trans (bF ((aC rfl rfl (fJ _)).trans (bF ((aC rfl rfl (lL _)).trans (bF ((aC rfl rfl (aZ _)).trans (bF (eA (aZ _)))))))))))))))
def yO:wG:=⟨0,eQ,Ku,Rk,iS,tO,0,0⟩
def aCA:List Value:=[.int .i64 0]++(Qy++(Y5++(Cy++(Yr++(Cm++([.int .i64 0]++([.int .i64 0])))))))
theorem Y6:aCA.map AV.v=kF yO:=by simp only[aCA,List.map_append,List.map_cons,List.map_nil,jC,jD,Ol,VG,Hn,Ys,Ln];rfl
theorem VO (s:wG):rd (kF s) 0 446=kF s:=iQ (Zk _)
theorem VP (s x:wG):dJ (kF s) 0 (kF x) 446=kF x:=eA (Zk _)
def cV (l:List lE):List AV:=l.flatMap lV
@[simp] theorem VQ (l:List (lE)):(cV l).length=l.length * 34:=by
 induction l with
 | nil=>rfl
 | cons x l ih=>simp only[cV,List.flatMap_cons,List.length_append,rA,List.length_cons] at *;omega
theorem mM (l:List (lE)):∀x∈cV l,Flat x:=by
 intro x hx;obtain⟨y,_,hy⟩:=List.mem_flatMap.1 hx
 exact VF y x hy
def dC (l:List rQ):List AV:=l.flatMap iF
@[simp] theorem aH1 (l:List (rQ)):(dC l).length=l.length * 67:=by
 induction l with
 | nil=>rfl
 | cons x l ih=>simp only[dC,List.flatMap_cons,List.length_append,gX,List.length_cons] at *;omega
theorem sI (l:List (rQ)) (h:∀y∈l,Flat y.eK):∀x∈dC l,Flat x:=by
 intro x hx;obtain⟨y,hm,hy⟩:=List.mem_flatMap.1 hx
 exact Pt y (h y hm) x hy
def aR (l:List Table):List AV:=l.flatMap cN
@[simp] theorem aEk (l:List (Table)):(aR l).length=l.length * 34:=by
 induction l with
 | nil=>rfl
 | cons x l ih=>simp only[aR,List.flatMap_cons,List.length_append,fJ,List.length_cons] at *;omega
theorem lF (l:List (Table)) (h:∀y∈l,Flat y.jH):∀x∈aR l,Flat x:=by
 intro x hx;obtain⟨y,hm,hy⟩:=List.mem_flatMap.1 hx
 exact Gk y (h y hm) x hy
def aA (l:List Request):List AV:=l.flatMap bM
@[simp] theorem kJ (l:List (Request)):(aA l).length=l.length * 35:=by
 induction l with
 | nil=>rfl
 | cons x l ih=>simp only[aA,List.flatMap_cons,List.length_append,fP,List.length_cons] at *;omega
theorem gM (l:List (Request)):∀x∈aA l,Flat x:=by
 intro x hx;obtain⟨y,_,hy⟩:=List.mem_flatMap.1 hx
 exact fU y x hy
end Go.Ab
end
