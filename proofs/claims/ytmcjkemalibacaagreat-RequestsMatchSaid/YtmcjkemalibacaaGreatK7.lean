/-
  Part 7 of the proof: an evaluator of programs, its soundness, and what functions of this program compute.
-/
import Derived.Test.YtmcjkemalibacaaGreatK6
set_option linter.all false
set_option maxRecDepth 20000
set_option maxHeartbeats 40000000
section
namespace Go.Ab
open Classical
variable [Ext]
noncomputable def AG (st:St) (cs:List AV):Option (List AV):=cE (cs.map (cY st))
theorem tX (st:St) (a b:List AV):AG st (a++b)=cD (AG st a) fun x=>cD (AG st b) fun y=>some (x++y):=by
 unfold AG;induction a with
 | nil=>simp[cE,cD];cases cE (b.map (cY st))<;>rfl
 | cons c a ih =>
   simp only[List.cons_append,List.map_cons];cases cY st c with
   | none=>rfl
   | some c' =>
     simp only[cE,ih];cases cE (a.map (cY st)) with
     | none=>rfl
     | some a' =>
       simp only[cD,Option.map_some];cases cE (b.map (cY st))<;>rfl
theorem vQ (st:St) (x:AV):AG st [x]=cD (cY st x) fun y=>some [y]:=by
 unfold AG;simp only[List.map_cons,List.map_nil];cases cY st x<;>rfl
theorem jD {st:St} {cs:List AV} (h:∀c∈cs,Flat c):AG st cs=some cs:=by
 unfold AG;induction cs with
 | nil=>rfl
 | cons c cs ih =>
   simp only[List.map_cons,cX (h c (by simp)),cE,ih fun x hx=>h x (by simp[hx]),Option.map_some]
theorem bP (st:St) (cs:List AV):fO st (.agg cs)=cD (AG st cs) fun x=>some (.agg x):=by
 unfold fO;by_cases h:Flat (.agg cs)
 ·rw[if_pos h];have h':∀c∈cs,Flat c:=by cases h with|agg _ h=>exact h
  rw[jD h'];rfl
 ·rw[if_neg h];simp only[AG];cases cE (cs.map (cY st))<;>rfl
def ov {α:Type} (c:List α→List AV):Option (List α)→AV
 | none=>.v (.slice none 0 0)
 | some l=>.sl l.length (c l)
def ol {α:Type} (o:Option (List α)):List α:=o.getD []
theorem Uk {α:Type} (l:List α):ol (some l)=l:=rfl
theorem aCE {α:Type}:ol (none:Option (List α))=[]:=rfl
def gx {α:Type} (z:α) (l:List α) (i:Int):α:=l.getD i.toNat z
theorem VE {α:Type} {z:α} {l:List α} {i:Int} (h0:0≤i) (h1:i<l.length):∃h:i.toNat<l.length,gx z l i=l[i.toNat]:=by
 have h:i.toNat<l.length:=by omega
 exact⟨h,by simp[gx,h]⟩
theorem uY {α:Type} {z:α} {l:List α} {i:Int} (h0:0≤i) (h1:i<l.length):gx z l i∈l:=by
 obtain⟨h,e⟩:=VE (z:=z) h0 h1
 rw[e];exact List.getElem_mem h
def yR (l:List fR):List AV:=l.flatMap bY
@[simp] theorem Vv (l:List (fR)):(yR l).length=l.length * 33:=by
 induction l with
 | nil=>rfl
 | cons x l ih=>simp only[yR,List.flatMap_cons,List.length_append,bQ,List.length_cons] at *;omega
def aJ (l:List Block):List AV:=l.flatMap aU
@[simp] theorem Aq (l:List (Block)):(aJ l).length=l.length * 238:=by
 induction l with
 | nil=>rfl
 | cons x l ih=>simp only[aJ,List.flatMap_cons,List.length_append,bM,List.length_cons] at *;omega
theorem oX (l:List (Block)):∀x∈aJ l,Flat x:=by
 intro x hx;obtain⟨y,_,hy⟩:=List.mem_flatMap.1 hx
 exact Ax y x hy
def mP (l:List Bool):List AV:=l.flatMap uL
@[simp] theorem aGc (l:List (Bool)):(mP l).length=l.length * 1:=by
 induction l with
 | nil=>rfl
 | cons x l ih=>simp only[mP,List.flatMap_cons,List.length_append,gQ,List.length_cons] at *;omega
theorem Sa (l:List (Bool)):∀x∈mP l,Flat x:=by
 intro x hx;obtain⟨y,_,hy⟩:=List.mem_flatMap.1 hx
 exact mJ y x hy
structure sM where
 tag:Int
def iU (s:sM):List AV:=rC s.tag
@[simp] theorem gK (s:sM):(iU s).length=1:=by simp[iU]
theorem Ef (s:sM):∀x∈iU s,Flat x:=by
 intro x hx;simp only[iU,List.mem_append,List.mem_singleton] at hx;(exact eC _ _ hx)
theorem PE (s:sM):∀x∈iU s,fM x:=by
 intro x hx;simp only[iU,List.mem_append] at hx;exact NU _ _ hx
theorem zL (s:sM):(iU s)[0]? = some (.v (.int .u64 s.tag)):=rfl
theorem Jy (s:sM) (x:Int):dJ (iU s) 0 ([.v (.int .u64 x)]) 1=iU { s with tag:=x }:=eH (aW _)
def Uo:sM:=⟨0⟩
def Iu:List Value:=[.int .u64 0]
theorem Iv:Iu.map AV.v=iU Uo:=by simp only[Iu,List.map_append,List.map_cons,List.map_nil,jG,jH];rfl
def HU:List Bool:=[true]
theorem On (a b:sM):gY HU (iU a) (iU b):=(show gY [true] [_] [_] from ⟨rfl,trivial⟩)
theorem Su (a b:sM):iU a=iU b↔a=b:=by
 refine⟨fun h=>?_,fun h=>by rw[h]⟩
 cases a;cases b
 simp only[iU] at h;have e0:=(Cx _ _).1 h
 subst e0;rfl
structure eD where
 tagged:sM
 kind:Int
 dV:cM
def bN (s:eD):List AV:=iU s.tagged++(pE s.kind++(aZ s.dV))
@[simp] theorem lX (s:eD):(bN s).length=34:=by simp[bN]
theorem gE (s:eD):∀x∈bN s,Flat x:=by
 intro x hx;simp only[bN,List.mem_append,List.mem_singleton] at hx;rcases hx with hx|hx|hx
 ·(exact Ef _ _ hx)
 ·(exact mF _ _ hx)
 ·(exact dP _ _ hx)
theorem Oo (s:eD) (x:sM):dJ (bN s) 0 (iU x) 1=bN { s with tagged:=x }:=cB (gK _)
theorem Er (s:eD):(bN s)[0]? = some (.v (.int .u64 s.tagged.tag)):=(eM (by rw[gK];decide)).trans (zL _)
theorem Fu (s:eD) (x:Int):dJ (bN s) 0 ([.v (.int .u64 x)]) 1=bN { s with tagged:={ s.tagged with tag:=x }}:=(tY (by rw[gK];decide)).trans (En (Jy _ x))
theorem Ra (s:eD):(bN s)[1]? = some (.v (.int .i64 s.kind)):=(aH rfl (gK _)).trans (rfl)
theorem Tm (s:eD) (x:Int):dJ (bN s) 1 ([.v (.int .i64 x)]) 2=bN { s with kind:=x }:=(aD rfl rfl (gK _)).trans (bF (cB (bA _)))
theorem Oq (s:eD):rd (bN s) 2 32=aZ s.dV:=(aY rfl (gK _)).trans ((aY rfl (bA _)).trans (iV (aO _)))
theorem Ot (s:eD) (x:cM):dJ (bN s) 2 (aZ x) 34=bN { s with dV:=x }:=(aD rfl rfl (gK _)).trans (bF ((aD rfl rfl (bA _)).trans (bF (eH (aO _)))))
def zC:eD:=⟨Uo,0,dK⟩
def zD:List Value:=Iu++([.int .i64 0]++(sW))
theorem Lo:zD.map AV.v=bN zC:=by simp only[zD,List.map_append,List.map_cons,List.map_nil,jG,jH,Iv];rfl
def PF:List Bool:=HU++([true]++(Ff))
theorem BJ (a b:eD):gY PF (bN a) (bN b):=(eP (On _ _) (eP (show gY [true] [_] [_] from ⟨rfl,trivial⟩) (mL _ _)))
theorem HV (a b:eD):bN a=bN b↔a=b:=by
 refine⟨fun h=>?_,fun h=>by rw[h]⟩
 cases a;cases b
 simp only[bN] at h;obtain⟨h0,h⟩:=List.append_inj h (by simp)
 obtain⟨h1,h⟩:=List.append_inj h (by simp)
 have e0:=(Su _ _).1 h0
 have e1:=(tZ _ _).1 h1
 have e2:=(oI _ _).1 h
 subst e0 e1 e2;rfl
theorem Yk (s:eD):rd (bN s) 0 34=bN s:=iV (lX _)
theorem Yl (s x:eD):dJ (bN s) 0 (bN x) 34=bN x:=eH (lX _)
structure lT where
 rK:Int
 vX:Int
 pR:Int
 qL:Int
 oC:Int
 qY:Int
def fN (s:lT):List AV:=pE s.rK++(pE s.vX++(pE s.pR++(pE s.qL++(pE s.oC++(rC s.qY)))))
@[simp] theorem fZ (s:lT):(fN s).length=6:=by simp[fN]
theorem tW (s:lT):∀x∈fN s,Flat x:=by
 intro x hx;simp only[fN,List.mem_append,List.mem_singleton] at hx;rcases hx with hx|hx|hx|hx|hx|hx
 ·(exact mF _ _ hx)
 ·(exact mF _ _ hx)
 ·(exact mF _ _ hx)
 ·(exact mF _ _ hx)
 ·(exact mF _ _ hx)
 ·(exact eC _ _ hx)
theorem Db (s:lT):(fN s)[0]? = some (.v (.int .i64 s.rK)):=rfl
theorem Tn (s:lT) (x:Int):dJ (fN s) 0 ([.v (.int .i64 x)]) 1=fN { s with rK:=x }:=cB (bA _)
theorem Dc (s:lT):(fN s)[1]? = some (.v (.int .i64 s.vX)):=(aH rfl (bA _)).trans (rfl)
theorem To (s:lT) (x:Int):dJ (fN s) 1 ([.v (.int .i64 x)]) 2=fN { s with vX:=x }:=(aD rfl rfl (bA _)).trans (bF (cB (bA _)))
theorem Ay (s:lT):(fN s)[2]? = some (.v (.int .i64 s.pR)):=(aH rfl (bA _)).trans ((aH rfl (bA _)).trans (rfl))
theorem Rb (s:lT) (x:Int):dJ (fN s) 2 ([.v (.int .i64 x)]) 3=fN { s with pR:=x }:=(aD rfl rfl (bA _)).trans (bF ((aD rfl rfl (bA _)).trans (bF (cB (bA _)))))
theorem Az (s:lT):(fN s)[3]? = some (.v (.int .i64 s.qL)):=(aH rfl (bA _)).trans ((aH rfl (bA _)).trans ((aH rfl (bA _)).trans (rfl)))
theorem Rc (s:lT) (x:Int):dJ (fN s) 3 ([.v (.int .i64 x)]) 4=fN { s with qL:=x }:=(aD rfl rfl (bA _)).trans (bF ((aD rfl rfl (bA _)).trans (bF ((aD rfl rfl (bA _)).trans (bF (cB (bA _)))))))
theorem Ba (s:lT):(fN s)[4]? = some (.v (.int .i64 s.oC)):=(aH rfl (bA _)).trans ((aH rfl (bA _)).trans ((aH rfl (bA _)).trans ((aH rfl (bA _)).trans (rfl))))
theorem Rd (s:lT) (x:Int):dJ (fN s) 4 ([.v (.int .i64 x)]) 5=fN { s with oC:=x }:=(aD rfl rfl (bA _)).trans (bF ((aD rfl rfl (bA _)).trans (bF ((aD rfl rfl (bA _)).trans (bF ((aD rfl rfl (bA _)).trans (bF (cB (bA _)))))))))
theorem zM (s:lT):(fN s)[5]? = some (.v (.int .u64 s.qY)):=(aH rfl (bA _)).trans ((aH rfl (bA _)).trans ((aH rfl (bA _)).trans ((aH rfl (bA _)).trans ((aH rfl (bA _)).trans (rfl)))))
theorem Ou (s:lT) (x:Int):dJ (fN s) 5 ([.v (.int .u64 x)]) 6=fN { s with qY:=x }:=(aD rfl rfl (bA _)).trans (bF ((aD rfl rfl (bA _)).trans (bF ((aD rfl rfl (bA _)).trans (bF ((aD rfl rfl (bA _)).trans (bF ((aD rfl rfl (bA _)).trans (bF (eH (aW _)))))))))))
def HW:lT:=⟨0,0,0,0,0,0⟩
def Ov:List Value:=[.int .i64 0]++([.int .i64 0]++([.int .i64 0]++([.int .i64 0]++([.int .i64 0]++([.int .u64 0])))))
theorem Re:Ov.map AV.v=fN HW:=by simp only[Ov,List.map_append,List.map_cons,List.map_nil,jG,jH];rfl
def YG:List Bool:=[true]++([true]++([true]++([true]++([true]++([true])))))
theorem HX (a b:lT):gY YG (fN a) (fN b):=(eP (show gY [true] [_] [_] from ⟨rfl,trivial⟩) (eP (show gY [true] [_] [_] from ⟨rfl,trivial⟩) (eP (show gY [true] [_] [_] from ⟨rfl,trivial⟩) (eP (show gY [true] [_] [_] from ⟨rfl,trivial⟩) (eP (show gY [true] [_] [_] from ⟨rfl,trivial⟩) (show gY [true] [_] [_] from ⟨rfl,trivial⟩))))))
theorem PG (a b:lT):fN a=fN b↔a=b:=by
 refine⟨fun h=>?_,fun h=>by rw[h]⟩
 cases a;cases b
 simp only[fN] at h;obtain⟨h0,h⟩:=List.append_inj h (by simp)
 obtain⟨h1,h⟩:=List.append_inj h (by simp)
 obtain⟨h2,h⟩:=List.append_inj h (by simp)
 obtain⟨h3,h⟩:=List.append_inj h (by simp)
 obtain⟨h4,h⟩:=List.append_inj h (by simp)
 have e0:=(tZ _ _).1 h0
 have e1:=(tZ _ _).1 h1
 have e2:=(tZ _ _).1 h2
 have e3:=(tZ _ _).1 h3
 have e4:=(tZ _ _).1 h4
 have e5:=(Cx _ _).1 h
 subst e0 e1 e2 e3 e4 e5;rfl
structure Config where
 mA:lT
 qK:Int
 Gs:Int
 Zz:qX
 eB:cM
 jI:AV
def bS (s:Config):List AV:=fN s.mA++(rC s.qK++(rC s.Gs++(gF s.Zz++(aZ s.eB++([s.jI])))))
@[simp] theorem bL (s:Config):(bS s).length=45:=by simp[bS]
theorem tR (s:Config) (h0:Flat s.jI):∀x∈bS s,Flat x:=by
 intro x hx;simp only[bS,List.mem_append,List.mem_singleton] at hx;rcases hx with hx|hx|hx|hx|hx|hx
 ·(exact tW _ _ hx)
 ·(exact eC _ _ hx)
 ·(exact eC _ _ hx)
 ·(exact iJ _ _ hx)
 ·(exact dP _ _ hx)
 ·(subst hx;assumption)
theorem BK (s:Config):rd (bS s) 0 6=fN s.mA:=gG (fZ _)
theorem BL (s:Config) (x:lT):dJ (bS s) 0 (fN x) 6=bS { s with mA:=x }:=cB (fZ _)
theorem wG (s:Config):(bS s)[0]? = some (.v (.int .i64 s.mA.rK)):=(eM (by rw[fZ];decide)).trans (Db _)
theorem wH (s:Config):(bS s)[1]? = some (.v (.int .i64 s.mA.vX)):=(eM (by rw[fZ];decide)).trans (Dc _)
theorem uM (s:Config):(bS s)[2]? = some (.v (.int .i64 s.mA.pR)):=(eM (by rw[fZ];decide)).trans (Ay _)
theorem uN (s:Config):(bS s)[3]? = some (.v (.int .i64 s.mA.qL)):=(eM (by rw[fZ];decide)).trans (Az _)
theorem uO (s:Config):(bS s)[4]? = some (.v (.int .i64 s.mA.oC)):=(eM (by rw[fZ];decide)).trans (Ba _)
theorem uC (s:Config):(bS s)[5]? = some (.v (.int .u64 s.mA.qY)):=(eM (by rw[fZ];decide)).trans (zM _)
theorem Hl (s:Config):(bS s)[6]? = some (.v (.int .u64 s.qK)):=(aH rfl (fZ _)).trans (rfl)
theorem BM (s:Config) (x:Int):dJ (bS s) 6 ([.v (.int .u64 x)]) 7=bS { s with qK:=x }:=(aD rfl rfl (fZ _)).trans (bF (cB (aW _)))
theorem Ow (s:Config):(bS s)[7]? = some (.v (.int .u64 s.Gs)):=(aH rfl (fZ _)).trans ((aH rfl (aW _)).trans (rfl))
theorem Rf (s:Config) (x:Int):dJ (bS s) 7 ([.v (.int .u64 x)]) 8=bS { s with Gs:=x }:=(aD rfl rfl (fZ _)).trans (bF ((aD rfl rfl (aW _)).trans (bF (cB (aW _)))))
theorem Jz (s:Config):rd (bS s) 8 4=gF s.Zz:=(aY rfl (fZ _)).trans ((aY rfl (aW _)).trans ((aY rfl (aW _)).trans (gG (dU _))))
theorem BN (s:Config) (x:qX):dJ (bS s) 8 (gF x) 12=bS { s with Zz:=x }:=(aD rfl rfl (fZ _)).trans (bF ((aD rfl rfl (aW _)).trans (bF ((aD rfl rfl (aW _)).trans (bF (cB (dU _)))))))
theorem Bb (s:Config):rd (bS s) 12 32=aZ s.eB:=(aY rfl (fZ _)).trans ((aY rfl (aW _)).trans ((aY rfl (aW _)).trans ((aY rfl (dU _)).trans (gG (aO _)))))
theorem Ox (s:Config) (x:cM):dJ (bS s) 12 (aZ x) 44=bS { s with eB:=x }:=(aD rfl rfl (fZ _)).trans (bF ((aD rfl rfl (aW _)).trans (bF ((aD rfl rfl (aW _)).trans (bF ((aD rfl rfl (dU _)).trans (bF (cB (aO _)))))))))
theorem yJ (s:Config):(bS s)[44]? = some (s.jI):=(aH rfl (fZ _)).trans ((aH rfl (aW _)).trans ((aH rfl (aW _)).trans ((aH rfl (dU _)).trans ((aH rfl (aO _)).trans (rfl)))))
theorem Ka (s:Config) (x:AV):dJ (bS s) 44 ([x]) 45=bS { s with jI:=x }:=(aD rfl rfl (fZ _)).trans (bF ((aD rfl rfl (aW _)).trans (bF ((aD rfl rfl (aW _)).trans (bF ((aD rfl rfl (dU _)).trans (bF ((aD rfl rfl (aO _)).trans (bF (eH rfl))))))))))
def nA:Config:=⟨HW,0,0,ED,dK,(.v (.slice none 0 0))⟩
def Oy:List Value:=Ov++([.int .u64 0]++([.int .u64 0]++(Yd++(sW++([.slice none 0 0])))))
theorem Rh:Oy.map AV.v=bS nA:=by simp only[Oy,List.map_append,List.map_cons,List.map_nil,jG,jH,Re];rfl
theorem Wn (st:St) (s:Config):AG st (bS s)=cD (cY st s.jI) fun Z2=>some (bS { s with jI:=Z2 }):=by
 simp only[bS,tX,jD (tW _),jD (eC _),jD (iJ _),jD (dP _),vQ,mR,cU]
theorem BO (s:Config):rd (bS s) 0 45=bS s:=iV (bL _)
theorem BP (s x:Config):dJ (bS s) 0 (bS x) 45=bS x:=eH (bL _)
structure kF where
 has:Bool
 aL:Int
 root:cM
def jK (s:kF):List AV:=uL s.has++(rC s.aL++(aZ s.root))
@[simp] theorem rG (s:kF):(jK s).length=34:=by simp[jK]
theorem VF (s:kF):∀x∈jK s,Flat x:=by
 intro x hx;simp only[jK,List.mem_append,List.mem_singleton] at hx;rcases hx with hx|hx|hx
 ·(exact mJ _ _ hx)
 ·(exact eC _ _ hx)
 ·(exact dP _ _ hx)
theorem HY (s:kF):(jK s)[0]? = some (.v (.bool s.has)):=rfl
theorem PH (s:kF) (x:Bool):dJ (jK s) 0 ([.v (.bool x)]) 1=jK { s with has:=x }:=cB (gQ _)
theorem Ym (s:kF):(jK s)[1]? = some (.v (.int .u64 s.aL)):=(aH rfl (gQ _)).trans (rfl)
theorem BR (s:kF) (x:Int):dJ (jK s) 1 ([.v (.int .u64 x)]) 2=jK { s with aL:=x }:=(aD rfl rfl (gQ _)).trans (bF (cB (aW _)))
theorem HZ (s:kF):rd (jK s) 2 32=aZ s.root:=(aY rfl (gQ _)).trans ((aY rfl (aW _)).trans (iV (aO _)))
theorem IA (s:kF) (x:cM):dJ (jK s) 2 (aZ x) 34=jK { s with root:=x }:=(aD rfl rfl (gQ _)).trans (bF ((aD rfl rfl (aW _)).trans (bF (eH (aO _)))))
def rU:kF:=⟨false,0,dK⟩
def YH:List Value:=[.bool false]++([.int .u64 0]++(sW))
theorem YI:YH.map AV.v=jK rU:=by simp only[YH,List.map_append,List.map_cons,List.map_nil,jG,jH];rfl
def aEv:List Bool:=[false]++([true]++(Ff))
theorem VG (a b:kF):gY aEv (jK a) (jK b):=(eP (show gY [false] [_] [_] from trivial) (eP (show gY [true] [_] [_] from ⟨rfl,trivial⟩) (mL _ _)))
theorem C5 (a b:kF):jK a=jK b↔a=b:=by
 refine⟨fun h=>?_,fun h=>by rw[h]⟩
 cases a;cases b
 simp only[jK] at h;obtain⟨h0,h⟩:=List.append_inj h (by simp)
 obtain⟨h1,h⟩:=List.append_inj h (by simp)
 have e0:=(EC _ _).1 h0
 have e1:=(Cx _ _).1 h1
 have e2:=(oI _ _).1 h
 subst e0 e1 e2;rfl
theorem PI (s:kF):rd (jK s) 0 34=jK s:=iV (rG _)
theorem PJ (s x:kF):dJ (jK s) 0 (jK x) 34=jK x:=eH (rG _)
structure rQ where
 slot:Int
 root:cM
 target:fR
 eU:AV
def gV (s:rQ):List AV:=rC s.slot++(aZ s.root++(bY s.target++([s.eU])))
@[simp] theorem iB (s:rQ):(gV s).length=67:=by simp[gV]
theorem Pt (s:rQ) (h0:Flat s.eU):∀x∈gV s,Flat x:=by
 intro x hx;simp only[gV,List.mem_append,List.mem_singleton] at hx;rcases hx with hx|hx|hx|hx
 ·(exact eC _ _ hx)
 ·(exact dP _ _ hx)
 ·(exact dA _ _ hx)
 ·(subst hx;assumption)
theorem IB (s:rQ):(gV s)[0]? = some (.v (.int .u64 s.slot)):=rfl
theorem PK (s:rQ) (x:Int):dJ (gV s) 0 ([.v (.int .u64 x)]) 1=gV { s with slot:=x }:=cB (aW _)
theorem PL (s:rQ):rd (gV s) 1 32=aZ s.root:=(aY rfl (aW _)).trans (gG (aO _))
theorem PM (s:rQ) (x:cM):dJ (gV s) 1 (aZ x) 33=gV { s with root:=x }:=(aD rfl rfl (aW _)).trans (bF (cB (aO _)))
theorem BS (s:rQ):rd (gV s) 33 33=bY s.target:=(aY rfl (aW _)).trans ((aY rfl (aO _)).trans (gG (bQ _)))
theorem BT (s:rQ) (x:fR):dJ (gV s) 33 (bY x) 66=gV { s with target:=x }:=(aD rfl rfl (aW _)).trans (bF ((aD rfl rfl (aO _)).trans (bF (cB (bQ _)))))
theorem Hm (s:rQ):(gV s)[33]? = some (.v (.int .u64 s.target.aL)):=(aH rfl (aW _)).trans ((aH rfl (aO _)).trans ((eM (by rw[bQ];decide)).trans (jU _)))
theorem Jf (s:rQ) (x:Int):dJ (gV s) 33 ([.v (.int .u64 x)]) 34=gV { s with target:={ s.target with aL:=x }}:=(aD rfl rfl (aW _)).trans (bF ((aD rfl rfl (aO _)).trans (bF ((tY (by rw[bQ];decide)).trans (En (Bt _ x))))))
theorem Lp (s:rQ):rd (gV s) 34 32=aZ s.target.root:=(aY rfl (aW _)).trans ((aY rfl (aO _)).trans ((pX (by rw[bQ];decide)).trans (uA _)))
theorem Lq (s:rQ) (x:cM):dJ (gV s) 34 (aZ x) 66=gV { s with target:={ s.target with root:=x }}:=(aD rfl rfl (aW _)).trans (bF ((aD rfl rfl (aO _)).trans (bF ((tY (by rw[bQ];decide)).trans (En (Eo _ x))))))
theorem Dw (s:rQ):(gV s)[66]? = some (s.eU):=(aH rfl (aW _)).trans ((aH rfl (aO _)).trans ((aH rfl (bQ _)).trans (rfl)))
theorem PN (s:rQ) (x:AV):dJ (gV s) 66 ([x]) 67=gV { s with eU:=x }:=(aD rfl rfl (aW _)).trans (bF ((aD rfl rfl (aO _)).trans (bF ((aD rfl rfl (bQ _)).trans (bF (eH rfl))))))
def Jb:rQ:=⟨0,dK,iM,(.v (.slice none 0 0))⟩
def Z3:List Value:=[.int .u64 0]++(sW++(Ck++([.slice none 0 0])))
theorem VH:Z3.map AV.v=gV Jb:=by simp only[Z3,List.map_append,List.map_cons,List.map_nil,jG,jH,Al];rfl
theorem lS (st:St) (s:rQ):AG st (gV s)=cD (cY st s.eU) fun VI=>some (gV { s with eU:=VI }):=by
 simp only[gV,tX,jD (eC _),jD (dP _),jD (dA _),vQ,mR,cU]
theorem VJ (s:rQ):rd (gV s) 0 67=gV s:=iV (iB _)
theorem VK (s x:rQ):dJ (gV s) 0 (gV x) 67=gV x:=eH (iB _)
structure Claim where
 source:Int
 target:Int
 root:cM
 eU:AV
def gO (s:Claim):List AV:=rC s.source++(rC s.target++(aZ s.root++([s.eU])))
@[simp] theorem iK (s:Claim):(gO s).length=35:=by simp[gO]
theorem Gk (s:Claim) (h0:Flat s.eU):∀x∈gO s,Flat x:=by
 intro x hx;simp only[gO,List.mem_append,List.mem_singleton] at hx;rcases hx with hx|hx|hx|hx
 ·(exact eC _ _ hx)
 ·(exact eC _ _ hx)
 ·(exact dP _ _ hx)
 ·(subst hx;assumption)
theorem vL (s:Claim):(gO s)[0]? = some (.v (.int .u64 s.source)):=rfl
theorem Fh (s:Claim) (x:Int):dJ (gO s) 0 ([.v (.int .u64 x)]) 1=gO { s with source:=x }:=cB (aW _)
theorem vM (s:Claim):(gO s)[1]? = some (.v (.int .u64 s.target)):=(aH rfl (aW _)).trans (rfl)
theorem Fi (s:Claim) (x:Int):dJ (gO s) 1 ([.v (.int .u64 x)]) 2=gO { s with target:=x }:=(aD rfl rfl (aW _)).trans (bF (cB (aW _)))
theorem BU (s:Claim):rd (gO s) 2 32=aZ s.root:=(aY rfl (aW _)).trans ((aY rfl (aW _)).trans (gG (aO _)))
theorem Kb (s:Claim) (x:cM):dJ (gO s) 2 (aZ x) 34=gO { s with root:=x }:=(aD rfl rfl (aW _)).trans (bF ((aD rfl rfl (aW _)).trans (bF (cB (aO _)))))
theorem tT (s:Claim):(gO s)[34]? = some (s.eU):=(aH rfl (aW _)).trans ((aH rfl (aW _)).trans ((aH rfl (aO _)).trans (rfl)))
theorem BV (s:Claim) (x:AV):dJ (gO s) 34 ([x]) 35=gO { s with eU:=x }:=(aD rfl rfl (aW _)).trans (bF ((aD rfl rfl (aW _)).trans (bF ((aD rfl rfl (aO _)).trans (bF (eH rfl))))))
def IC:Claim:=⟨0,0,dK,(.v (.slice none 0 0))⟩
def Ri:List Value:=[.int .u64 0]++([.int .u64 0]++(sW++([.slice none 0 0])))
theorem Yn:Ri.map AV.v=gO IC:=by simp only[Ri,List.map_append,List.map_cons,List.map_nil,jG,jH];rfl
theorem vE (st:St) (s:Claim):AG st (gO s)=cD (cY st s.eU) fun VI=>some (gO { s with eU:=VI }):=by
 simp only[gO,tX,jD (eC _),jD (dP _),vQ,mR,cU]
structure fW where
 first:Claim
 second:Claim
def bV (s:fW):List AV:=gO s.first++(gO s.second)
@[simp] theorem fL (s:fW):(bV s).length=70:=by simp[bV]
theorem Gl (s:fW) (h0:Flat s.first.eU) (h1:Flat s.second.eU):∀x∈bV s,Flat x:=by
 intro x hx;simp only[bV,List.mem_append,List.mem_singleton] at hx;rcases hx with hx|hx
 ·(exact Gk _ (by assumption) _ hx)
 ·(exact Gk _ (by assumption) _ hx)
theorem Oz (s:fW):rd (bV s) 0 35=gO s.first:=gG (iK _)
theorem Pa (s:fW) (x:Claim):dJ (bV s) 0 (gO x) 35=bV { s with first:=x }:=cB (iK _)
theorem zW (s:fW):(bV s)[0]? = some (.v (.int .u64 s.first.source)):=(eM (by rw[iK];decide)).trans (vL _)
theorem zX (s:fW):(bV s)[1]? = some (.v (.int .u64 s.first.target)):=(eM (by rw[iK];decide)).trans (vM _)
theorem oB (s:fW):(bV s)[34]? = some (s.first.eU):=(eM (by rw[iK];decide)).trans (tT _)
theorem Lr (s:fW):rd (bV s) 35 35=gO s.second:=(aY rfl (iK _)).trans (iV (iK _))
theorem Ls (s:fW) (x:Claim):dJ (bV s) 35 (gO x) 70=bV { s with second:=x }:=(aD rfl rfl (iK _)).trans (bF (eH (iK _)))
theorem zN (s:fW):(bV s)[35]? = some (.v (.int .u64 s.second.source)):=(aH rfl (iK _)).trans (vL _)
theorem zY (s:fW) (x:Int):dJ (bV s) 35 ([.v (.int .u64 x)]) 36=bV { s with second:={ s.second with source:=x }}:=(aD rfl rfl (iK _)).trans (bF (Fh _ x))
theorem zO (s:fW):(bV s)[36]? = some (.v (.int .u64 s.second.target)):=(aH rfl (iK _)).trans (vM _)
theorem zZ (s:fW) (x:Int):dJ (bV s) 36 ([.v (.int .u64 x)]) 37=bV { s with second:={ s.second with target:=x }}:=(aD rfl rfl (iK _)).trans (bF (Fi _ x))
theorem Dd (s:fW) (x:cM):dJ (bV s) 37 (aZ x) 69=bV { s with second:={ s.second with root:=x }}:=(aD rfl rfl (iK _)).trans (bF (Kb _ x))
theorem nI (s:fW):(bV s)[69]? = some (s.second.eU):=(aH rfl (iK _)).trans (tT _)
def Rj:fW:=⟨IC,IC⟩
def De:List Value:=Ri++(Ri)
theorem Hn:De.map AV.v=bV Rj:=by simp only[De,List.map_append,List.map_cons,List.map_nil,jG,jH,Yn];rfl
theorem rA (st:St) (s:fW):AG st (bV s)=cD (cY st s.first.eU) fun x_first_vals=>cD (cY st s.second.eU) fun x_second_vals=>some (bV { s with first:={ s.first with eU:=x_first_vals },second:={ s.second with eU:=x_second_vals }}):=by
 simp only[bV,tX,vE,mR,cU]
theorem Tp (s:fW):rd (bV s) 0 70=bV s:=iV (fL _)
theorem Tq (s x:fW):dJ (bV s) 0 (bV x) 70=bV x:=eH (fL _)
structure Table where
 ck:fR
 jI:AV
def cA (s:Table):List AV:=bY s.ck++([s.jI])
@[simp] theorem fQ (s:Table):(cA s).length=34:=by simp[cA]
theorem Gm (s:Table) (h0:Flat s.jI):∀x∈cA s,Flat x:=by
 intro x hx;simp only[cA,List.mem_append,List.mem_singleton] at hx;rcases hx with hx|hx
 ·(exact dA _ _ hx)
 ·(subst hx;assumption)
theorem PO (s:Table):rd (cA s) 0 33=bY s.ck:=gG (bQ _)
theorem PQ (s:Table) (x:fR):dJ (cA s) 0 (bY x) 33=cA { s with ck:=x }:=cB (bQ _)
theorem Lt (s:Table):(cA s)[0]? = some (.v (.int .u64 s.ck.aL)):=(eM (by rw[bQ];decide)).trans (jU _)
theorem Rk (s:Table):rd (cA s) 1 32=aZ s.ck.root:=(pX (by rw[bQ];decide)).trans (uA _)
theorem Bh (s:Table):(cA s)[33]? = some (s.jI):=(aH rfl (bQ _)).trans (rfl)
theorem ID (s:Table) (x:AV):dJ (cA s) 33 ([x]) 34=cA { s with jI:=x }:=(aD rfl rfl (bQ _)).trans (bF (eH rfl))
def iT:Table:=⟨iM,(.v (.slice none 0 0))⟩
def Yo:List Value:=Ck++([.slice none 0 0])
theorem Yp:Yo.map AV.v=cA iT:=by simp only[Yo,List.map_append,List.map_cons,List.map_nil,jG,jH,Al];rfl
theorem sV (st:St) (s:Table):AG st (cA s)=cD (cY st s.jI) fun Z2=>some (cA { s with jI:=Z2 }):=by
 simp only[cA,tX,jD (dA _),vQ,mR,cU]
theorem IE (s:Table):rd (cA s) 0 34=cA s:=iV (fQ _)
theorem IF (s x:Table):dJ (cA s) 0 (cA x) 34=cA x:=eH (fQ _)
structure Request where
 tagged:sM
 block:cM
 tries:Int
 due:Int
def bK (s:Request):List AV:=iU s.tagged++(aZ s.block++(pE s.tries++(rC s.due)))
@[simp] theorem fY (s:Request):(bK s).length=35:=by simp[bK]
theorem eI (s:Request):∀x∈bK s,Flat x:=by
 intro x hx;simp only[bK,List.mem_append,List.mem_singleton] at hx;rcases hx with hx|hx|hx|hx
 ·(exact Ef _ _ hx)
 ·(exact dP _ _ hx)
 ·(exact mF _ _ hx)
 ·(exact eC _ _ hx)
theorem FX (s:Request):∀x∈bK s,fM x:=by
 intro x hx;simp only[bK,List.mem_append] at hx;rcases hx with hx|hx|hx|hx
 ·exact PE _ _ hx
 ·exact A6 _ _ hx
 ·exact W1 _ _ hx
 ·exact NU _ _ hx
theorem Pb (s:Request):rd (bK s) 0 1=iU s.tagged:=gG (gK _)
theorem Pc (s:Request) (x:sM):dJ (bK s) 0 (iU x) 1=bK { s with tagged:=x }:=cB (gK _)
theorem Es (s:Request):(bK s)[0]? = some (.v (.int .u64 s.tagged.tag)):=(eM (by rw[gK];decide)).trans (zL _)
theorem Rl (s:Request):rd (bK s) 1 32=aZ s.block:=(aY rfl (gK _)).trans (gG (aO _))
theorem Rm (s:Request) (x:cM):dJ (bK s) 1 (aZ x) 33=bK { s with block:=x }:=(aD rfl rfl (gK _)).trans (bF (cB (aO _)))
theorem Pd (s:Request):(bK s)[33]? = some (.v (.int .i64 s.tries)):=(aH rfl (gK _)).trans ((aH rfl (aO _)).trans (rfl))
theorem Rn (s:Request) (x:Int):dJ (bK s) 33 ([.v (.int .i64 x)]) 34=bK { s with tries:=x }:=(aD rfl rfl (gK _)).trans (bF ((aD rfl rfl (aO _)).trans (bF (cB (bA _)))))
theorem Tr (s:Request):(bK s)[34]? = some (.v (.int .u64 s.due)):=(aH rfl (gK _)).trans ((aH rfl (aO _)).trans ((aH rfl (bA _)).trans (rfl)))
theorem Yq (s:Request) (x:Int):dJ (bK s) 34 ([.v (.int .u64 x)]) 35=bK { s with due:=x }:=(aD rfl rfl (gK _)).trans (bF ((aD rfl rfl (aO _)).trans (bF ((aD rfl rfl (bA _)).trans (bF (eH (aW _)))))))
def bW:Request:=⟨Uo,dK,0,0⟩
def Cs:List Value:=Iu++(sW++([.int .i64 0]++([.int .u64 0])))
theorem Yr:Cs.map AV.v=bK bW:=by simp only[Cs,List.map_append,List.map_cons,List.map_nil,jG,jH,Iv];rfl
def PR:List Bool:=HU++(Ff++([true]++([true])))
theorem BW (a b:Request):gY PR (bK a) (bK b):=(eP (On _ _) (eP (mL _ _) (eP (show gY [true] [_] [_] from ⟨rfl,trivial⟩) (show gY [true] [_] [_] from ⟨rfl,trivial⟩))))
theorem IG (a b:Request):bK a=bK b↔a=b:=by
 refine⟨fun h=>?_,fun h=>by rw[h]⟩
 cases a;cases b
 simp only[bK] at h;obtain⟨h0,h⟩:=List.append_inj h (by simp)
 obtain⟨h1,h⟩:=List.append_inj h (by simp)
 obtain⟨h2,h⟩:=List.append_inj h (by simp)
 have e0:=(Su _ _).1 h0
 have e1:=(oI _ _).1 h1
 have e2:=(tZ _ _).1 h2
 have e3:=(Cx _ _).1 h
 subst e0 e1 e2 e3;rfl
theorem Ys (s:Request):rd (bK s) 0 35=bK s:=iV (fY _)
theorem Yt (s x:Request):dJ (bK s) 0 (bK x) 35=bK x:=eH (fY _)
structure Command where
 head:cM
 safe:cM
 fin:cM
def eG (s:Command):List AV:=aZ s.head++(aZ s.safe++(aZ s.fin))
@[simp] theorem lY (s:Command):(eG s).length=96:=by simp[eG]
theorem kY (s:Command):∀x∈eG s,Flat x:=by
 intro x hx;simp only[eG,List.mem_append,List.mem_singleton] at hx;rcases hx with hx|hx|hx
 ·(exact dP _ _ hx)
 ·(exact dP _ _ hx)
 ·(exact dP _ _ hx)
theorem Ts (s:Command) (x:cM):dJ (eG s) 0 (aZ x) 32=eG { s with head:=x }:=cB (aO _)
theorem Tt (s:Command) (x:cM):dJ (eG s) 32 (aZ x) 64=eG { s with safe:=x }:=(aD rfl rfl (aO _)).trans (bF (cB (aO _)))
theorem Yu (s:Command) (x:cM):dJ (eG s) 64 (aZ x) 96=eG { s with fin:=x }:=(aD rfl rfl (aO _)).trans (bF ((aD rfl rfl (aO _)).trans (bF (eH (aO _)))))
def Yv:Command:=⟨dK,dK,dK⟩
def Ho:List Value:=sW++(sW++(sW))
theorem Lu:Ho.map AV.v=eG Yv:=by simp only[Ho,List.map_append,List.map_cons,List.map_nil,jG,jH];rfl
def PS:List Bool:=Ff++(Ff++(Ff))
theorem BX (a b:Command):gY PS (eG a) (eG b):=(eP (mL _ _) (eP (mL _ _) (mL _ _)))
theorem II (a b:Command):eG a=eG b↔a=b:=by
 refine⟨fun h=>?_,fun h=>by rw[h]⟩
 cases a;cases b
 simp only[eG] at h;obtain⟨h0,h⟩:=List.append_inj h (by simp)
 obtain⟨h1,h⟩:=List.append_inj h (by simp)
 have e0:=(oI _ _).1 h0
 have e1:=(oI _ _).1 h1
 have e2:=(oI _ _).1 h
 subst e0 e1 e2;rfl
theorem Yw (s:Command):rd (eG s) 0 96=eG s:=iV (lY _)
theorem Yx (s x:Command):dJ (eG s) 0 (eG x) 96=eG x:=eH (lY _)
structure uJ where
 dV:AV
 gU:AV
def eZ (s:uJ):List AV:=[s.dV]++([s.gU])
@[simp] theorem dB (s:uJ):(eZ s).length=2:=by simp[eZ]
theorem qE (s:uJ) (h0:Flat s.dV) (h1:Flat s.gU):∀x∈eZ s,Flat x:=by
 intro x hx;simp only[eZ,List.mem_append,List.mem_singleton] at hx;rcases hx with hx|hx
 ·(subst hx;assumption)
 ·(subst hx;assumption)
theorem uV (s:uJ):(eZ s)[0]? = some (s.dV):=rfl
theorem Fj (s:uJ) (x:AV):dJ (eZ s) 0 ([x]) 1=eZ { s with dV:=x }:=cB rfl
theorem wO (s:uJ):(eZ s)[1]? = some (s.gU):=(aH rfl rfl).trans (rfl)
theorem Hp (s:uJ) (x:AV):dJ (eZ s) 1 ([x]) 2=eZ { s with gU:=x }:=(aD rfl rfl rfl).trans (bF (eH rfl))
def Gq:uJ:=⟨(.v (.slice none 0 0)),(.v (.slice none 0 0))⟩
def Yy:List Value:=[.slice none 0 0]++([.slice none 0 0])
theorem Yz:Yy.map AV.v=eZ Gq:=by simp only[Yy,List.map_append,List.map_cons,List.map_nil,jG,jH];rfl
theorem C6 (st:St) (s:uJ):AG st (eZ s)=cD (cY st s.dV) fun x_latest=>cD (cY st s.gU) fun x_equiv=>some (eZ { s with dV:=x_latest,gU:=x_equiv }):=by
 simp only[eZ,tX,vQ,mR,cU]
theorem IJ (s:uJ):rd (eZ s) 0 2=eZ s:=iV (dB _)
theorem IK (s x:uJ):dJ (eZ s) 0 (eZ x) 2=eZ x:=eH (dB _)
structure kD where
 dN:fR
 fin:fR
def eT (s:kD):List AV:=bY s.dN++(bY s.fin)
@[simp] theorem cV (s:kD):(eT s).length=66:=by simp[eT]
theorem lC (s:kD):∀x∈eT s,Flat x:=by
 intro x hx;simp only[eT,List.mem_append,List.mem_singleton] at hx;rcases hx with hx|hx
 ·(exact dA _ _ hx)
 ·(exact dA _ _ hx)
theorem Df (s:kD):rd (eT s) 0 33=bY s.dN:=gG (bQ _)
theorem Dg (s:kD) (x:fR):dJ (eT s) 0 (bY x) 33=eT { s with dN:=x }:=cB (bQ _)
theorem tD (s:kD):(eT s)[0]? = some (.v (.int .u64 s.dN.aL)):=(eM (by rw[bQ];decide)).trans (jU _)
theorem uP (s:kD):rd (eT s) 1 32=aZ s.dN.root:=(pX (by rw[bQ];decide)).trans (uA _)
theorem Fk (s:kD):rd (eT s) 33 33=bY s.fin:=(aY rfl (bQ _)).trans (iV (bQ _))
theorem Fl (s:kD) (x:fR):dJ (eT s) 33 (bY x) 66=eT { s with fin:=x }:=(aD rfl rfl (bQ _)).trans (bF (eH (bQ _)))
theorem uD (s:kD):(eT s)[33]? = some (.v (.int .u64 s.fin.aL)):=(aH rfl (bQ _)).trans (jU _)
theorem wI (s:kD):rd (eT s) 34 32=aZ s.fin.root:=(aY rfl (bQ _)).trans (uA _)
def Ro:kD:=⟨iM,iM⟩
def Dh:List Value:=Ck++(Ck)
theorem Hq:Dh.map AV.v=eT Ro:=by simp only[Dh,List.map_append,List.map_cons,List.map_nil,jG,jH,Al];rfl
def EE:List Bool:=Sr++(Sr)
theorem Za (a b:kD):gY EE (eT a) (eT b):=(eP (sO _ _) (sO _ _))
theorem BY (a b:kD):eT a=eT b↔a=b:=by
 refine⟨fun h=>?_,fun h=>by rw[h]⟩
 cases a;cases b
 simp only[eT] at h;obtain⟨h0,h⟩:=List.append_inj h (by simp)
 have e0:=(mQ _ _).1 h0
 have e1:=(mQ _ _).1 h
 subst e0 e1;rfl
structure yK where
 early:AV
 bU:AV
def jP (s:yK):List AV:=[s.early]++([s.bU])
@[simp] theorem iC (s:yK):(jP s).length=2:=by simp[jP]
theorem Ms (s:yK) (h0:Flat s.early) (h1:Flat s.bU):∀x∈jP s,Flat x:=by
 intro x hx;simp only[jP,List.mem_append,List.mem_singleton] at hx;rcases hx with hx|hx
 ·(subst hx;assumption)
 ·(subst hx;assumption)
theorem uW (s:yK):(jP s)[0]? = some (s.early):=rfl
theorem Fm (s:yK) (x:AV):dJ (jP s) 0 ([x]) 1=jP { s with early:=x }:=cB rfl
theorem sG (s:yK):(jP s)[1]? = some (s.bU):=(aH rfl rfl).trans (rfl)
theorem Bc (s:yK) (x:AV):dJ (jP s) 1 ([x]) 2=jP { s with bU:=x }:=(aD rfl rfl rfl).trans (bF (eH rfl))
def Ao:yK:=⟨(.v (.slice none 0 0)),(.v (.slice none 0 0))⟩
def Up:List Value:=[.slice none 0 0]++([.slice none 0 0])
theorem EF:Up.map AV.v=jP Ao:=by simp only[Up,List.map_append,List.map_cons,List.map_nil,jG,jH];rfl
theorem VL (st:St) (s:yK):AG st (jP s)=cD (cY st s.early) fun x_early=>cD (cY st s.bU) fun x_orphans=>some (jP { s with early:=x_early,bU:=x_orphans }):=by
 simp only[jP,tX,vQ,mR,cU]
structure Fa where
 nodes:AV
def mI (s:Fa):List AV:=[s.nodes]
@[simp] theorem mM (s:Fa):(mI s).length=1:=by simp[mI]
theorem vW (s:Fa) (h0:Flat s.nodes):∀x∈mI s,Flat x:=by
 intro x hx;simp only[mI,List.mem_append,List.mem_singleton] at hx;(subst hx;assumption)
theorem wP (s:Fa):(mI s)[0]? = some (s.nodes):=rfl
theorem Hr (s:Fa) (x:AV):dJ (mI s) 0 ([x]) 1=mI { s with nodes:=x }:=eH rfl
def Kq:Fa:=⟨(.v (.slice none 0 0))⟩
def VM:List Value:=[.slice none 0 0]
theorem PT:VM.map AV.v=mI Kq:=by simp only[VM,List.map_append,List.map_cons,List.map_nil,jG,jH];rfl
theorem C7 (st:St) (s:Fa):AG st (mI s)=cD (cY st s.nodes) fun x_nodes=>some (mI { s with nodes:=x_nodes }):=by
 simp only[mI,tX,vQ,mR,cU]
structure aP where
 cFg:Config
 fV:uJ
 aG:kD
 dM:yK
 tree:Fa
 now:Int
 iD:cM
 tables:AV
def aB (s:aP):List AV:=bS s.cFg++(eZ s.fV++(eT s.aG++(jP s.dM++(mI s.tree++(rC s.now++(aZ s.iD++([s.tables])))))))
@[simp] theorem cF (s:aP):(aB s).length=150:=by simp[aB]
theorem Ry (s:aP) (h0:Flat s.cFg.jI) (h1:Flat s.fV.dV) (h2:Flat s.fV.gU) (h3:Flat s.dM.early) (h4:Flat s.dM.bU) (h5:Flat s.tree.nodes) (h6:Flat s.tables):∀x∈aB s,Flat x:=by
 intro x hx;simp only[aB,List.mem_append,List.mem_singleton] at hx;rcases hx with hx|hx|hx|hx|hx|hx|hx|hx
 ·(exact tR _ (by assumption) _ hx)
 ·(exact qE _ (by assumption) (by assumption) _ hx)
 ·(exact lC _ _ hx)
 ·(exact Ms _ (by assumption) (by assumption) _ hx)
 ·(exact vW _ (by assumption) _ hx)
 ·(exact eC _ _ hx)
 ·(exact dP _ _ hx)
 ·(subst hx;assumption)
theorem Tu (s:aP):rd (aB s) 0 45=bS s.cFg:=gG (bL _)
theorem Tv (s:aP) (x:Config):dJ (aB s) 0 (bS x) 45=aB { s with cFg:=x }:=cB (bL _)
theorem zP (s:aP):(aB s)[0]? = some (.v (.int .i64 s.cFg.mA.rK)):=(eM (by rw[bL];decide)).trans (wG _)
theorem zQ (s:aP):(aB s)[1]? = some (.v (.int .i64 s.cFg.mA.vX)):=(eM (by rw[bL];decide)).trans (wH _)
theorem xQ (s:aP):(aB s)[2]? = some (.v (.int .i64 s.cFg.mA.pR)):=(eM (by rw[bL];decide)).trans (uM _)
theorem xR (s:aP):(aB s)[3]? = some (.v (.int .i64 s.cFg.mA.qL)):=(eM (by rw[bL];decide)).trans (uN _)
theorem pY (s:aP):(aB s)[4]? = some (.v (.int .i64 s.cFg.mA.oC)):=(eM (by rw[bL];decide)).trans (uO _)
theorem pK (s:aP):(aB s)[5]? = some (.v (.int .u64 s.cFg.mA.qY)):=(eM (by rw[bL];decide)).trans (uC _)
theorem Hs (s:aP):(aB s)[6]? = some (.v (.int .u64 s.cFg.qK)):=(eM (by rw[bL];decide)).trans (Hl _)
theorem Jg (s:aP):rd (aB s) 8 4=gF s.cFg.Zz:=(pX (by rw[bL];decide)).trans (Jz _)
theorem tE (s:aP):rd (aB s) 12 32=aZ s.cFg.eB:=(pX (by rw[bL];decide)).trans (Bb _)
theorem qF (s:aP):(aB s)[44]? = some (s.cFg.jI):=(eM (by rw[bL];decide)).trans (yJ _)
theorem Jh (s:aP) (x:AV):dJ (aB s) 44 ([x]) 45=aB { s with cFg:={ s.cFg with jI:=x }}:=(tY (by rw[bL];decide)).trans (En (Ka _ x))
theorem Zb (s:aP):rd (aB s) 45 2=eZ s.fV:=(aY rfl (bL _)).trans (gG (dB _))
theorem Zc (s:aP) (x:uJ):dJ (aB s) 45 (eZ x) 47=aB { s with fV:=x }:=(aD rfl rfl (bL _)).trans (bF (cB (dB _)))
theorem oV (s:aP):(aB s)[45]? = some (s.fV.dV):=(aH rfl (bL _)).trans ((eM (by rw[dB];decide)).trans (uV _))
theorem Fv (s:aP) (x:AV):dJ (aB s) 45 ([x]) 46=aB { s with fV:={ s.fV with dV:=x }}:=(aD rfl rfl (bL _)).trans (bF ((tY (by rw[dB];decide)).trans (En (Fj _ x))))
theorem pQ (s:aP):(aB s)[46]? = some (s.fV.gU):=(aH rfl (bL _)).trans ((eM (by rw[dB];decide)).trans (wO _))
theorem Ht (s:aP) (x:AV):dJ (aB s) 46 ([x]) 47=aB { s with fV:={ s.fV with gU:=x }}:=(aD rfl rfl (bL _)).trans (bF ((tY (by rw[dB];decide)).trans (En (Hp _ x))))
theorem Pe (s:aP):rd (aB s) 47 66=eT s.aG:=(aY rfl (bL _)).trans ((aY rfl (dB _)).trans (gG (cV _)))
theorem Pf (s:aP) (x:kD):dJ (aB s) 47 (eT x) 113=aB { s with aG:=x }:=(aD rfl rfl (bL _)).trans (bF ((aD rfl rfl (dB _)).trans (bF (cB (cV _)))))
theorem Et (s:aP):rd (aB s) 47 33=bY s.aG.dN:=(aY rfl (bL _)).trans ((aY rfl (dB _)).trans ((pX (by rw[cV];decide)).trans (Df _)))
theorem Eu (s:aP) (x:fR):dJ (aB s) 47 (bY x) 80=aB { s with aG:={ s.aG with dN:=x }}:=(aD rfl rfl (bL _)).trans (bF ((aD rfl rfl (dB _)).trans (bF ((tY (by rw[cV];decide)).trans (En (Dg _ x))))))
theorem wJ (s:aP):(aB s)[47]? = some (.v (.int .u64 s.aG.dN.aL)):=(aH rfl (bL _)).trans ((aH rfl (dB _)).trans ((eM (by rw[cV];decide)).trans (tD _)))
theorem pZ (s:aP):rd (aB s) 48 32=aZ s.aG.dN.root:=(aY rfl (bL _)).trans ((aY rfl (dB _)).trans ((pX (by rw[cV];decide)).trans (uP _)))
theorem uQ (s:aP):rd (aB s) 80 33=bY s.aG.fin:=(aY rfl (bL _)).trans ((aY rfl (dB _)).trans ((pX (by rw[cV];decide)).trans (Fk _)))
theorem Fw (s:aP) (x:fR):dJ (aB s) 80 (bY x) 113=aB { s with aG:={ s.aG with fin:=x }}:=(aD rfl rfl (bL _)).trans (bF ((aD rfl rfl (dB _)).trans (bF ((tY (by rw[cV];decide)).trans (En (Fl _ x))))))
theorem wV (s:aP):(aB s)[80]? = some (.v (.int .u64 s.aG.fin.aL)):=(aH rfl (bL _)).trans ((aH rfl (dB _)).trans ((eM (by rw[cV];decide)).trans (uD _)))
theorem qS (s:aP):rd (aB s) 81 32=aZ s.aG.fin.root:=(aY rfl (bL _)).trans ((aY rfl (dB _)).trans ((pX (by rw[cV];decide)).trans (wI _)))
theorem oW (s:aP):(aB s)[113]? = some (s.dM.early):=(aH rfl (bL _)).trans ((aH rfl (dB _)).trans ((aH rfl (cV _)).trans ((eM (by rw[iC];decide)).trans (uW _))))
theorem Fx (s:aP) (x:AV):dJ (aB s) 113 ([x]) 114=aB { s with dM:={ s.dM with early:=x }}:=(aD rfl rfl (bL _)).trans (bF ((aD rfl rfl (dB _)).trans (bF ((aD rfl rfl (cV _)).trans (bF ((tY (by rw[iC];decide)).trans (En (Fm _ x))))))))
theorem nH (s:aP):(aB s)[114]? = some (s.dM.bU):=(aH rfl (bL _)).trans ((aH rfl (dB _)).trans ((aH rfl (cV _)).trans ((eM (by rw[iC];decide)).trans (sG _))))
theorem Di (s:aP) (x:AV):dJ (aB s) 114 ([x]) 115=aB { s with dM:={ s.dM with bU:=x }}:=(aD rfl rfl (bL _)).trans (bF ((aD rfl rfl (dB _)).trans (bF ((aD rfl rfl (cV _)).trans (bF ((tY (by rw[iC];decide)).trans (En (Bc _ x))))))))
theorem Kc (s:aP):rd (aB s) 115 1=mI s.tree:=(aY rfl (bL _)).trans ((aY rfl (dB _)).trans ((aY rfl (cV _)).trans ((aY rfl (iC _)).trans (gG (mM _)))))
theorem Bv (s:aP) (x:Fa):dJ (aB s) 115 (mI x) 116=aB { s with tree:=x }:=(aD rfl rfl (bL _)).trans (bF ((aD rfl rfl (dB _)).trans (bF ((aD rfl rfl (cV _)).trans (bF ((aD rfl rfl (iC _)).trans (bF (cB (mM _)))))))))
theorem qG (s:aP):(aB s)[115]? = some (s.tree.nodes):=(aH rfl (bL _)).trans ((aH rfl (dB _)).trans ((aH rfl (cV _)).trans ((aH rfl (iC _)).trans ((eM (by rw[mM];decide)).trans (wP _)))))
theorem Ji (s:aP) (x:AV):dJ (aB s) 115 ([x]) 116=aB { s with tree:={ s.tree with nodes:=x }}:=(aD rfl rfl (bL _)).trans (bF ((aD rfl rfl (dB _)).trans (bF ((aD rfl rfl (cV _)).trans (bF ((aD rfl rfl (iC _)).trans (bF ((tY (by rw[mM];decide)).trans (En (Hr _ x))))))))))
theorem Kd (s:aP):(aB s)[116]? = some (.v (.int .u64 s.now)):=(aH rfl (bL _)).trans ((aH rfl (dB _)).trans ((aH rfl (cV _)).trans ((aH rfl (iC _)).trans ((aH rfl (mM _)).trans (rfl)))))
theorem Pg (s:aP) (x:Int):dJ (aB s) 116 ([.v (.int .u64 x)]) 117=aB { s with now:=x }:=(aD rfl rfl (bL _)).trans (bF ((aD rfl rfl (dB _)).trans (bF ((aD rfl rfl (cV _)).trans (bF ((aD rfl rfl (iC _)).trans (bF ((aD rfl rfl (mM _)).trans (bF (cB (aW _)))))))))))
theorem Hu (s:aP):rd (aB s) 117 32=aZ s.iD:=(aY rfl (bL _)).trans ((aY rfl (dB _)).trans ((aY rfl (cV _)).trans ((aY rfl (iC _)).trans ((aY rfl (mM _)).trans ((aY rfl (aW _)).trans (gG (aO _)))))))
theorem Hv (s:aP) (x:cM):dJ (aB s) 117 (aZ x) 149=aB { s with iD:=x }:=(aD rfl rfl (bL _)).trans (bF ((aD rfl rfl (dB _)).trans (bF ((aD rfl rfl (cV _)).trans (bF ((aD rfl rfl (iC _)).trans (bF ((aD rfl rfl (mM _)).trans (bF ((aD rfl rfl (aW _)).trans (bF (cB (aO _)))))))))))))
theorem uX (s:aP):(aB s)[149]? = some (s.tables):=(aH rfl (bL _)).trans ((aH rfl (dB _)).trans ((aH rfl (cV _)).trans ((aH rfl (iC _)).trans ((aH rfl (mM _)).trans ((aH rfl (aW _)).trans ((aH rfl (aO _)).trans (rfl)))))))
theorem Tw (s:aP) (x:AV):dJ (aB s) 149 ([x]) 150=aB { s with tables:=x }:=(aD rfl rfl (bL _)).trans (bF ((aD rfl rfl (dB _)).trans (bF ((aD rfl rfl (cV _)).trans (bF ((aD rfl rfl (iC _)).trans (bF ((aD rfl rfl (mM _)).trans (bF ((aD rfl rfl (aW _)).trans (bF ((aD rfl rfl (aO _)).trans (bF (eH rfl))))))))))))))
def eF:aP:=⟨nA,Gq,Ro,Ao,Kq,0,dK,(.v (.slice none 0 0))⟩
def Zd:List Value:=Oy++(Yy++(Dh++(Up++(VM++([.int .u64 0]++(sW++([.slice none 0 0])))))))
theorem Ze:Zd.map AV.v=aB eF:=by simp only[Zd,List.map_append,List.map_cons,List.map_nil,jG,jH,Rh,Yz,Hq,EF,PT];rfl
theorem gI (st:St) (s:aP):AG st (aB s)=cD (cY st s.cFg.jI) fun x_config_bal=>cD (cY st s.fV.dV) fun x_votes_latest=>cD (cY st s.fV.gU) fun x_votes_equiv=>cD (cY st s.dM.early) fun x_queues_early=>cD (cY st s.dM.bU) fun x_queues_orphans=>cD (cY st s.tree.nodes) fun x_tree_nodes=>cD (cY st s.tables) fun x_tables=>some (aB { s with cFg:={ s.cFg with jI:=x_config_bal },fV:={ s.fV with dV:=x_votes_latest,gU:=x_votes_equiv },dM:={ s.dM with early:=x_queues_early,bU:=x_queues_orphans },tree:={ s.tree with nodes:=x_tree_nodes },tables:=x_tables }):=by
 simp only[aB,tX,Wn,C6,jD (lC _),VL,C7,jD (eC _),jD (dP _),vQ,mR,cU]
theorem IL (s:aP):rd (aB s) 0 150=aB s:=iV (cF _)
theorem IM (s x:aP):dJ (aB s) 0 (aB x) 150=aB x:=eH (cF _)
structure State where
 store:aP
 dQ:AV
 mV:AV
 cJ:Int
 yU:Bool
 last:Command
 overflow:Bool
 halted:Bool
def aI (s:State):List AV:=aB s.store++([s.dQ]++([s.mV]++(rC s.cJ++(uL s.yU++(eG s.last++(uL s.overflow++(uL s.halted)))))))
@[simp] theorem Lv (s:State):(aI s).length=252:=by simp[aI]
theorem KL (s:State) (h0:Flat s.store.cFg.jI) (h1:Flat s.store.fV.dV) (h2:Flat s.store.fV.gU) (h3:Flat s.store.dM.early) (h4:Flat s.store.dM.bU) (h5:Flat s.store.tree.nodes) (h6:Flat s.store.tables) (h7:Flat s.dQ) (h8:Flat s.mV):∀x∈aI s,Flat x:=by
 intro x hx;simp only[aI,List.mem_append,List.mem_singleton] at hx;rcases hx with hx|hx|hx|hx|hx|hx|hx|hx
 ·(exact Ry _ (by assumption) (by assumption) (by assumption) (by assumption) (by assumption) (by assumption) (by assumption) _ hx)
 ·(subst hx;assumption)
 ·(subst hx;assumption)
 ·(exact eC _ _ hx)
 ·(exact mJ _ _ hx)
 ·(exact kY _ _ hx)
 ·(exact mJ _ _ hx)
 ·(exact mJ _ _ hx)
theorem Zf (s:State):rd (aI s) 0 150=aB s.store:=gG (cF _)
theorem Zg (s:State) (x:aP):dJ (aI s) 0 (aB x) 150=aI { s with store:=x }:=cB (cF _)
theorem tH (s:State):(aI s)[4]? = some (.v (.int .i64 s.store.cFg.mA.oC)):=(eM (by rw[cF];decide)).trans (pY _)
theorem sP (s:State):(aI s)[5]? = some (.v (.int .u64 s.store.cFg.mA.qY)):=(eM (by rw[cF];decide)).trans (pK _)
theorem wK (s:State):rd (aI s) 12 32=aZ s.store.cFg.eB:=(pX (by rw[cF];decide)).trans (tE _)
theorem qH (s:State):(aI s)[44]? = some (s.store.cFg.jI):=(eM (by rw[cF];decide)).trans (qF _)
theorem pF (s:State):(aI s)[45]? = some (s.store.fV.dV):=(eM (by rw[cF];decide)).trans (oV _)
theorem pW (s:State):(aI s)[46]? = some (s.store.fV.gU):=(eM (by rw[cF];decide)).trans (pQ _)
theorem tI (s:State):rd (aI s) 48 32=aZ s.store.aG.dN.root:=(pX (by rw[cF];decide)).trans (pZ _)
theorem xS (s:State):rd (aI s) 80 33=bY s.store.aG.fin:=(pX (by rw[cF];decide)).trans (uQ _)
theorem uF (s:State):rd (aI s) 81 32=aZ s.store.aG.fin.root:=(pX (by rw[cF];decide)).trans (qS _)
theorem pG (s:State):(aI s)[113]? = some (s.store.dM.early):=(eM (by rw[cF];decide)).trans (oW _)
theorem oA (s:State):(aI s)[114]? = some (s.store.dM.bU):=(eM (by rw[cF];decide)).trans (nH _)
theorem Jj (s:State):rd (aI s) 115 1=mI s.store.tree:=(pX (by rw[cF];decide)).trans (Kc _)
theorem xD (s:State) (x:Fa):dJ (aI s) 115 (mI x) 116=aI { s with store:={ s.store with tree:=x }}:=(tY (by rw[cF];decide)).trans (En (Bv _ x))
theorem qI (s:State):(aI s)[115]? = some (s.store.tree.nodes):=(eM (by rw[cF];decide)).trans (qG _)
theorem Jk (s:State):(aI s)[116]? = some (.v (.int .u64 s.store.now)):=(eM (by rw[cF];decide)).trans (Kd _)
theorem Lw (s:State) (x:Int):dJ (aI s) 116 ([.v (.int .u64 x)]) 117=aI { s with store:={ s.store with now:=x }}:=(tY (by rw[cF];decide)).trans (En (Pg _ x))
theorem Hw (s:State):rd (aI s) 117 32=aZ s.store.iD:=(pX (by rw[cF];decide)).trans (Hu _)
theorem Hx (s:State) (x:cM):dJ (aI s) 117 (aZ x) 149=aI { s with store:={ s.store with iD:=x }}:=(tY (by rw[cF];decide)).trans (En (Hv _ x))
theorem tS (s:State):(aI s)[149]? = some (s.store.tables):=(eM (by rw[cF];decide)).trans (uX _)
theorem yM (s:State):(aI s)[150]? = some (s.dQ):=(aH rfl (cF _)).trans (rfl)
theorem Ph (s:State) (x:AV):dJ (aI s) 150 ([x]) 151=aI { s with dQ:=x }:=(aD rfl rfl (cF _)).trans (bF (cB rfl))
theorem Ai (s:State):(aI s)[151]? = some (s.mV):=(aH rfl (cF _)).trans ((aH rfl rfl).trans (rfl))
theorem Rp (s:State) (x:AV):dJ (aI s) 151 ([x]) 152=aI { s with mV:=x }:=(aD rfl rfl (cF _)).trans (bF ((aD rfl rfl rfl).trans (bF (cB rfl))))
theorem Pj (s:State):(aI s)[152]? = some (.v (.int .u64 s.cJ)):=(aH rfl (cF _)).trans ((aH rfl rfl).trans ((aH rfl rfl).trans (rfl)))
theorem Rq (s:State) (x:Int):dJ (aI s) 152 ([.v (.int .u64 x)]) 153=aI { s with cJ:=x }:=(aD rfl rfl (cF _)).trans (bF ((aD rfl rfl rfl).trans (bF ((aD rfl rfl rfl).trans (bF (cB (aW _)))))))
theorem Zh (s:State):(aI s)[153]? = some (.v (.bool s.yU)):=(aH rfl (cF _)).trans ((aH rfl rfl).trans ((aH rfl rfl).trans ((aH rfl (aW _)).trans (rfl))))
theorem BZ (s:State) (x:Bool):dJ (aI s) 153 ([.v (.bool x)]) 154=aI { s with yU:=x }:=(aD rfl rfl (cF _)).trans (bF ((aD rfl rfl rfl).trans (bF ((aD rfl rfl rfl).trans (bF ((aD rfl rfl (aW _)).trans (bF (cB (gQ _)))))))))
theorem CA (s:State):rd (aI s) 154 96=eG s.last:=(aY rfl (cF _)).trans ((aY rfl rfl).trans ((aY rfl rfl).trans ((aY rfl (aW _)).trans ((aY rfl (gQ _)).trans (gG (lY _))))))
theorem CB (s:State) (x:Command):dJ (aI s) 154 (eG x) 250=aI { s with last:=x }:=(aD rfl rfl (cF _)).trans (bF ((aD rfl rfl rfl).trans (bF ((aD rfl rfl rfl).trans (bF ((aD rfl rfl (aW _)).trans (bF ((aD rfl rfl (gQ _)).trans (bF (cB (lY _)))))))))))
theorem Lx (s:State):(aI s)[250]? = some (.v (.bool s.overflow)):=(aH rfl (cF _)).trans ((aH rfl rfl).trans ((aH rfl rfl).trans ((aH rfl (aW _)).trans ((aH rfl (gQ _)).trans ((aH rfl (lY _)).trans (rfl))))))
theorem Pk (s:State) (x:Bool):dJ (aI s) 250 ([.v (.bool x)]) 251=aI { s with overflow:=x }:=(aD rfl rfl (cF _)).trans (bF ((aD rfl rfl rfl).trans (bF ((aD rfl rfl rfl).trans (bF ((aD rfl rfl (aW _)).trans (bF ((aD rfl rfl (gQ _)).trans (bF ((aD rfl rfl (lY _)).trans (bF (cB (gQ _)))))))))))))
theorem Rr (s:State):(aI s)[251]? = some (.v (.bool s.halted)):=(aH rfl (cF _)).trans ((aH rfl rfl).trans ((aH rfl rfl).trans ((aH rfl (aW _)).trans ((aH rfl (gQ _)).trans ((aH rfl (lY _)).trans ((aH rfl (gQ _)).trans (rfl)))))))
theorem Tx (s:State) (x:Bool):dJ (aI s) 251 ([.v (.bool x)]) 252=aI { s with halted:=x }:=(aD rfl rfl (cF _)).trans (bF ((aD rfl rfl rfl).trans (bF ((aD rfl rfl rfl).trans (bF ((aD rfl rfl (aW _)).trans (bF ((aD rfl rfl (gQ _)).trans (bF ((aD rfl rfl (lY _)).trans (bF ((aD rfl rfl (gQ _)).trans (bF (eH (gQ _)))))))))))))))
def gP:State:=⟨eF,(.v (.slice none 0 0)),(.v (.slice none 0 0)),0,false,Yv,false,false⟩
def IN:List Value:=Zd++([.slice none 0 0]++([.slice none 0 0]++([.int .u64 0]++([.bool false]++(Ho++([.bool false]++([.bool false])))))))
theorem PU:IN.map AV.v=aI gP:=by simp only[IN,List.map_append,List.map_cons,List.map_nil,jG,jH,Ze,Lu];rfl
theorem vF (st:St) (s:State):AG st (aI s)=cD (cY st s.store.cFg.jI) fun x_store_config_bal=>cD (cY st s.store.fV.dV) fun x_store_votes_latest=>cD (cY st s.store.fV.gU) fun x_store_votes_equiv=>cD (cY st s.store.dM.early) fun x_store_queues_early=>cD (cY st s.store.dM.bU) fun x_store_queues_orphans=>cD (cY st s.store.tree.nodes) fun x_store_tree_nodes=>cD (cY st s.store.tables) fun x_store_tables=>cD (cY st s.dQ) fun x_requests=>cD (cY st s.mV) fun x_retries=>some (aI { s with store:={ s.store with cFg:={ s.store.cFg with jI:=x_store_config_bal },fV:={ s.store.fV with dV:=x_store_votes_latest,gU:=x_store_votes_equiv },dM:={ s.store.dM with early:=x_store_queues_early,bU:=x_store_queues_orphans },tree:={ s.store.tree with nodes:=x_store_tree_nodes },tables:=x_store_tables },dQ:=x_requests,mV:=x_retries }):=by
 simp only[aI,tX,gI,vQ,jD (eC _),jD (mJ _),jD (kY _),mR,cU]
theorem IP (s:State):rd (aI s) 0 252=aI s:=iV (Lv _)
theorem IQ (s x:State):dJ (aI s) 0 (aI x) 252=aI x:=eH (Lv _)
structure wM where
 kind:Int
 block:Block
 Fq:rQ
 oM:fW
 table:Table
 verdict:eD
 write:Int
 qB:Int
def kX (s:wM):List AV:=pE s.kind++(aU s.block++(gV s.Fq++(bV s.oM++(cA s.table++(bN s.verdict++(pE s.write++(pE s.qB)))))))
@[simp] theorem Zi (s:wM):(kX s).length=446:=by simp[kX]
theorem ZS (s:wM) (h0:Flat s.Fq.eU) (h1:Flat s.oM.first.eU) (h2:Flat s.oM.second.eU) (h3:Flat s.table.jI):∀x∈kX s,Flat x:=by
 intro x hx;simp only[kX,List.mem_append,List.mem_singleton] at hx;rcases hx with hx|hx|hx|hx|hx|hx|hx|hx
 ·(exact mF _ _ hx)
 ·(exact Ax _ _ hx)
 ·(exact Pt _ (by assumption) _ hx)
 ·(exact Gl _ (by assumption) (by assumption) _ hx)
 ·(exact Gm _ (by assumption) _ hx)
 ·(exact gE _ _ hx)
 ·(exact mF _ _ hx)
 ·(exact mF _ _ hx)
theorem IS (s:wM):(kX s)[0]? = some (.v (.int .i64 s.kind)):=rfl
theorem PV (s:wM) (x:Int):dJ (kX s) 0 ([.v (.int .i64 x)]) 1=kX { s with kind:=x }:=cB (bA _)
theorem IT (s:wM):rd (kX s) 1 238=aU s.block:=(aY rfl (bA _)).trans (gG (bM _))
theorem IU (s:wM) (x:Block):dJ (kX s) 1 (aU x) 239=kX { s with block:=x }:=(aD rfl rfl (bA _)).trans (bF (cB (bM _)))
theorem VN (s:wM):rd (kX s) 239 67=gV s.Fq:=(aY rfl (bA _)).trans ((aY rfl (bM _)).trans (gG (iB _)))
theorem VO (s:wM) (x:rQ):dJ (kX s) 239 (gV x) 306=kX { s with Fq:=x }:=(aD rfl rfl (bA _)).trans (bF ((aD rfl rfl (bM _)).trans (bF (cB (iB _)))))
theorem Ci (s:wM):(kX s)[305]? = some (s.Fq.eU):=(aH rfl (bA _)).trans ((aH rfl (bM _)).trans ((eM (by rw[iB];decide)).trans (Dw _)))
theorem IV (s:wM):rd (kX s) 306 70=bV s.oM:=(aY rfl (bA _)).trans ((aY rfl (bM _)).trans ((aY rfl (iB _)).trans (gG (fL _))))
theorem IW (s:wM) (x:fW):dJ (kX s) 306 (bV x) 376=kX { s with oM:=x }:=(aD rfl rfl (bA _)).trans (bF ((aD rfl rfl (bM _)).trans (bF ((aD rfl rfl (iB _)).trans (bF (cB (fL _)))))))
theorem rS (s:wM):(kX s)[340]? = some (s.oM.first.eU):=(aH rfl (bA _)).trans ((aH rfl (bM _)).trans ((aH rfl (iB _)).trans ((eM (by rw[fL];decide)).trans (oB _))))
theorem rI (s:wM):(kX s)[375]? = some (s.oM.second.eU):=(aH rfl (bA _)).trans ((aH rfl (bM _)).trans ((aH rfl (iB _)).trans ((eM (by rw[fL];decide)).trans (nI _))))
theorem IX (s:wM):rd (kX s) 376 34=cA s.table:=(aY rfl (bA _)).trans ((aY rfl (bM _)).trans ((aY rfl (iB _)).trans ((aY rfl (fL _)).trans (gG (fQ _)))))
theorem IY (s:wM) (x:Table):dJ (kX s) 376 (cA x) 410=kX { s with table:=x }:=(aD rfl rfl (bA _)).trans (bF ((aD rfl rfl (bM _)).trans (bF ((aD rfl rfl (iB _)).trans (bF ((aD rfl rfl (fL _)).trans (bF (cB (fQ _)))))))))
theorem Aj (s:wM):(kX s)[409]? = some (s.table.jI):=(aH rfl (bA _)).trans ((aH rfl (bM _)).trans ((aH rfl (iB _)).trans ((aH rfl (fL _)).trans ((eM (by rw[fQ];decide)).trans (Bh _)))))
theorem Zj (s:wM):rd (kX s) 410 34=bN s.verdict:=(aY rfl (bA _)).trans ((aY rfl (bM _)).trans ((aY rfl (iB _)).trans ((aY rfl (fL _)).trans ((aY rfl (fQ _)).trans (gG (lX _))))))
theorem Zk (s:wM) (x:eD):dJ (kX s) 410 (bN x) 444=kX { s with verdict:=x }:=(aD rfl rfl (bA _)).trans (bF ((aD rfl rfl (bM _)).trans (bF ((aD rfl rfl (iB _)).trans (bF ((aD rfl rfl (fL _)).trans (bF ((aD rfl rfl (fQ _)).trans (bF (cB (lX _)))))))))))
theorem CC (s:wM):(kX s)[444]? = some (.v (.int .i64 s.write)):=(aH rfl (bA _)).trans ((aH rfl (bM _)).trans ((aH rfl (iB _)).trans ((aH rfl (fL _)).trans ((aH rfl (fQ _)).trans ((aH rfl (lX _)).trans (rfl))))))
theorem IZ (s:wM) (x:Int):dJ (kX s) 444 ([.v (.int .i64 x)]) 445=kX { s with write:=x }:=(aD rfl rfl (bA _)).trans (bF ((aD rfl rfl (bM _)).trans (bF ((aD rfl rfl (iB _)).trans (bF ((aD rfl rfl (fL _)).trans (bF ((aD rfl rfl (fQ _)).trans (bF ((aD rfl rfl (lX _)).trans (bF (cB (bA _)))))))))))))
theorem JA (s:wM):(kX s)[445]? = some (.v (.int .i64 s.qB)):=(aH rfl (bA _)).trans ((aH rfl (bM _)).trans ((aH rfl (iB _)).trans ((aH rfl (fL _)).trans ((aH rfl (fQ _)).trans ((aH rfl (lX _)).trans ((aH rfl (bA _)).trans (rfl)))))))
theorem PW (s:wM) (x:Int):dJ (kX s) 445 ([.v (.int .i64 x)]) 446=kX { s with qB:=x }:=(aD rfl rfl (bA _)).trans (bF ((aD rfl rfl (bM _)).trans (bF ((aD rfl rfl (iB _)).trans (bF ((aD rfl rfl (fL _)).trans (bF ((aD rfl rfl (fQ _)).trans (bF ((aD rfl rfl (lX _)).trans (bF ((aD rfl rfl (bA _)).trans (bF (eH (bA _)))))))))))))))
def yX:wM:=⟨0,fB,Jb,Rj,iT,zC,0,0⟩
def aCF:List Value:=[.int .i64 0]++(Qx++(Z3++(De++(Yo++(zD++([.int .i64 0]++([.int .i64 0])))))))
theorem Z4:aCF.map AV.v=kX yX:=by simp only[aCF,List.map_append,List.map_cons,List.map_nil,jG,jH,Ok,VH,Hn,Yp,Lo];rfl
theorem VP (s:wM):rd (kX s) 0 446=kX s:=iV (Zi _)
theorem VQ (s x:wM):dJ (kX s) 0 (kX x) 446=kX x:=eH (Zi _)
def cK (l:List kF):List AV:=l.flatMap jK
@[simp] theorem VR (l:List (kF)):(cK l).length=l.length * 34:=by
 induction l with
 | nil=>rfl
 | cons x l ih=>simp only[cK,List.flatMap_cons,List.length_append,rG,List.length_cons] at *;omega
theorem mX (l:List (kF)):∀x∈cK l,Flat x:=by
 intro x hx;obtain⟨y,_,hy⟩:=List.mem_flatMap.1 hx
 exact VF y x hy
def dE (l:List rQ):List AV:=l.flatMap gV
@[simp] theorem aIj (l:List (rQ)):(dE l).length=l.length * 67:=by
 induction l with
 | nil=>rfl
 | cons x l ih=>simp only[dE,List.flatMap_cons,List.length_append,iB,List.length_cons] at *;omega
theorem sK (l:List (rQ)) (h:∀y∈l,Flat y.eU):∀x∈dE l,Flat x:=by
 intro x hx;obtain⟨y,hm,hy⟩:=List.mem_flatMap.1 hx
 exact Pt y (h y hm) x hy
def aT (l:List Table):List AV:=l.flatMap cA
@[simp] theorem aEw (l:List (Table)):(aT l).length=l.length * 34:=by
 induction l with
 | nil=>rfl
 | cons x l ih=>simp only[aT,List.flatMap_cons,List.length_append,fQ,List.length_cons] at *;omega
theorem lR (l:List (Table)) (h:∀y∈l,Flat y.jI):∀x∈aT l,Flat x:=by
 intro x hx;obtain⟨y,hm,hy⟩:=List.mem_flatMap.1 hx
 exact Gm y (h y hm) x hy
def aA (l:List Request):List AV:=l.flatMap bK
@[simp] theorem kZ (l:List (Request)):(aA l).length=l.length * 35:=by
 induction l with
 | nil=>rfl
 | cons x l ih=>simp only[aA,List.flatMap_cons,List.length_append,fY,List.length_cons] at *;omega
theorem jQ (l:List (Request)):∀x∈aA l,Flat x:=by
 intro x hx;obtain⟨y,_,hy⟩:=List.mem_flatMap.1 hx
 exact eI y x hy
end Go.Ab
end
