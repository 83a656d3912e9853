/-
  Part 7 of the proof: an evaluator of programs, its soundness, and what functions of this program compute.
-/
import Derived.Test.YtmcjkemalibacaaGreatK6
set_option linter.all false
set_option maxRecDepth 20000
set_option maxHeartbeats 40000000
section
namespace Go.Ab
open Classical
variable [Ext]
noncomputable def Qg (st:St) (cs:List AV):Option (List AV):=cC (cs.map (cA st))
theorem uD (st:St) (a b:List AV):Qg st (a++b)=cN (Qg st a) fun x=>cN (Qg st b) fun y=>some (x++y):=by
 unfold Qg;induction a with
 | nil=>simp[cC,cN];cases cC (b.map (cA st))<;>rfl
 | cons c a ih =>
   simp only[List.cons_append,List.map_cons];cases cA st c with
   | none=>rfl
   | some c' =>
     simp only[cC,ih];cases cC (a.map (cA st)) with
     | none=>rfl
     | some a' =>
       simp only[cN,Option.map_some];cases cC (b.map (cA st))<;>rfl
theorem wB (st:St) (x:AV):Qg st [x]=cN (cA st x) fun y=>some [y]:=by
 unfold Qg;simp only[List.map_cons,List.map_nil];cases cA st x<;>rfl
theorem jK {st:St} {cs:List AV} (h:∀c∈cs,Flat c):Qg st cs=some cs:=by
 unfold Qg;induction cs with
 | nil=>rfl
 | cons c cs ih =>
   simp only[List.map_cons,cO (h c (by simp)),cC,ih fun x hx=>h x (by simp[hx]),Option.map_some]
theorem bR (st:St) (cs:List AV):fK st (.agg cs)=cN (Qg st cs) fun x=>some (.agg x):=by
 unfold fK;by_cases h:Flat (.agg cs)
 ·rw[if_pos h];have h':∀c∈cs,Flat c:=by cases h with|agg _ h=>exact h
  rw[jK h'];rfl
 ·rw[if_neg h];simp only[Qg];cases cC (cs.map (cA st))<;>rfl
def ov {α:Type} (c:List α→List AV):Option (List α)→AV
 | none=>.v (.slice none 0 0)
 | some l=>.sl l.length (c l)
def ol {α:Type} (o:Option (List α)):List α:=o.getD []
theorem Vf {α:Type} (l:List α):ol (some l)=l:=rfl
theorem aDn {α:Type}:ol (none:Option (List α))=[]:=rfl
def gx {α:Type} (z:α) (l:List α) (i:Int):α:=l.getD i.toNat z
theorem WM {α:Type} {z:α} {l:List α} {i:Int} (h0:0≤i) (h1:i<l.length):∃h:i.toNat<l.length,gx z l i=l[i.toNat]:=by
 have h:i.toNat<l.length:=by omega
 exact⟨h,by simp[gx,h]⟩
theorem tY {α:Type} {z:α} {l:List α} {i:Int} (h0:0≤i) (h1:i<l.length):gx z l i∈l:=by
 obtain⟨h,e⟩:=WM (z:=z) h0 h1
 rw[e];exact List.getElem_mem h
def zF (l:List fS):List AV:=l.flatMap bY
@[simp] theorem Wq (l:List (fS)):(zF l).length=l.length * 33:=by
 induction l with
 | nil=>rfl
 | cons x l ih=>simp only[zF,List.flatMap_cons,List.length_append,bT,List.length_cons] at *;omega
def aH (l:List Block):List AV:=l.flatMap aU
@[simp] theorem Bc (l:List (Block)):(aH l).length=l.length * 238:=by
 induction l with
 | nil=>rfl
 | cons x l ih=>simp only[aH,List.flatMap_cons,List.length_append,bQ,List.length_cons] at *;omega
theorem pB (l:List (Block)):∀x∈aH l,Flat x:=by
 intro x hx;obtain⟨y,_,hy⟩:=List.mem_flatMap.1 hx
 exact Bj y x hy
def mX (l:List Bool):List AV:=l.flatMap tJ
@[simp] theorem aG3 (l:List (Bool)):(mX l).length=l.length * 1:=by
 induction l with
 | nil=>rfl
 | cons x l ih=>simp only[mX,List.flatMap_cons,List.length_append,gX,List.length_cons] at *;omega
theorem Sw (l:List (Bool)):∀x∈mX l,Flat x:=by
 intro x hx;obtain⟨y,_,hy⟩:=List.mem_flatMap.1 hx
 exact mO y x hy
structure sV where
 tag:Int
def jX (s:sV):List AV:=sF s.tag
@[simp] theorem gR (s:sV):(jX s).length=1:=by simp[jX]
theorem Et (s:sV):∀x∈jX s,Flat x:=by
 intro x hx;simp only[jX,List.mem_append,List.mem_singleton] at hx;(exact eD _ _ hx)
theorem QJ (s:sV):∀x∈jX s,dY x:=by
 intro x hx;simp only[jX,List.mem_append] at hx;exact Hl _ _ hx
theorem zW (s:sV):(jX s)[0]? = some (.v (.int .u64 s.tag)):=rfl
theorem Kl (s:sV) (x:Int):dK (jX s) 0 ([.v (.int .u64 x)]) 1=jX { s with tag:=x }:=eI (aW _)
def Vj:sV:=⟨0⟩
def Jj:List Value:=[.int .u64 0]
theorem Jk:Jj.map AV.v=jX Vj:=by simp only[Jj,List.map_append,List.map_cons,List.map_nil,jP,jQ];rfl
def IZ:List Bool:=[true]
theorem Ph (a b:sV):iC IZ (jX a) (jX b):=(show iC [true] [_] [_] from ⟨rfl,trivial⟩)
theorem To (a b:sV):jX a=jX b↔a=b:=by
 refine⟨fun h=>?_,fun h=>by rw[h]⟩
 cases a;cases b
 simp only[jX] at h;have e0:=(Dh _ _).1 h
 subst e0;rfl
structure fM where
 tagged:sV
 kind:Int
 dQ:cK
def bZ (s:fM):List AV:=jX s.tagged++(pV s.kind++(aX s.dQ))
@[simp] theorem mE (s:fM):(bZ s).length=34:=by simp[bZ]
theorem gN (s:fM):∀x∈bZ s,Flat x:=by
 intro x hx;simp only[bZ,List.mem_append,List.mem_singleton] at hx;rcases hx with hx|hx|hx
 ·(exact Et _ _ hx)
 ·(exact mK _ _ hx)
 ·(exact dJ _ _ hx)
theorem Pj (s:fM) (x:sV):dK (bZ s) 0 (jX x) 1=bZ { s with tagged:=x }:=cJ (gR _)
theorem Fg (s:fM):(bZ s)[0]? = some (.v (.int .u64 s.tagged.tag)):=(eM (by rw[gR];decide)).trans (zW _)
theorem Gh (s:fM) (x:Int):dK (bZ s) 0 ([.v (.int .u64 x)]) 1=bZ { s with tagged:={ s.tagged with tag:=x }}:=(uH (by rw[gR];decide)).trans (Fc (Kl _ x))
theorem Ru (s:fM):(bZ s)[1]? = some (.v (.int .i64 s.kind)):=(aG rfl (gR _)).trans (rfl)
theorem Ug (s:fM) (x:Int):dK (bZ s) 1 ([.v (.int .i64 x)]) 2=bZ { s with kind:=x }:=(aD rfl rfl (gR _)).trans (bI (cJ (bC _)))
theorem Pk (s:fM):rd (bZ s) 2 32=aX s.dQ:=(aZ rfl (gR _)).trans ((aZ rfl (bC _)).trans (iZ (aM _)))
theorem Pl (s:fM) (x:cK):dK (bZ s) 2 (aX x) 34=bZ { s with dQ:=x }:=(aD rfl rfl (gR _)).trans (bI ((aD rfl rfl (bC _)).trans (bI (eI (aM _)))))
def zO:fM:=⟨Vj,0,dL⟩
def Db:List Value:=Jj++([.int .i64 0]++(tE))
theorem Md:Db.map AV.v=bZ zO:=by simp only[Db,List.map_append,List.map_cons,List.map_nil,jP,jQ,Jk];rfl
def QK:List Bool:=IZ++([true]++(Ft))
theorem CH (a b:fM):iC QK (bZ a) (bZ b):=(eU (Ph _ _) (eU (show iC [true] [_] [_] from ⟨rfl,trivial⟩) (mQ _ _)))
theorem JA (a b:fM):bZ a=bZ b↔a=b:=by
 refine⟨fun h=>?_,fun h=>by rw[h]⟩
 cases a;cases b
 simp only[bZ] at h;obtain⟨h0,h⟩:=List.append_inj h (by simp)
 obtain⟨h1,h⟩:=List.append_inj h (by simp)
 have e0:=(To _ _).1 h0
 have e1:=(uI _ _).1 h1
 have e2:=(oP _ _).1 h
 subst e0 e1 e2;rfl
theorem Zh (s:fM):rd (bZ s) 0 34=bZ s:=iZ (mE _)
theorem Zi (s x:fM):dK (bZ s) 0 (bZ x) 34=bZ x:=eI (mE _)
structure lT where
 rR:Int
 wJ:Int
 pX:Int
 qT:Int
 oI:Int
 rI:Int
def fJ (s:lT):List AV:=pV s.rR++(pV s.wJ++(pV s.pX++(pV s.qT++(pV s.oI++(sF s.rI)))))
@[simp] theorem gA (s:lT):(fJ s).length=6:=by simp[fJ]
theorem uC (s:lT):∀x∈fJ s,Flat x:=by
 intro x hx;simp only[fJ,List.mem_append,List.mem_singleton] at hx;rcases hx with hx|hx|hx|hx|hx|hx
 ·(exact mK _ _ hx)
 ·(exact mK _ _ hx)
 ·(exact mK _ _ hx)
 ·(exact mK _ _ hx)
 ·(exact mK _ _ hx)
 ·(exact eD _ _ hx)
theorem NN (s:lT):∀x∈fJ s,dY x:=by
 intro x hx;simp only[fJ,List.mem_append] at hx;rcases hx with hx|hx|hx|hx|hx|hx
 ·exact Dg _ _ hx
 ·exact Dg _ _ hx
 ·exact Dg _ _ hx
 ·exact Dg _ _ hx
 ·exact Dg _ _ hx
 ·exact Hl _ _ hx
theorem Dl (s:lT):(fJ s)[0]? = some (.v (.int .i64 s.rR)):=rfl
theorem Uh (s:lT) (x:Int):dK (fJ s) 0 ([.v (.int .i64 x)]) 1=fJ { s with rR:=x }:=cJ (bC _)
theorem Dm (s:lT):(fJ s)[1]? = some (.v (.int .i64 s.wJ)):=(aG rfl (bC _)).trans (rfl)
theorem Ui (s:lT) (x:Int):dK (fJ s) 1 ([.v (.int .i64 x)]) 2=fJ { s with wJ:=x }:=(aD rfl rfl (bC _)).trans (bI (cJ (bC _)))
theorem Bk (s:lT):(fJ s)[2]? = some (.v (.int .i64 s.pX)):=(aG rfl (bC _)).trans ((aG rfl (bC _)).trans (rfl))
theorem Rv (s:lT) (x:Int):dK (fJ s) 2 ([.v (.int .i64 x)]) 3=fJ { s with pX:=x }:=(aD rfl rfl (bC _)).trans (bI ((aD rfl rfl (bC _)).trans (bI (cJ (bC _)))))
theorem Bl (s:lT):(fJ s)[3]? = some (.v (.int .i64 s.qT)):=(aG rfl (bC _)).trans ((aG rfl (bC _)).trans ((aG rfl (bC _)).trans (rfl)))
theorem Rx (s:lT) (x:Int):dK (fJ s) 3 ([.v (.int .i64 x)]) 4=fJ { s with qT:=x }:=(aD rfl rfl (bC _)).trans (bI ((aD rfl rfl (bC _)).trans (bI ((aD rfl rfl (bC _)).trans (bI (cJ (bC _)))))))
theorem Bm (s:lT):(fJ s)[4]? = some (.v (.int .i64 s.oI)):=(aG rfl (bC _)).trans ((aG rfl (bC _)).trans ((aG rfl (bC _)).trans ((aG rfl (bC _)).trans (rfl))))
theorem Ry (s:lT) (x:Int):dK (fJ s) 4 ([.v (.int .i64 x)]) 5=fJ { s with oI:=x }:=(aD rfl rfl (bC _)).trans (bI ((aD rfl rfl (bC _)).trans (bI ((aD rfl rfl (bC _)).trans (bI ((aD rfl rfl (bC _)).trans (bI (cJ (bC _)))))))))
theorem zX (s:lT):(fJ s)[5]? = some (.v (.int .u64 s.rI)):=(aG rfl (bC _)).trans ((aG rfl (bC _)).trans ((aG rfl (bC _)).trans ((aG rfl (bC _)).trans ((aG rfl (bC _)).trans (rfl)))))
theorem Pm (s:lT) (x:Int):dK (fJ s) 5 ([.v (.int .u64 x)]) 6=fJ { s with rI:=x }:=(aD rfl rfl (bC _)).trans (bI ((aD rfl rfl (bC _)).trans (bI ((aD rfl rfl (bC _)).trans (bI ((aD rfl rfl (bC _)).trans (bI ((aD rfl rfl (bC _)).trans (bI (eI (aW _)))))))))))
def JB:lT:=⟨0,0,0,0,0,0⟩
def Pn:List Value:=[.int .i64 0]++([.int .i64 0]++([.int .i64 0]++([.int .i64 0]++([.int .i64 0]++([.int .u64 0])))))
theorem Rz:Pn.map AV.v=fJ JB:=by simp only[Pn,List.map_append,List.map_cons,List.map_nil,jP,jQ];rfl
def ZR:List Bool:=[true]++([true]++([true]++([true]++([true]++([true])))))
theorem JC (a b:lT):iC ZR (fJ a) (fJ b):=(eU (show iC [true] [_] [_] from ⟨rfl,trivial⟩) (eU (show iC [true] [_] [_] from ⟨rfl,trivial⟩) (eU (show iC [true] [_] [_] from ⟨rfl,trivial⟩) (eU (show iC [true] [_] [_] from ⟨rfl,trivial⟩) (eU (show iC [true] [_] [_] from ⟨rfl,trivial⟩) (show iC [true] [_] [_] from ⟨rfl,trivial⟩))))))
theorem QL (a b:lT):fJ a=fJ b↔a=b:=by
 refine⟨fun h=>?_,fun h=>by rw[h]⟩
 cases a;cases b
 simp only[fJ] at h;obtain⟨h0,h⟩:=List.append_inj h (by simp)
 obtain⟨h1,h⟩:=List.append_inj h (by simp)
 obtain⟨h2,h⟩:=List.append_inj h (by simp)
 obtain⟨h3,h⟩:=List.append_inj h (by simp)
 obtain⟨h4,h⟩:=List.append_inj h (by simp)
 have e0:=(uI _ _).1 h0
 have e1:=(uI _ _).1 h1
 have e2:=(uI _ _).1 h2
 have e3:=(uI _ _).1 h3
 have e4:=(uI _ _).1 h4
 have e5:=(Dh _ _).1 h
 subst e0 e1 e2 e3 e4 e5;rfl
structure Config where
 mH:lT
 qS:Int
 Hf:Int
 AZ:qR
 eC:cK
 jN:AV
def bU (s:Config):List AV:=fJ s.mH++(sF s.qS++(sF s.Hf++(gH s.AZ++(aX s.eC++([s.jN])))))
@[simp] theorem bO (s:Config):(bU s).length=45:=by simp[bU]
theorem tV (s:Config) (h0:Flat s.jN):∀x∈bU s,Flat x:=by
 intro x hx;simp only[bU,List.mem_append,List.mem_singleton] at hx;rcases hx with hx|hx|hx|hx|hx|hx
 ·(exact uC _ _ hx)
 ·(exact eD _ _ hx)
 ·(exact eD _ _ hx)
 ·(exact iO _ _ hx)
 ·(exact dJ _ _ hx)
 ·(subst hx;assumption)
theorem CI (s:Config):rd (bU s) 0 6=fJ s.mH:=gI (gA _)
theorem CJ (s:Config) (x:lT):dK (bU s) 0 (fJ x) 6=bU { s with mH:=x }:=cJ (gA _)
theorem wT (s:Config):(bU s)[0]? = some (.v (.int .i64 s.mH.rR)):=(eM (by rw[gA];decide)).trans (Dl _)
theorem wU (s:Config):(bU s)[1]? = some (.v (.int .i64 s.mH.wJ)):=(eM (by rw[gA];decide)).trans (Dm _)
theorem uV (s:Config):(bU s)[2]? = some (.v (.int .i64 s.mH.pX)):=(eM (by rw[gA];decide)).trans (Bk _)
theorem uW (s:Config):(bU s)[3]? = some (.v (.int .i64 s.mH.qT)):=(eM (by rw[gA];decide)).trans (Bl _)
theorem uX (s:Config):(bU s)[4]? = some (.v (.int .i64 s.mH.oI)):=(eM (by rw[gA];decide)).trans (Bm _)
theorem uL (s:Config):(bU s)[5]? = some (.v (.int .u64 s.mH.rI)):=(eM (by rw[gA];decide)).trans (zX _)
theorem Hz (s:Config):(bU s)[6]? = some (.v (.int .u64 s.qS)):=(aG rfl (gA _)).trans (rfl)
theorem CK (s:Config) (x:Int):dK (bU s) 6 ([.v (.int .u64 x)]) 7=bU { s with qS:=x }:=(aD rfl rfl (gA _)).trans (bI (cJ (aW _)))
theorem Po (s:Config):(bU s)[7]? = some (.v (.int .u64 s.Hf)):=(aG rfl (gA _)).trans ((aG rfl (aW _)).trans (rfl))
theorem Sa (s:Config) (x:Int):dK (bU s) 7 ([.v (.int .u64 x)]) 8=bU { s with Hf:=x }:=(aD rfl rfl (gA _)).trans (bI ((aD rfl rfl (aW _)).trans (bI (cJ (aW _)))))
theorem Km (s:Config):rd (bU s) 8 4=gH s.AZ:=(aZ rfl (gA _)).trans ((aZ rfl (aW _)).trans ((aZ rfl (aW _)).trans (gI (dU _))))
theorem CL (s:Config) (x:qR):dK (bU s) 8 (gH x) 12=bU { s with AZ:=x }:=(aD rfl rfl (gA _)).trans (bI ((aD rfl rfl (aW _)).trans (bI ((aD rfl rfl (aW _)).trans (bI (cJ (dU _)))))))
theorem Bn (s:Config):rd (bU s) 12 32=aX s.eC:=(aZ rfl (gA _)).trans ((aZ rfl (aW _)).trans ((aZ rfl (aW _)).trans ((aZ rfl (dU _)).trans (gI (aM _)))))
theorem Pp (s:Config) (x:cK):dK (bU s) 12 (aX x) 44=bU { s with eC:=x }:=(aD rfl rfl (gA _)).trans (bI ((aD rfl rfl (aW _)).trans (bI ((aD rfl rfl (aW _)).trans (bI ((aD rfl rfl (dU _)).trans (bI (cJ (aM _)))))))))
theorem yZ (s:Config):(bU s)[44]? = some (s.jN):=(aG rfl (gA _)).trans ((aG rfl (aW _)).trans ((aG rfl (aW _)).trans ((aG rfl (dU _)).trans ((aG rfl (aM _)).trans (rfl)))))
theorem Kn (s:Config) (x:AV):dK (bU s) 44 ([x]) 45=bU { s with jN:=x }:=(aD rfl rfl (gA _)).trans (bI ((aD rfl rfl (aW _)).trans (bI ((aD rfl rfl (aW _)).trans (bI ((aD rfl rfl (dU _)).trans (bI ((aD rfl rfl (aM _)).trans (bI (eI rfl))))))))))
def nJ:Config:=⟨JB,0,0,FF,dL,(.v (.slice none 0 0))⟩
def Pq:List Value:=Pn++([.int .u64 0]++([.int .u64 0]++(Zb++(tE++([.slice none 0 0])))))
theorem Sb:Pq.map AV.v=bU nJ:=by simp only[Pq,List.map_append,List.map_cons,List.map_nil,jP,jQ,Rz];rfl
theorem Xj (st:St) (s:Config):Qg st (bU s)=cN (cA st s.jN) fun aAI=>some (bU { s with jN:=aAI }):=by
 simp only[bU,uD,jK (uC _),jK (eD _),jK (iO _),jK (dJ _),wB,mZ,cZ]
theorem CM (s:Config):rd (bU s) 0 45=bU s:=iZ (bO _)
theorem CN (s x:Config):dK (bU s) 0 (bU x) 45=bU x:=eI (bO _)
structure kS where
 has:Bool
 aK:Int
 root:cK
def jS (s:kS):List AV:=tJ s.has++(sF s.aK++(aX s.root))
@[simp] theorem rP (s:kS):(jS s).length=34:=by simp[jS]
theorem WN (s:kS):∀x∈jS s,Flat x:=by
 intro x hx;simp only[jS,List.mem_append,List.mem_singleton] at hx;rcases hx with hx|hx|hx
 ·(exact mO _ _ hx)
 ·(exact eD _ _ hx)
 ·(exact dJ _ _ hx)
theorem JD (s:kS):(jS s)[0]? = some (.v (.bool s.has)):=rfl
theorem QM (s:kS) (x:Bool):dK (jS s) 0 ([.v (.bool x)]) 1=jS { s with has:=x }:=cJ (gX _)
theorem Zj (s:kS):(jS s)[1]? = some (.v (.int .u64 s.aK)):=(aG rfl (gX _)).trans (rfl)
theorem CO (s:kS) (x:Int):dK (jS s) 1 ([.v (.int .u64 x)]) 2=jS { s with aK:=x }:=(aD rfl rfl (gX _)).trans (bI (cJ (aW _)))
theorem JE (s:kS):rd (jS s) 2 32=aX s.root:=(aZ rfl (gX _)).trans ((aZ rfl (aW _)).trans (iZ (aM _)))
theorem JF (s:kS) (x:cK):dK (jS s) 2 (aX x) 34=jS { s with root:=x }:=(aD rfl rfl (gX _)).trans (bI ((aD rfl rfl (aW _)).trans (bI (eI (aM _)))))
def sD:kS:=⟨false,0,dL⟩
def ZS:List Value:=[.bool false]++([.int .u64 0]++(tE))
theorem ZT:ZS.map AV.v=jS sD:=by simp only[ZS,List.map_append,List.map_cons,List.map_nil,jP,jQ];rfl
def aFh:List Bool:=[false]++([true]++(Ft))
theorem WO (a b:kS):iC aFh (jS a) (jS b):=(eU (show iC [false] [_] [_] from trivial) (eU (show iC [true] [_] [_] from ⟨rfl,trivial⟩) (mQ _ _)))
theorem H0 (a b:kS):jS a=jS b↔a=b:=by
 refine⟨fun h=>?_,fun h=>by rw[h]⟩
 cases a;cases b
 simp only[jS] at h;obtain⟨h0,h⟩:=List.append_inj h (by simp)
 obtain⟨h1,h⟩:=List.append_inj h (by simp)
 have e0:=(FE _ _).1 h0
 have e1:=(Dh _ _).1 h1
 have e2:=(oP _ _).1 h
 subst e0 e1 e2;rfl
theorem QN (s:kS):rd (jS s) 0 34=jS s:=iZ (rP _)
theorem QO (s x:kS):dK (jS s) 0 (jS x) 34=jS x:=eI (rP _)
structure rX where
 slot:Int
 root:cK
 target:fS
 eY:AV
def iB (s:rX):List AV:=sF s.slot++(aX s.root++(bY s.target++([s.eY])))
@[simp] theorem iG (s:rX):(iB s).length=67:=by simp[iB]
theorem Qm (s:rX) (h0:Flat s.eY):∀x∈iB s,Flat x:=by
 intro x hx;simp only[iB,List.mem_append,List.mem_singleton] at hx;rcases hx with hx|hx|hx|hx
 ·(exact eD _ _ hx)
 ·(exact dJ _ _ hx)
 ·(exact dC _ _ hx)
 ·(subst hx;assumption)
theorem JG (s:rX):(iB s)[0]? = some (.v (.int .u64 s.slot)):=rfl
theorem QP (s:rX) (x:Int):dK (iB s) 0 ([.v (.int .u64 x)]) 1=iB { s with slot:=x }:=cJ (aW _)
theorem QQ (s:rX):rd (iB s) 1 32=aX s.root:=(aZ rfl (aW _)).trans (gI (aM _))
theorem QR (s:rX) (x:cK):dK (iB s) 1 (aX x) 33=iB { s with root:=x }:=(aD rfl rfl (aW _)).trans (bI (cJ (aM _)))
theorem CP (s:rX):rd (iB s) 33 33=bY s.target:=(aZ rfl (aW _)).trans ((aZ rfl (aM _)).trans (gI (bT _)))
theorem CQ (s:rX) (x:fS):dK (iB s) 33 (bY x) 66=iB { s with target:=x }:=(aD rfl rfl (aW _)).trans (bI ((aD rfl rfl (aM _)).trans (bI (cJ (bT _)))))
theorem Ia (s:rX):(iB s)[33]? = some (.v (.int .u64 s.target.aK)):=(aG rfl (aW _)).trans ((aG rfl (aM _)).trans ((eM (by rw[bT];decide)).trans (jY _)))
theorem Js (s:rX) (x:Int):dK (iB s) 33 ([.v (.int .u64 x)]) 34=iB { s with target:={ s.target with aK:=x }}:=(aD rfl rfl (aW _)).trans (bI ((aD rfl rfl (aM _)).trans (bI ((uH (by rw[bT];decide)).trans (Fc (Cc _ x))))))
theorem Me (s:rX):rd (iB s) 34 32=aX s.target.root:=(aZ rfl (aW _)).trans ((aZ rfl (aM _)).trans ((qE (by rw[bT];decide)).trans (uJ _)))
theorem Mf (s:rX) (x:cK):dK (iB s) 34 (aX x) 66=iB { s with target:={ s.target with root:=x }}:=(aD rfl rfl (aW _)).trans (bI ((aD rfl rfl (aM _)).trans (bI ((uH (by rw[bT];decide)).trans (Fc (Fe _ x))))))
theorem Ej (s:rX):(iB s)[66]? = some (s.eY):=(aG rfl (aW _)).trans ((aG rfl (aM _)).trans ((aG rfl (bT _)).trans (rfl)))
theorem QS (s:rX) (x:AV):dK (iB s) 66 ([x]) 67=iB { s with eY:=x }:=(aD rfl rfl (aW _)).trans (bI ((aD rfl rfl (aM _)).trans (bI ((aD rfl rfl (bT _)).trans (bI (eI rfl))))))
def Jo:rX:=⟨0,dL,iA,(.v (.slice none 0 0))⟩
def aAJ:List Value:=[.int .u64 0]++(tE++(Cr++([.slice none 0 0])))
theorem WQ:aAJ.map AV.v=iB Jo:=by simp only[aAJ,List.map_append,List.map_cons,List.map_nil,jP,jQ,Ax];rfl
theorem lZ (st:St) (s:rX):Qg st (iB s)=cN (cA st s.eY) fun WR=>some (iB { s with eY:=WR }):=by
 simp only[iB,uD,jK (eD _),jK (dJ _),jK (dC _),wB,mZ,cZ]
theorem WS (s:rX):rd (iB s) 0 67=iB s:=iZ (iG _)
theorem WU (s x:rX):dK (iB s) 0 (iB x) 67=iB x:=eI (iG _)
structure Claim where
 source:Int
 target:Int
 root:cK
 eY:AV
def gV (s:Claim):List AV:=sF s.source++(sF s.target++(aX s.root++([s.eY])))
@[simp] theorem iP (s:Claim):(gV s).length=35:=by simp[gV]
theorem Gy (s:Claim) (h0:Flat s.eY):∀x∈gV s,Flat x:=by
 intro x hx;simp only[gV,List.mem_append,List.mem_singleton] at hx;rcases hx with hx|hx|hx|hx
 ·(exact eD _ _ hx)
 ·(exact eD _ _ hx)
 ·(exact dJ _ _ hx)
 ·(subst hx;assumption)
theorem vV (s:Claim):(gV s)[0]? = some (.v (.int .u64 s.source)):=rfl
theorem Fv (s:Claim) (x:Int):dK (gV s) 0 ([.v (.int .u64 x)]) 1=gV { s with source:=x }:=cJ (aW _)
theorem vW (s:Claim):(gV s)[1]? = some (.v (.int .u64 s.target)):=(aG rfl (aW _)).trans (rfl)
theorem Fw (s:Claim) (x:Int):dK (gV s) 1 ([.v (.int .u64 x)]) 2=gV { s with target:=x }:=(aD rfl rfl (aW _)).trans (bI (cJ (aW _)))
theorem CR (s:Claim):rd (gV s) 2 32=aX s.root:=(aZ rfl (aW _)).trans ((aZ rfl (aW _)).trans (gI (aM _)))
theorem Ko (s:Claim) (x:cK):dK (gV s) 2 (aX x) 34=gV { s with root:=x }:=(aD rfl rfl (aW _)).trans (bI ((aD rfl rfl (aW _)).trans (bI (cJ (aM _)))))
theorem tX (s:Claim):(gV s)[34]? = some (s.eY):=(aG rfl (aW _)).trans ((aG rfl (aW _)).trans ((aG rfl (aM _)).trans (rfl)))
theorem CS (s:Claim) (x:AV):dK (gV s) 34 ([x]) 35=gV { s with eY:=x }:=(aD rfl rfl (aW _)).trans (bI ((aD rfl rfl (aW _)).trans (bI ((aD rfl rfl (aM _)).trans (bI (eI rfl))))))
def JH:Claim:=⟨0,0,dL,(.v (.slice none 0 0))⟩
def Sc:List Value:=[.int .u64 0]++([.int .u64 0]++(tE++([.slice none 0 0])))
theorem Zk:Sc.map AV.v=gV JH:=by simp only[Sc,List.map_append,List.map_cons,List.map_nil,jP,jQ];rfl
theorem vN (st:St) (s:Claim):Qg st (gV s)=cN (cA st s.eY) fun WR=>some (gV { s with eY:=WR }):=by
 simp only[gV,uD,jK (eD _),jK (dJ _),wB,mZ,cZ]
structure fZ where
 first:Claim
 second:Claim
def cB (s:fZ):List AV:=gV s.first++(gV s.second)
@[simp] theorem fR (s:fZ):(cB s).length=70:=by simp[cB]
theorem Gz (s:fZ) (h0:Flat s.first.eY) (h1:Flat s.second.eY):∀x∈cB s,Flat x:=by
 intro x hx;simp only[cB,List.mem_append,List.mem_singleton] at hx;rcases hx with hx|hx
 ·(exact Gy _ (by assumption) _ hx)
 ·(exact Gy _ (by assumption) _ hx)
theorem Ps (s:fZ):rd (cB s) 0 35=gV s.first:=gI (iP _)
theorem Pt (s:fZ) (x:Claim):dK (cB s) 0 (gV x) 35=cB { s with first:=x }:=cJ (iP _)
theorem Aj (s:fZ):(cB s)[0]? = some (.v (.int .u64 s.first.source)):=(eM (by rw[iP];decide)).trans (vV _)
theorem Ak (s:fZ):(cB s)[1]? = some (.v (.int .u64 s.first.target)):=(eM (by rw[iP];decide)).trans (vW _)
theorem oH (s:fZ):(cB s)[34]? = some (s.first.eY):=(eM (by rw[iP];decide)).trans (tX _)
theorem Mg (s:fZ):rd (cB s) 35 35=gV s.second:=(aZ rfl (iP _)).trans (iZ (iP _))
theorem Mh (s:fZ) (x:Claim):dK (cB s) 35 (gV x) 70=cB { s with second:=x }:=(aD rfl rfl (iP _)).trans (bI (eI (iP _)))
theorem zY (s:fZ):(cB s)[35]? = some (.v (.int .u64 s.second.source)):=(aG rfl (iP _)).trans (vV _)
theorem Al (s:fZ) (x:Int):dK (cB s) 35 ([.v (.int .u64 x)]) 36=cB { s with second:={ s.second with source:=x }}:=(aD rfl rfl (iP _)).trans (bI (Fv _ x))
theorem zZ (s:fZ):(cB s)[36]? = some (.v (.int .u64 s.second.target)):=(aG rfl (iP _)).trans (vW _)
theorem Am (s:fZ) (x:Int):dK (cB s) 36 ([.v (.int .u64 x)]) 37=cB { s with second:={ s.second with target:=x }}:=(aD rfl rfl (iP _)).trans (bI (Fw _ x))
theorem Dn (s:fZ) (x:cK):dK (cB s) 37 (aX x) 69=cB { s with second:={ s.second with root:=x }}:=(aD rfl rfl (iP _)).trans (bI (Ko _ x))
theorem nY (s:fZ):(cB s)[69]? = some (s.second.eY):=(aG rfl (iP _)).trans (tX _)
def Sd:fZ:=⟨JH,JH⟩
def Dp:List Value:=Sc++(Sc)
theorem Ib:Dp.map AV.v=cB Sd:=by simp only[Dp,List.map_append,List.map_cons,List.map_nil,jP,jQ,Zk];rfl
theorem rL (st:St) (s:fZ):Qg st (cB s)=cN (cA st s.first.eY) fun x_first_vals=>cN (cA st s.second.eY) fun x_second_vals=>some (cB { s with first:={ s.first with eY:=x_first_vals },second:={ s.second with eY:=x_second_vals }}):=by
 simp only[cB,uD,vN,mZ,cZ]
theorem Uj (s:fZ):rd (cB s) 0 70=cB s:=iZ (fR _)
theorem Uk (s x:fZ):dK (cB s) 0 (cB x) 70=cB x:=eI (fR _)
structure Table where
 ck:fS
 jN:AV
def cI (s:Table):List AV:=bY s.ck++([s.jN])
@[simp] theorem fV (s:Table):(cI s).length=34:=by simp[cI]
theorem Ha (s:Table) (h0:Flat s.jN):∀x∈cI s,Flat x:=by
 intro x hx;simp only[cI,List.mem_append,List.mem_singleton] at hx;rcases hx with hx|hx
 ·(exact dC _ _ hx)
 ·(subst hx;assumption)
theorem QT (s:Table):rd (cI s) 0 33=bY s.ck:=gI (bT _)
theorem QU (s:Table) (x:fS):dK (cI s) 0 (bY x) 33=cI { s with ck:=x }:=cJ (bT _)
theorem Mi (s:Table):(cI s)[0]? = some (.v (.int .u64 s.ck.aK)):=(eM (by rw[bT];decide)).trans (jY _)
theorem Se (s:Table):rd (cI s) 1 32=aX s.ck.root:=(qE (by rw[bT];decide)).trans (uJ _)
theorem Bt (s:Table):(cI s)[33]? = some (s.jN):=(aG rfl (bT _)).trans (rfl)
theorem JI (s:Table) (x:AV):dK (cI s) 33 ([x]) 34=cI { s with jN:=x }:=(aD rfl rfl (bT _)).trans (bI (eI rfl))
def iW:Table:=⟨iA,(.v (.slice none 0 0))⟩
def Zl:List Value:=Cr++([.slice none 0 0])
theorem Zm:Zl.map AV.v=cI iW:=by simp only[Zl,List.map_append,List.map_cons,List.map_nil,jP,jQ,Ax];rfl
theorem tD (st:St) (s:Table):Qg st (cI s)=cN (cA st s.jN) fun aAI=>some (cI { s with jN:=aAI }):=by
 simp only[cI,uD,jK (dC _),wB,mZ,cZ]
theorem JJ (s:Table):rd (cI s) 0 34=cI s:=iZ (fV _)
theorem JK (s x:Table):dK (cI s) 0 (cI x) 34=cI x:=eI (fV _)
structure Request where
 tagged:sV
 block:cK
 tries:Int
 due:Int
def bL (s:Request):List AV:=jX s.tagged++(aX s.block++(pV s.tries++(sF s.due)))
@[simp] theorem fO (s:Request):(bL s).length=35:=by simp[bL]
theorem fQ (s:Request):∀x∈bL s,Flat x:=by
 intro x hx;simp only[bL,List.mem_append,List.mem_singleton] at hx;rcases hx with hx|hx|hx|hx
 ·(exact Et _ _ hx)
 ·(exact dJ _ _ hx)
 ·(exact mK _ _ hx)
 ·(exact eD _ _ hx)
theorem HB (s:Request):∀x∈bL s,dY x:=by
 intro x hx;simp only[bL,List.mem_append] at hx;rcases hx with hx|hx|hx|hx
 ·exact QJ _ _ hx
 ·exact yO _ _ hx
 ·exact Dg _ _ hx
 ·exact Hl _ _ hx
theorem Pu (s:Request):rd (bL s) 0 1=jX s.tagged:=gI (gR _)
theorem Pv (s:Request) (x:sV):dK (bL s) 0 (jX x) 1=bL { s with tagged:=x }:=cJ (gR _)
theorem Fh (s:Request):(bL s)[0]? = some (.v (.int .u64 s.tagged.tag)):=(eM (by rw[gR];decide)).trans (zW _)
theorem Sf (s:Request):rd (bL s) 1 32=aX s.block:=(aZ rfl (gR _)).trans (gI (aM _))
theorem Sg (s:Request) (x:cK):dK (bL s) 1 (aX x) 33=bL { s with block:=x }:=(aD rfl rfl (gR _)).trans (bI (cJ (aM _)))
theorem Pw (s:Request):(bL s)[33]? = some (.v (.int .i64 s.tries)):=(aG rfl (gR _)).trans ((aG rfl (aM _)).trans (rfl))
theorem Sh (s:Request) (x:Int):dK (bL s) 33 ([.v (.int .i64 x)]) 34=bL { s with tries:=x }:=(aD rfl rfl (gR _)).trans (bI ((aD rfl rfl (aM _)).trans (bI (cJ (bC _)))))
theorem Ul (s:Request):(bL s)[34]? = some (.v (.int .u64 s.due)):=(aG rfl (gR _)).trans ((aG rfl (aM _)).trans ((aG rfl (bC _)).trans (rfl)))
theorem Zn (s:Request) (x:Int):dK (bL s) 34 ([.v (.int .u64 x)]) 35=bL { s with due:=x }:=(aD rfl rfl (gR _)).trans (bI ((aD rfl rfl (aM _)).trans (bI ((aD rfl rfl (bC _)).trans (bI (eI (aW _)))))))
def bN:Request:=⟨Vj,dL,0,0⟩
def wP:List Value:=Jj++(tE++([.int .i64 0]++([.int .u64 0])))
theorem Zo:wP.map AV.v=bL bN:=by simp only[wP,List.map_append,List.map_cons,List.map_nil,jP,jQ,Jk];rfl
def QV:List Bool:=IZ++(Ft++([true]++([true])))
theorem CT (a b:Request):iC QV (bL a) (bL b):=(eU (Ph _ _) (eU (mQ _ _) (eU (show iC [true] [_] [_] from ⟨rfl,trivial⟩) (show iC [true] [_] [_] from ⟨rfl,trivial⟩))))
theorem JL (a b:Request):bL a=bL b↔a=b:=by
 refine⟨fun h=>?_,fun h=>by rw[h]⟩
 cases a;cases b
 simp only[bL] at h;obtain⟨h0,h⟩:=List.append_inj h (by simp)
 obtain⟨h1,h⟩:=List.append_inj h (by simp)
 obtain⟨h2,h⟩:=List.append_inj h (by simp)
 have e0:=(To _ _).1 h0
 have e1:=(oP _ _).1 h1
 have e2:=(uI _ _).1 h2
 have e3:=(Dh _ _).1 h
 subst e0 e1 e2 e3;rfl
theorem Zp (s:Request):rd (bL s) 0 35=bL s:=iZ (fO _)
theorem Zq (s x:Request):dK (bL s) 0 (bL x) 35=bL x:=eI (fO _)
structure Command where
 head:cK
 safe:cK
 fin:cK
def eA (s:Command):List AV:=aX s.head++(aX s.safe++(aX s.fin))
@[simp] theorem mF (s:Command):(eA s).length=96:=by simp[eA]
theorem lD (s:Command):∀x∈eA s,Flat x:=by
 intro x hx;simp only[eA,List.mem_append,List.mem_singleton] at hx;rcases hx with hx|hx|hx
 ·(exact dJ _ _ hx)
 ·(exact dJ _ _ hx)
 ·(exact dJ _ _ hx)
theorem HD (s:Command):∀x∈eA s,dY x:=by
 intro x hx;simp only[eA,List.mem_append] at hx;rcases hx with hx|hx|hx
 ·exact yO _ _ hx
 ·exact yO _ _ hx
 ·exact yO _ _ hx
theorem Um (s:Command) (x:cK):dK (eA s) 0 (aX x) 32=eA { s with head:=x }:=cJ (aM _)
theorem Un (s:Command) (x:cK):dK (eA s) 32 (aX x) 64=eA { s with safe:=x }:=(aD rfl rfl (aM _)).trans (bI (cJ (aM _)))
theorem Zr (s:Command) (x:cK):dK (eA s) 64 (aX x) 96=eA { s with fin:=x }:=(aD rfl rfl (aM _)).trans (bI ((aD rfl rfl (aM _)).trans (bI (eI (aM _)))))
def Zs:Command:=⟨dL,dL,dL⟩
def Ic:List Value:=tE++(tE++(tE))
theorem Mj:Ic.map AV.v=eA Zs:=by simp only[Ic,List.map_append,List.map_cons,List.map_nil,jP,jQ];rfl
def QW:List Bool:=Ft++(Ft++(Ft))
theorem CU (a b:Command):iC QW (eA a) (eA b):=(eU (mQ _ _) (eU (mQ _ _) (mQ _ _)))
theorem JM (a b:Command):eA a=eA b↔a=b:=by
 refine⟨fun h=>?_,fun h=>by rw[h]⟩
 cases a;cases b
 simp only[eA] at h;obtain⟨h0,h⟩:=List.append_inj h (by simp)
 obtain⟨h1,h⟩:=List.append_inj h (by simp)
 have e0:=(oP _ _).1 h0
 have e1:=(oP _ _).1 h1
 have e2:=(oP _ _).1 h
 subst e0 e1 e2;rfl
theorem Zt (s:Command):rd (eA s) 0 96=eA s:=iZ (mF _)
theorem Zu (s x:Command):dK (eA s) 0 (eA x) 96=eA x:=eI (mF _)
structure uU where
 dQ:AV
 gZ:AV
def eX (s:uU):List AV:=[s.dQ]++([s.gZ])
@[simp] theorem dD (s:uU):(eX s).length=2:=by simp[eX]
theorem qL (s:uU) (h0:Flat s.dQ) (h1:Flat s.gZ):∀x∈eX s,Flat x:=by
 intro x hx;simp only[eX,List.mem_append,List.mem_singleton] at hx;rcases hx with hx|hx
 ·(subst hx;assumption)
 ·(subst hx;assumption)
theorem vE (s:uU):(eX s)[0]? = some (s.dQ):=rfl
theorem Fx (s:uU) (x:AV):dK (eX s) 0 ([x]) 1=eX { s with dQ:=x }:=cJ rfl
theorem xB (s:uU):(eX s)[1]? = some (s.gZ):=(aG rfl rfl).trans (rfl)
theorem Ie (s:uU) (x:AV):dK (eX s) 1 ([x]) 2=eX { s with gZ:=x }:=(aD rfl rfl rfl).trans (bI (eI rfl))
def Hd:uU:=⟨(.v (.slice none 0 0)),(.v (.slice none 0 0))⟩
def Zv:List Value:=[.slice none 0 0]++([.slice none 0 0])
theorem Zw:Zv.map AV.v=eX Hd:=by simp only[Zv,List.map_append,List.map_cons,List.map_nil,jP,jQ];rfl
theorem H2 (st:St) (s:uU):Qg st (eX s)=cN (cA st s.dQ) fun x_latest=>cN (cA st s.gZ) fun x_equiv=>some (eX { s with dQ:=x_latest,gZ:=x_equiv }):=by
 simp only[eX,uD,wB,mZ,cZ]
theorem JN (s:uU):rd (eX s) 0 2=eX s:=iZ (dD _)
theorem JO (s x:uU):dK (eX s) 0 (eX x) 2=eX x:=eI (dD _)
structure jZ where
 hU:fS
 fin:fS
def eE (s:jZ):List AV:=bY s.hU++(bY s.fin)
@[simp] theorem dA (s:jZ):(eE s).length=66:=by simp[eE]
theorem lG (s:jZ):∀x∈eE s,Flat x:=by
 intro x hx;simp only[eE,List.mem_append,List.mem_singleton] at hx;rcases hx with hx|hx
 ·(exact dC _ _ hx)
 ·(exact dC _ _ hx)
theorem BE (s:jZ):∀x∈eE s,dY x:=by
 intro x hx;simp only[eE,List.mem_append] at hx;rcases hx with hx|hx
 ·exact FG _ _ hx
 ·exact FG _ _ hx
theorem Dq (s:jZ):rd (eE s) 0 33=bY s.hU:=gI (bT _)
theorem Dr (s:jZ) (x:fS):dK (eE s) 0 (bY x) 33=eE { s with hU:=x }:=cJ (bT _)
theorem tK (s:jZ):(eE s)[0]? = some (.v (.int .u64 s.hU.aK)):=(eM (by rw[bT];decide)).trans (jY _)
theorem uY (s:jZ):rd (eE s) 1 32=aX s.hU.root:=(qE (by rw[bT];decide)).trans (uJ _)
theorem Fy (s:jZ):rd (eE s) 33 33=bY s.fin:=(aZ rfl (bT _)).trans (iZ (bT _))
theorem Fz (s:jZ) (x:fS):dK (eE s) 33 (bY x) 66=eE { s with fin:=x }:=(aD rfl rfl (bT _)).trans (bI (eI (bT _)))
theorem uM (s:jZ):(eE s)[33]? = some (.v (.int .u64 s.fin.aK)):=(aG rfl (bT _)).trans (jY _)
theorem wV (s:jZ):rd (eE s) 34 32=aX s.fin.root:=(aZ rfl (bT _)).trans (uJ _)
def Si:jZ:=⟨iA,iA⟩
def Ds:List Value:=Cr++(Cr)
theorem Ig:Ds.map AV.v=eE Si:=by simp only[Ds,List.map_append,List.map_cons,List.map_nil,jP,jQ,Ax];rfl
def FH:List Bool:=Tm++(Tm)
theorem Zx (a b:jZ):iC FH (eE a) (eE b):=(eU (sX _ _) (sX _ _))
theorem CV (a b:jZ):eE a=eE b↔a=b:=by
 refine⟨fun h=>?_,fun h=>by rw[h]⟩
 cases a;cases b
 simp only[eE] at h;obtain⟨h0,h⟩:=List.append_inj h (by simp)
 have e0:=(mY _ _).1 h0
 have e1:=(mY _ _).1 h
 subst e0 e1;rfl
structure zA where
 early:AV
 bX:AV
def jO (s:zA):List AV:=[s.early]++([s.bX])
@[simp] theorem iH (s:zA):(jO s).length=2:=by simp[jO]
theorem Nk (s:zA) (h0:Flat s.early) (h1:Flat s.bX):∀x∈jO s,Flat x:=by
 intro x hx;simp only[jO,List.mem_append,List.mem_singleton] at hx;rcases hx with hx|hx
 ·(subst hx;assumption)
 ·(subst hx;assumption)
theorem vF (s:zA):(jO s)[0]? = some (s.early):=rfl
theorem Ga (s:zA) (x:AV):dK (jO s) 0 ([x]) 1=jO { s with early:=x }:=cJ rfl
theorem sQ (s:zA):(jO s)[1]? = some (s.bX):=(aG rfl rfl).trans (rfl)
theorem Bo (s:zA) (x:AV):dK (jO s) 1 ([x]) 2=jO { s with bX:=x }:=(aD rfl rfl rfl).trans (bI (eI rfl))
def Ba:zA:=⟨(.v (.slice none 0 0)),(.v (.slice none 0 0))⟩
def Vk:List Value:=[.slice none 0 0]++([.slice none 0 0])
theorem FI:Vk.map AV.v=jO Ba:=by simp only[Vk,List.map_append,List.map_cons,List.map_nil,jP,jQ];rfl
theorem WV (st:St) (s:zA):Qg st (jO s)=cN (cA st s.early) fun x_early=>cN (cA st s.bX) fun x_orphans=>some (jO { s with early:=x_early,bX:=x_orphans }):=by
 simp only[jO,uD,wB,mZ,cZ]
structure Fo where
 nodes:AV
def mM (s:Fo):List AV:=[s.nodes]
@[simp] theorem mR (s:Fo):(mM s).length=1:=by simp[mM]
theorem wH (s:Fo) (h0:Flat s.nodes):∀x∈mM s,Flat x:=by
 intro x hx;simp only[mM,List.mem_append,List.mem_singleton] at hx;(subst hx;assumption)
theorem xC (s:Fo):(mM s)[0]? = some (s.nodes):=rfl
theorem Ih (s:Fo) (x:AV):dK (mM s) 0 ([x]) 1=mM { s with nodes:=x }:=eI rfl
def Lf:Fo:=⟨(.v (.slice none 0 0))⟩
def WW:List Value:=[.slice none 0 0]
theorem QX:WW.map AV.v=mM Lf:=by simp only[WW,List.map_append,List.map_cons,List.map_nil,jP,jQ];rfl
theorem H3 (st:St) (s:Fo):Qg st (mM s)=cN (cA st s.nodes) fun x_nodes=>some (mM { s with nodes:=x_nodes }):=by
 simp only[mM,uD,wB,mZ,cZ]
structure aO where
 cFg:Config
 gG:uU
 bM:jZ
 dV:zA
 tree:Fo
 now:Int
 iI:cK
 tables:AV
def aB (s:aO):List AV:=bU s.cFg++(eX s.gG++(eE s.bM++(jO s.dV++(mM s.tree++(sF s.now++(aX s.iI++([s.tables])))))))
@[simp] theorem cP (s:aO):(aB s).length=150:=by simp[aB]
theorem Sv (s:aO) (h0:Flat s.cFg.jN) (h1:Flat s.gG.dQ) (h2:Flat s.gG.gZ) (h3:Flat s.dV.early) (h4:Flat s.dV.bX) (h5:Flat s.tree.nodes) (h6:Flat s.tables):∀x∈aB s,Flat x:=by
 intro x hx;simp only[aB,List.mem_append,List.mem_singleton] at hx;rcases hx with hx|hx|hx|hx|hx|hx|hx|hx
 ·(exact tV _ (by assumption) _ hx)
 ·(exact qL _ (by assumption) (by assumption) _ hx)
 ·(exact lG _ _ hx)
 ·(exact Nk _ (by assumption) (by assumption) _ hx)
 ·(exact wH _ (by assumption) _ hx)
 ·(exact eD _ _ hx)
 ·(exact dJ _ _ hx)
 ·(subst hx;assumption)
theorem Uo (s:aO):rd (aB s) 0 45=bU s.cFg:=gI (bO _)
theorem Up (s:aO) (x:Config):dK (aB s) 0 (bU x) 45=aB { s with cFg:=x }:=cJ (bO _)
theorem Aa (s:aO):(aB s)[0]? = some (.v (.int .i64 s.cFg.mH.rR)):=(eM (by rw[bO];decide)).trans (wT _)
theorem Ac (s:aO):(aB s)[1]? = some (.v (.int .i64 s.cFg.mH.wJ)):=(eM (by rw[bO];decide)).trans (wU _)
theorem yD (s:aO):(aB s)[2]? = some (.v (.int .i64 s.cFg.mH.pX)):=(eM (by rw[bO];decide)).trans (uV _)
theorem yE (s:aO):(aB s)[3]? = some (.v (.int .i64 s.cFg.mH.qT)):=(eM (by rw[bO];decide)).trans (uW _)
theorem qF (s:aO):(aB s)[4]? = some (.v (.int .i64 s.cFg.mH.oI)):=(eM (by rw[bO];decide)).trans (uX _)
theorem pP (s:aO):(aB s)[5]? = some (.v (.int .u64 s.cFg.mH.rI)):=(eM (by rw[bO];decide)).trans (uL _)
theorem Ii (s:aO):(aB s)[6]? = some (.v (.int .u64 s.cFg.qS)):=(eM (by rw[bO];decide)).trans (Hz _)
theorem Jt (s:aO):rd (aB s) 8 4=gH s.cFg.AZ:=(qE (by rw[bO];decide)).trans (Km _)
theorem tL (s:aO):rd (aB s) 12 32=aX s.cFg.eC:=(qE (by rw[bO];decide)).trans (Bn _)
theorem qM (s:aO):(aB s)[44]? = some (s.cFg.jN):=(eM (by rw[bO];decide)).trans (yZ _)
theorem Ju (s:aO) (x:AV):dK (aB s) 44 ([x]) 45=aB { s with cFg:={ s.cFg with jN:=x }}:=(uH (by rw[bO];decide)).trans (Fc (Kn _ x))
theorem Zy (s:aO):rd (aB s) 45 2=eX s.gG:=(aZ rfl (bO _)).trans (gI (dD _))
theorem Zz (s:aO) (x:uU):dK (aB s) 45 (eX x) 47=aB { s with gG:=x }:=(aD rfl rfl (bO _)).trans (bI (cJ (dD _)))
theorem oZ (s:aO):(aB s)[45]? = some (s.gG.dQ):=(aG rfl (bO _)).trans ((eM (by rw[dD];decide)).trans (vE _))
theorem Gi (s:aO) (x:AV):dK (aB s) 45 ([x]) 46=aB { s with gG:={ s.gG with dQ:=x }}:=(aD rfl rfl (bO _)).trans (bI ((uH (by rw[dD];decide)).trans (Fc (Fx _ x))))
theorem pW (s:aO):(aB s)[46]? = some (s.gG.gZ):=(aG rfl (bO _)).trans ((eM (by rw[dD];decide)).trans (xB _))
theorem Ij (s:aO) (x:AV):dK (aB s) 46 ([x]) 47=aB { s with gG:={ s.gG with gZ:=x }}:=(aD rfl rfl (bO _)).trans (bI ((uH (by rw[dD];decide)).trans (Fc (Ie _ x))))
theorem Px (s:aO):rd (aB s) 47 66=eE s.bM:=(aZ rfl (bO _)).trans ((aZ rfl (dD _)).trans (gI (dA _)))
theorem Py (s:aO) (x:jZ):dK (aB s) 47 (eE x) 113=aB { s with bM:=x }:=(aD rfl rfl (bO _)).trans (bI ((aD rfl rfl (dD _)).trans (bI (cJ (dA _)))))
theorem Fi (s:aO):rd (aB s) 47 33=bY s.bM.hU:=(aZ rfl (bO _)).trans ((aZ rfl (dD _)).trans ((qE (by rw[dA];decide)).trans (Dq _)))
theorem Fj (s:aO) (x:fS):dK (aB s) 47 (bY x) 80=aB { s with bM:={ s.bM with hU:=x }}:=(aD rfl rfl (bO _)).trans (bI ((aD rfl rfl (dD _)).trans (bI ((uH (by rw[dA];decide)).trans (Fc (Dr _ x))))))
theorem wW (s:aO):(aB s)[47]? = some (.v (.int .u64 s.bM.hU.aK)):=(aG rfl (bO _)).trans ((aG rfl (dD _)).trans ((eM (by rw[dA];decide)).trans (tK _)))
theorem qG (s:aO):rd (aB s) 48 32=aX s.bM.hU.root:=(aZ rfl (bO _)).trans ((aZ rfl (dD _)).trans ((qE (by rw[dA];decide)).trans (uY _)))
theorem uZ (s:aO):rd (aB s) 80 33=bY s.bM.fin:=(aZ rfl (bO _)).trans ((aZ rfl (dD _)).trans ((qE (by rw[dA];decide)).trans (Fy _)))
theorem Gj (s:aO) (x:fS):dK (aB s) 80 (bY x) 113=aB { s with bM:={ s.bM with fin:=x }}:=(aD rfl rfl (bO _)).trans (bI ((aD rfl rfl (dD _)).trans (bI ((uH (by rw[dA];decide)).trans (Fc (Fz _ x))))))
theorem xH (s:aO):(aB s)[80]? = some (.v (.int .u64 s.bM.fin.aK)):=(aG rfl (bO _)).trans ((aG rfl (dD _)).trans ((eM (by rw[dA];decide)).trans (uM _)))
theorem rA (s:aO):rd (aB s) 81 32=aX s.bM.fin.root:=(aZ rfl (bO _)).trans ((aZ rfl (dD _)).trans ((qE (by rw[dA];decide)).trans (wV _)))
theorem pA (s:aO):(aB s)[113]? = some (s.dV.early):=(aG rfl (bO _)).trans ((aG rfl (dD _)).trans ((aG rfl (dA _)).trans ((eM (by rw[iH];decide)).trans (vF _))))
theorem Gk (s:aO) (x:AV):dK (aB s) 113 ([x]) 114=aB { s with dV:={ s.dV with early:=x }}:=(aD rfl rfl (bO _)).trans (bI ((aD rfl rfl (dD _)).trans (bI ((aD rfl rfl (dA _)).trans (bI ((uH (by rw[iH];decide)).trans (Fc (Ga _ x))))))))
theorem nX (s:aO):(aB s)[114]? = some (s.dV.bX):=(aG rfl (bO _)).trans ((aG rfl (dD _)).trans ((aG rfl (dA _)).trans ((eM (by rw[iH];decide)).trans (sQ _))))
theorem Dt (s:aO) (x:AV):dK (aB s) 114 ([x]) 115=aB { s with dV:={ s.dV with bX:=x }}:=(aD rfl rfl (bO _)).trans (bI ((aD rfl rfl (dD _)).trans (bI ((aD rfl rfl (dA _)).trans (bI ((uH (by rw[iH];decide)).trans (Fc (Bo _ x))))))))
theorem Kp (s:aO):rd (aB s) 115 1=mM s.tree:=(aZ rfl (bO _)).trans ((aZ rfl (dD _)).trans ((aZ rfl (dA _)).trans ((aZ rfl (iH _)).trans (gI (mR _)))))
theorem Ce (s:aO) (x:Fo):dK (aB s) 115 (mM x) 116=aB { s with tree:=x }:=(aD rfl rfl (bO _)).trans (bI ((aD rfl rfl (dD _)).trans (bI ((aD rfl rfl (dA _)).trans (bI ((aD rfl rfl (iH _)).trans (bI (cJ (mR _)))))))))
theorem qN (s:aO):(aB s)[115]? = some (s.tree.nodes):=(aG rfl (bO _)).trans ((aG rfl (dD _)).trans ((aG rfl (dA _)).trans ((aG rfl (iH _)).trans ((eM (by rw[mR];decide)).trans (xC _)))))
theorem Jv (s:aO) (x:AV):dK (aB s) 115 ([x]) 116=aB { s with tree:={ s.tree with nodes:=x }}:=(aD rfl rfl (bO _)).trans (bI ((aD rfl rfl (dD _)).trans (bI ((aD rfl rfl (dA _)).trans (bI ((aD rfl rfl (iH _)).trans (bI ((uH (by rw[mR];decide)).trans (Fc (Ih _ x))))))))))
theorem Kq (s:aO):(aB s)[116]? = some (.v (.int .u64 s.now)):=(aG rfl (bO _)).trans ((aG rfl (dD _)).trans ((aG rfl (dA _)).trans ((aG rfl (iH _)).trans ((aG rfl (mR _)).trans (rfl)))))
theorem Pz (s:aO) (x:Int):dK (aB s) 116 ([.v (.int .u64 x)]) 117=aB { s with now:=x }:=(aD rfl rfl (bO _)).trans (bI ((aD rfl rfl (dD _)).trans (bI ((aD rfl rfl (dA _)).trans (bI ((aD rfl rfl (iH _)).trans (bI ((aD rfl rfl (mR _)).trans (bI (cJ (aW _)))))))))))
theorem Ik (s:aO):rd (aB s) 117 32=aX s.iI:=(aZ rfl (bO _)).trans ((aZ rfl (dD _)).trans ((aZ rfl (dA _)).trans ((aZ rfl (iH _)).trans ((aZ rfl (mR _)).trans ((aZ rfl (aW _)).trans (gI (aM _)))))))
theorem Il (s:aO) (x:cK):dK (aB s) 117 (aX x) 149=aB { s with iI:=x }:=(aD rfl rfl (bO _)).trans (bI ((aD rfl rfl (dD _)).trans (bI ((aD rfl rfl (dA _)).trans (bI ((aD rfl rfl (iH _)).trans (bI ((aD rfl rfl (mR _)).trans (bI ((aD rfl rfl (aW _)).trans (bI (cJ (aM _)))))))))))))
theorem vG (s:aO):(aB s)[149]? = some (s.tables):=(aG rfl (bO _)).trans ((aG rfl (dD _)).trans ((aG rfl (dA _)).trans ((aG rfl (iH _)).trans ((aG rfl (mR _)).trans ((aG rfl (aW _)).trans ((aG rfl (aM _)).trans (rfl)))))))
theorem Uq (s:aO) (x:AV):dK (aB s) 149 ([x]) 150=aB { s with tables:=x }:=(aD rfl rfl (bO _)).trans (bI ((aD rfl rfl (dD _)).trans (bI ((aD rfl rfl (dA _)).trans (bI ((aD rfl rfl (iH _)).trans (bI ((aD rfl rfl (mR _)).trans (bI ((aD rfl rfl (aW _)).trans (bI ((aD rfl rfl (aM _)).trans (bI (eI rfl))))))))))))))
def gQ:aO:=⟨nJ,Hd,Si,Ba,Lf,0,dL,(.v (.slice none 0 0))⟩
def AA:List Value:=Pq++(Zv++(Ds++(Vk++(WW++([.int .u64 0]++(tE++([.slice none 0 0])))))))
theorem AB:AA.map AV.v=aB gQ:=by simp only[AA,List.map_append,List.map_cons,List.map_nil,jP,jQ,Sb,Zw,Ig,FI,QX];rfl
theorem gK (st:St) (s:aO):Qg st (aB s)=cN (cA st s.cFg.jN) fun x_config_bal=>cN (cA st s.gG.dQ) fun x_votes_latest=>cN (cA st s.gG.gZ) fun x_votes_equiv=>cN (cA st s.dV.early) fun x_queues_early=>cN (cA st s.dV.bX) fun x_queues_orphans=>cN (cA st s.tree.nodes) fun x_tree_nodes=>cN (cA st s.tables) fun x_tables=>some (aB { s with cFg:={ s.cFg with jN:=x_config_bal },gG:={ s.gG with dQ:=x_votes_latest,gZ:=x_votes_equiv },dV:={ s.dV with early:=x_queues_early,bX:=x_queues_orphans },tree:={ s.tree with nodes:=x_tree_nodes },tables:=x_tables }):=by
 simp only[aB,uD,Xj,H2,jK (lG _),WV,H3,jK (eD _),jK (dJ _),wB,mZ,cZ]
theorem JP (s:aO):rd (aB s) 0 150=aB s:=iZ (cP _)
theorem JQ (s x:aO):dK (aB s) 0 (aB x) 150=aB x:=eI (cP _)
structure State where
 store:aO
 dN:AV
 kH:AV
 cT:Int
 zH:Bool
 last:Command
 overflow:Bool
 halted:Bool
def aF (s:State):List AV:=aB s.store++([s.dN]++([s.kH]++(sF s.cT++(tJ s.zH++(eA s.last++(tJ s.overflow++(tJ s.halted)))))))
@[simp] theorem Mk (s:State):(aF s).length=252:=by simp[aF]
theorem LP (s:State) (h0:Flat s.store.cFg.jN) (h1:Flat s.store.gG.dQ) (h2:Flat s.store.gG.gZ) (h3:Flat s.store.dV.early) (h4:Flat s.store.dV.bX) (h5:Flat s.store.tree.nodes) (h6:Flat s.store.tables) (h7:Flat s.dN) (h8:Flat s.kH):∀x∈aF s,Flat x:=by
 intro x hx;simp only[aF,List.mem_append,List.mem_singleton] at hx;rcases hx with hx|hx|hx|hx|hx|hx|hx|hx
 ·(exact Sv _ (by assumption) (by assumption) (by assumption) (by assumption) (by assumption) (by assumption) (by assumption) _ hx)
 ·(subst hx;assumption)
 ·(subst hx;assumption)
 ·(exact eD _ _ hx)
 ·(exact mO _ _ hx)
 ·(exact lD _ _ hx)
 ·(exact mO _ _ hx)
 ·(exact mO _ _ hx)
theorem AD (s:State):rd (aF s) 0 150=aB s.store:=gI (cP _)
theorem AE (s:State) (x:aO):dK (aF s) 0 (aB x) 150=aF { s with store:=x }:=cJ (cP _)
theorem tO (s:State):(aF s)[4]? = some (.v (.int .i64 s.store.cFg.mH.oI)):=(eM (by rw[cP];decide)).trans (qF _)
theorem sY (s:State):(aF s)[5]? = some (.v (.int .u64 s.store.cFg.mH.rI)):=(eM (by rw[cP];decide)).trans (pP _)
theorem wX (s:State):rd (aF s) 12 32=aX s.store.cFg.eC:=(qE (by rw[cP];decide)).trans (tL _)
theorem qO (s:State):(aF s)[44]? = some (s.store.cFg.jN):=(eM (by rw[cP];decide)).trans (qM _)
theorem pH (s:State):(aF s)[45]? = some (s.store.gG.dQ):=(eM (by rw[cP];decide)).trans (oZ _)
theorem qD (s:State):(aF s)[46]? = some (s.store.gG.gZ):=(eM (by rw[cP];decide)).trans (pW _)
theorem tP (s:State):rd (aF s) 48 32=aX s.store.bM.hU.root:=(qE (by rw[cP];decide)).trans (qG _)
theorem yF (s:State):rd (aF s) 80 33=bY s.store.bM.fin:=(qE (by rw[cP];decide)).trans (uZ _)
theorem uN (s:State):rd (aF s) 81 32=aX s.store.bM.fin.root:=(qE (by rw[cP];decide)).trans (rA _)
theorem pI (s:State):(aF s)[113]? = some (s.store.dV.early):=(eM (by rw[cP];decide)).trans (pA _)
theorem oG (s:State):(aF s)[114]? = some (s.store.dV.bX):=(eM (by rw[cP];decide)).trans (nX _)
theorem Jw (s:State):rd (aF s) 115 1=mM s.store.tree:=(qE (by rw[cP];decide)).trans (Kp _)
theorem xN (s:State) (x:Fo):dK (aF s) 115 (mM x) 116=aF { s with store:={ s.store with tree:=x }}:=(uH (by rw[cP];decide)).trans (Fc (Ce _ x))
theorem qP (s:State):(aF s)[115]? = some (s.store.tree.nodes):=(eM (by rw[cP];decide)).trans (qN _)
theorem Jx (s:State):(aF s)[116]? = some (.v (.int .u64 s.store.now)):=(eM (by rw[cP];decide)).trans (Kq _)
theorem Ml (s:State) (x:Int):dK (aF s) 116 ([.v (.int .u64 x)]) 117=aF { s with store:={ s.store with now:=x }}:=(uH (by rw[cP];decide)).trans (Fc (Pz _ x))
theorem Im (s:State):rd (aF s) 117 32=aX s.store.iI:=(qE (by rw[cP];decide)).trans (Ik _)
theorem Io (s:State) (x:cK):dK (aF s) 117 (aX x) 149=aF { s with store:={ s.store with iI:=x }}:=(uH (by rw[cP];decide)).trans (Fc (Il _ x))
theorem tW (s:State):(aF s)[149]? = some (s.store.tables):=(eM (by rw[cP];decide)).trans (vG _)
theorem zB (s:State):(aF s)[150]? = some (s.dN):=(aG rfl (cP _)).trans (rfl)
theorem Qa (s:State) (x:AV):dK (aF s) 150 ([x]) 151=aF { s with dN:=x }:=(aD rfl rfl (cP _)).trans (bI (cJ rfl))
theorem Au (s:State):(aF s)[151]? = some (s.kH):=(aG rfl (cP _)).trans ((aG rfl rfl).trans (rfl))
theorem Sj (s:State) (x:AV):dK (aF s) 151 ([x]) 152=aF { s with kH:=x }:=(aD rfl rfl (cP _)).trans (bI ((aD rfl rfl rfl).trans (bI (cJ rfl))))
theorem Qb (s:State):(aF s)[152]? = some (.v (.int .u64 s.cT)):=(aG rfl (cP _)).trans ((aG rfl rfl).trans ((aG rfl rfl).trans (rfl)))
theorem Sk (s:State) (x:Int):dK (aF s) 152 ([.v (.int .u64 x)]) 153=aF { s with cT:=x }:=(aD rfl rfl (cP _)).trans (bI ((aD rfl rfl rfl).trans (bI ((aD rfl rfl rfl).trans (bI (cJ (aW _)))))))
theorem AF (s:State):(aF s)[153]? = some (.v (.bool s.zH)):=(aG rfl (cP _)).trans ((aG rfl rfl).trans ((aG rfl rfl).trans ((aG rfl (aW _)).trans (rfl))))
theorem CW (s:State) (x:Bool):dK (aF s) 153 ([.v (.bool x)]) 154=aF { s with zH:=x }:=(aD rfl rfl (cP _)).trans (bI ((aD rfl rfl rfl).trans (bI ((aD rfl rfl rfl).trans (bI ((aD rfl rfl (aW _)).trans (bI (cJ (gX _)))))))))
theorem CX (s:State):rd (aF s) 154 96=eA s.last:=(aZ rfl (cP _)).trans ((aZ rfl rfl).trans ((aZ rfl rfl).trans ((aZ rfl (aW _)).trans ((aZ rfl (gX _)).trans (gI (mF _))))))
theorem CY (s:State) (x:Command):dK (aF s) 154 (eA x) 250=aF { s with last:=x }:=(aD rfl rfl (cP _)).trans (bI ((aD rfl rfl rfl).trans (bI ((aD rfl rfl rfl).trans (bI ((aD rfl rfl (aW _)).trans (bI ((aD rfl rfl (gX _)).trans (bI (cJ (mF _)))))))))))
theorem Mm (s:State):(aF s)[250]? = some (.v (.bool s.overflow)):=(aG rfl (cP _)).trans ((aG rfl rfl).trans ((aG rfl rfl).trans ((aG rfl (aW _)).trans ((aG rfl (gX _)).trans ((aG rfl (mF _)).trans (rfl))))))
theorem Qc (s:State) (x:Bool):dK (aF s) 250 ([.v (.bool x)]) 251=aF { s with overflow:=x }:=(aD rfl rfl (cP _)).trans (bI ((aD rfl rfl rfl).trans (bI ((aD rfl rfl rfl).trans (bI ((aD rfl rfl (aW _)).trans (bI ((aD rfl rfl (gX _)).trans (bI ((aD rfl rfl (mF _)).trans (bI (cJ (gX _)))))))))))))
theorem Sl (s:State):(aF s)[251]? = some (.v (.bool s.halted)):=(aG rfl (cP _)).trans ((aG rfl rfl).trans ((aG rfl rfl).trans ((aG rfl (aW _)).trans ((aG rfl (gX _)).trans ((aG rfl (mF _)).trans ((aG rfl (gX _)).trans (rfl)))))))
theorem Ur (s:State) (x:Bool):dK (aF s) 251 ([.v (.bool x)]) 252=aF { s with halted:=x }:=(aD rfl rfl (cP _)).trans (bI ((aD rfl rfl rfl).trans (bI ((aD rfl rfl rfl).trans (bI ((aD rfl rfl (aW _)).trans (bI ((aD rfl rfl (gX _)).trans (bI ((aD rfl rfl (mF _)).trans (bI ((aD rfl rfl (gX _)).trans (bI (eI (gX _)))))))))))))))
def jR:State:=⟨gQ,(.v (.slice none 0 0)),(.v (.slice none 0 0)),0,false,Zs,false,false⟩
def JR:List Value:=AA++([.slice none 0 0]++([.slice none 0 0]++([.int .u64 0]++([.bool false]++(Ic++([.bool false]++([.bool false])))))))
theorem QY:JR.map AV.v=aF jR:=by simp only[JR,List.map_append,List.map_cons,List.map_nil,jP,jQ,AB,Mj];rfl
theorem vO (st:St) (s:State):Qg st (aF s)=cN (cA st s.store.cFg.jN) fun x_store_config_bal=>cN (cA st s.store.gG.dQ) fun x_store_votes_latest=>cN (cA st s.store.gG.gZ) fun x_store_votes_equiv=>cN (cA st s.store.dV.early) fun x_store_queues_early=>cN (cA st s.store.dV.bX) fun x_store_queues_orphans=>cN (cA st s.store.tree.nodes) fun x_store_tree_nodes=>cN (cA st s.store.tables) fun x_store_tables=>cN (cA st s.dN) fun x_requests=>cN (cA st s.kH) fun x_retries=>some (aF { s with store:={ s.store with cFg:={ s.store.cFg with jN:=x_store_config_bal },gG:={ s.store.gG with dQ:=x_store_votes_latest,gZ:=x_store_votes_equiv },dV:={ s.store.dV with early:=x_store_queues_early,bX:=x_store_queues_orphans },tree:={ s.store.tree with nodes:=x_store_tree_nodes },tables:=x_store_tables },dN:=x_requests,kH:=x_retries }):=by
 simp only[aF,uD,gK,wB,jK (eD _),jK (mO _),jK (lD _),mZ,cZ]
theorem JS (s:State):rd (aF s) 0 252=aF s:=iZ (Mk _)
theorem JT (s x:State):dK (aF s) 0 (aF x) 252=aF x:=eI (Mk _)
structure wZ where
 kind:Int
 block:Block
 Ge:rX
 oU:fZ
 table:Table
 verdict:fM
 write:Int
 qH:Int
def lC (s:wZ):List AV:=pV s.kind++(aU s.block++(iB s.Ge++(cB s.oU++(cI s.table++(bZ s.verdict++(pV s.write++(pV s.qH)))))))
@[simp] theorem AG (s:wZ):(lC s).length=446:=by simp[lC]
theorem v9 (s:wZ) (h0:Flat s.Ge.eY) (h1:Flat s.oU.first.eY) (h2:Flat s.oU.second.eY) (h3:Flat s.table.jN):∀x∈lC s,Flat x:=by
 intro x hx;simp only[lC,List.mem_append,List.mem_singleton] at hx;rcases hx with hx|hx|hx|hx|hx|hx|hx|hx
 ·(exact mK _ _ hx)
 ·(exact Bj _ _ hx)
 ·(exact Qm _ (by assumption) _ hx)
 ·(exact Gz _ (by assumption) (by assumption) _ hx)
 ·(exact Ha _ (by assumption) _ hx)
 ·(exact gN _ _ hx)
 ·(exact mK _ _ hx)
 ·(exact mK _ _ hx)
theorem JU (s:wZ):(lC s)[0]? = some (.v (.int .i64 s.kind)):=rfl
theorem QZ (s:wZ) (x:Int):dK (lC s) 0 ([.v (.int .i64 x)]) 1=lC { s with kind:=x }:=cJ (bC _)
theorem JV (s:wZ):rd (lC s) 1 238=aU s.block:=(aZ rfl (bC _)).trans (gI (bQ _))
theorem JW (s:wZ) (x:Block):dK (lC s) 1 (aU x) 239=lC { s with block:=x }:=(aD rfl rfl (bC _)).trans (bI (cJ (bQ _)))
theorem WX (s:wZ):rd (lC s) 239 67=iB s.Ge:=(aZ rfl (bC _)).trans ((aZ rfl (bQ _)).trans (gI (iG _)))
theorem WY (s:wZ) (x:rX):dK (lC s) 239 (iB x) 306=lC { s with Ge:=x }:=(aD rfl rfl (bC _)).trans (bI ((aD rfl rfl (bQ _)).trans (bI (cJ (iG _)))))
theorem Cp (s:wZ):(lC s)[305]? = some (s.Ge.eY):=(aG rfl (bC _)).trans ((aG rfl (bQ _)).trans ((eM (by rw[iG];decide)).trans (Ej _)))
theorem JX (s:wZ):rd (lC s) 306 70=cB s.oU:=(aZ rfl (bC _)).trans ((aZ rfl (bQ _)).trans ((aZ rfl (iG _)).trans (gI (fR _))))
theorem JY (s:wZ) (x:fZ):dK (lC s) 306 (cB x) 376=lC { s with oU:=x }:=(aD rfl rfl (bC _)).trans (bI ((aD rfl rfl (bQ _)).trans (bI ((aD rfl rfl (iG _)).trans (bI (cJ (fR _)))))))
theorem sB (s:wZ):(lC s)[340]? = some (s.oU.first.eY):=(aG rfl (bC _)).trans ((aG rfl (bQ _)).trans ((aG rfl (iG _)).trans ((eM (by rw[fR];decide)).trans (oH _))))
theorem rQ (s:wZ):(lC s)[375]? = some (s.oU.second.eY):=(aG rfl (bC _)).trans ((aG rfl (bQ _)).trans ((aG rfl (iG _)).trans ((eM (by rw[fR];decide)).trans (nY _))))
theorem JZ (s:wZ):rd (lC s) 376 34=cI s.table:=(aZ rfl (bC _)).trans ((aZ rfl (bQ _)).trans ((aZ rfl (iG _)).trans ((aZ rfl (fR _)).trans (gI (fV _)))))
theorem KA (s:wZ) (x:Table):dK (lC s) 376 (cI x) 410=lC { s with table:=x }:=(aD rfl rfl (bC _)).trans (bI ((aD rfl rfl (bQ _)).trans (bI ((aD rfl rfl (iG _)).trans (bI ((aD rfl rfl (fR _)).trans (bI (cJ (fV _)))))))))
theorem Av (s:wZ):(lC s)[409]? = some (s.table.jN):=(aG rfl (bC _)).trans ((aG rfl (bQ _)).trans ((aG rfl (iG _)).trans ((aG rfl (fR _)).trans ((eM (by rw[fV];decide)).trans (Bt _)))))
theorem AH (s:wZ):rd (lC s) 410 34=bZ s.verdict:=(aZ rfl (bC _)).trans ((aZ rfl (bQ _)).trans ((aZ rfl (iG _)).trans ((aZ rfl (fR _)).trans ((aZ rfl (fV _)).trans (gI (mE _))))))
theorem AI (s:wZ) (x:fM):dK (lC s) 410 (bZ x) 444=lC { s with verdict:=x }:=(aD rfl rfl (bC _)).trans (bI ((aD rfl rfl (bQ _)).trans (bI ((aD rfl rfl (iG _)).trans (bI ((aD rfl rfl (fR _)).trans (bI ((aD rfl rfl (fV _)).trans (bI (cJ (mE _)))))))))))
theorem CZ (s:wZ):(lC s)[444]? = some (.v (.int .i64 s.write)):=(aG rfl (bC _)).trans ((aG rfl (bQ _)).trans ((aG rfl (iG _)).trans ((aG rfl (fR _)).trans ((aG rfl (fV _)).trans ((aG rfl (mE _)).trans (rfl))))))
theorem KB (s:wZ) (x:Int):dK (lC s) 444 ([.v (.int .i64 x)]) 445=lC { s with write:=x }:=(aD rfl rfl (bC _)).trans (bI ((aD rfl rfl (bQ _)).trans (bI ((aD rfl rfl (iG _)).trans (bI ((aD rfl rfl (fR _)).trans (bI ((aD rfl rfl (fV _)).trans (bI ((aD rfl rfl (mE _)).trans (bI (cJ (bC _)))))))))))))
theorem KC (s:wZ):(lC s)[445]? = some (.v (.int .i64 s.qH)):=(aG rfl (bC _)).trans ((aG rfl (bQ _)).trans ((aG rfl (iG _)).trans ((aG rfl (fR _)).trans ((aG rfl (fV _)).trans ((aG rfl (mE _)).trans ((aG rfl (bC _)).trans (rfl)))))))
theorem RA (s:wZ) (x:Int):dK (lC s) 445 ([.v (.int .i64 x)]) 446=lC { s with qH:=x }:=(aD rfl rfl (bC _)).trans (bI ((aD rfl rfl (bQ _)).trans (bI ((aD rfl rfl (iG _)).trans (bI ((aD rfl rfl (fR _)).trans (bI ((aD rfl rfl (fV _)).trans (bI ((aD rfl rfl (mE _)).trans (bI ((aD rfl rfl (bC _)).trans (bI (eI (bC _)))))))))))))))
def zK:wZ:=⟨0,fC,Jo,Sd,iW,zO,0,0⟩
def aDo:List Value:=[.int .i64 0]++(Rr++(aAJ++(Dp++(Zl++(Db++([.int .i64 0]++([.int .i64 0])))))))
theorem aAK:aDo.map AV.v=lC zK:=by simp only[aDo,List.map_append,List.map_cons,List.map_nil,jP,jQ,Pe,WQ,Ib,Zm,Md];rfl
theorem WZ (s:wZ):rd (lC s) 0 446=lC s:=iZ (AG _)
theorem XA (s x:wZ):dK (lC s) 0 (lC x) 446=lC x:=eI (AG _)
def cU (l:List kS):List AV:=l.flatMap jS
@[simp] theorem XB (l:List (kS)):(cU l).length=l.length * 34:=by
 induction l with
 | nil=>rfl
 | cons x l ih=>simp only[cU,List.flatMap_cons,List.length_append,rP,List.length_cons] at *;omega
theorem nH (l:List (kS)):∀x∈cU l,Flat x:=by
 intro x hx;obtain⟨y,_,hy⟩:=List.mem_flatMap.1 hx
 exact WN y x hy
def dG (l:List rX):List AV:=l.flatMap iB
@[simp] theorem aI7 (l:List (rX)):(dG l).length=l.length * 67:=by
 induction l with
 | nil=>rfl
 | cons x l ih=>simp only[dG,List.flatMap_cons,List.length_append,iG,List.length_cons] at *;omega
theorem sT (l:List (rX)) (h:∀y∈l,Flat y.eY):∀x∈dG l,Flat x:=by
 intro x hx;obtain⟨y,hm,hy⟩:=List.mem_flatMap.1 hx
 exact Qm y (h y hm) x hy
def aT (l:List Table):List AV:=l.flatMap cI
@[simp] theorem aFi (l:List (Table)):(aT l).length=l.length * 34:=by
 induction l with
 | nil=>rfl
 | cons x l ih=>simp only[aT,List.flatMap_cons,List.length_append,fV,List.length_cons] at *;omega
theorem lY (l:List (Table)) (h:∀y∈l,Flat y.jN):∀x∈aT l,Flat x:=by
 intro x hx;obtain⟨y,hm,hy⟩:=List.mem_flatMap.1 hx
 exact Ha y (h y hm) x hy
def aA (l:List Request):List AV:=l.flatMap bL
@[simp] theorem gO (l:List (Request)):(aA l).length=l.length * 35:=by
 induction l with
 | nil=>rfl
 | cons x l ih=>simp only[aA,List.flatMap_cons,List.length_append,fO,List.length_cons] at *;omega
theorem dX (l:List (Request)):∀x∈aA l,Flat x:=by
 intro x hx;obtain⟨y,_,hy⟩:=List.mem_flatMap.1 hx
 exact fQ y x hy
end Go.Ab
end
