/-
  Part 7 of the proof: an evaluator of programs, its soundness, and what functions of this program compute.
-/
import Derived.Test.YtmcjkemalibacaaGreatK6
set_option linter.all false
set_option maxRecDepth 20000
set_option maxHeartbeats 40000000
section
namespace Go.Ab
open Classical
variable [Ext]
noncomputable def DP (st:St) (cs:List AV):Option (List AV):=cM (cs.map (cF st))
theorem uK (st:St) (a b:List AV):DP st (a++b)=cH (DP st a) fun x=>cH (DP st b) fun y=>some (x++y):=by
 unfold DP;induction a with
 | nil=>simp[cM,cH];cases cM (b.map (cF st))<;>rfl
 | cons c a ih =>
   simp only[List.cons_append,List.map_cons];cases cF st c with
   | none=>rfl
   | some c' =>
     simp only[cM,ih];cases cM (a.map (cF st)) with
     | none=>rfl
     | some a' =>
       simp only[cH,Option.map_some];cases cM (b.map (cF st))<;>rfl
theorem wR (st:St) (x:AV):DP st [x]=cH (cF st x) fun y=>some [y]:=by
 unfold DP;simp only[List.map_cons,List.map_nil];cases cF st x<;>rfl
theorem jI {st:St} {cs:List AV} (h:∀c∈cs,Flat c):DP st cs=some cs:=by
 unfold DP;induction cs with
 | nil=>rfl
 | cons c cs ih =>
   simp only[List.map_cons,bY (h c (by simp)),cM,ih fun x hx=>h x (by simp[hx]),Option.map_some]
theorem bP (st:St) (cs:List AV):fG st (.agg cs)=cH (DP st cs) fun x=>some (.agg x):=by
 unfold fG;by_cases h:Flat (.agg cs)
 ·rw[if_pos h];have h':∀c∈cs,Flat c:=by cases h with|agg _ h=>exact h
  rw[jI h'];rfl
 ·rw[if_neg h];simp only[DP];cases cM (cs.map (cF st))<;>rfl
def ov {α:Type} (c:List α→List AV):Option (List α)→AV
 | none=>.v (.slice none 0 0)
 | some l=>.sl l.length (c l)
def ol {α:Type} (o:Option (List α)):List α:=o.getD []
theorem Bz {α:Type} (l:List α):ol (some l)=l:=rfl
theorem aDh {α:Type}:ol (none:Option (List α))=[]:=rfl
def gx {α:Type} (z:α) (l:List α) (i:Int):α:=l.getD i.toNat z
theorem YJ {α:Type} {z:α} {l:List α} {i:Int} (h0:0≤i) (h1:i<l.length):∃h:i.toNat<l.length,gx z l i=l[i.toNat]:=by
 have h:i.toNat<l.length:=by omega
 exact⟨h,by simp[gx,h]⟩
theorem vU {α:Type} {z:α} {l:List α} {i:Int} (h0:0≤i) (h1:i<l.length):gx z l i∈l:=by
 obtain⟨h,e⟩:=YJ (z:=z) h0 h1
 rw[e];exact List.getElem_mem h
def zU (l:List fV):List AV:=l.flatMap bX
@[simp] theorem Za (l:List (fV)):(zU l).length=l.length * 33:=by
 induction l with
 | nil=>rfl
 | cons x l ih=>simp only[zU,List.flatMap_cons,List.length_append,bQ,List.length_cons] at *;omega
def aH (l:List Block):List AV:=l.flatMap aT
@[simp] theorem Bu (l:List (Block)):(aH l).length=l.length * 238:=by
 induction l with
 | nil=>rfl
 | cons x l ih=>simp only[aH,List.flatMap_cons,List.length_append,bM,List.length_cons] at *;omega
theorem pD (l:List (Block)):∀x∈aH l,Flat x:=by
 intro x hx;obtain⟨y,_,hy⟩:=List.mem_flatMap.1 hx
 exact Cd y x hy
def mU (l:List Bool):List AV:=l.flatMap vF
@[simp] theorem aGS (l:List (Bool)):(mU l).length=l.length * 1:=by
 induction l with
 | nil=>rfl
 | cons x l ih=>simp only[mU,List.flatMap_cons,List.length_append,gU,List.length_cons] at *;omega
theorem Va (l:List (Bool)):∀x∈mU l,Flat x:=by
 intro x hx;obtain⟨y,_,hy⟩:=List.mem_flatMap.1 hx
 exact mK y x hy
structure tI where
 tag:Int
def jW (s:tI):List AV:=sS s.tag
@[simp] theorem gQ (s:tI):(jW s).length=1:=by simp[jW]
theorem Gg (s:tI):∀x∈jW s,Flat x:=by
 intro x hx;simp only[jW,List.mem_append,List.mem_singleton] at hx;(exact dZ _ _ hx)
theorem SN (s:tI):∀x∈jW s,fR x:=by
 intro x hx;simp only[jW,List.mem_append] at hx;exact QZ _ _ hx
theorem Ar (s:tI):(jW s)[0]? = some (.v (.int .u64 s.tag)):=rfl
theorem Mq (s:tI) (x:Int):dJ (jW s) 0 ([.v (.int .u64 x)]) 1=jW { s with tag:=x }:=eD (aW _)
def Xp:tI:=⟨0⟩
def Lj:List Value:=[.int .u64 0]
theorem Lk:Lj.map AV.v=jW Xp:=by simp only[Lj,List.map_append,List.map_cons,List.map_nil,jM,jN];rfl
def LH:List Bool:=[true]
theorem Ro (a b:tI):hU LH (jW a) (jW b):=(show hU [true] [_] [_] from ⟨rfl,trivial⟩)
theorem Vt (a b:tI):jW a=jW b↔a=b:=by
 refine⟨fun h=>?_,fun h=>by rw[h]⟩
 cases a;cases b
 simp only[jW] at h;have e0:=(En _ _).1 h
 subst e0;rfl
structure fL where
 tagged:tI
 kind:Int
 dT:cA
def bW (s:fL):List AV:=jW s.tagged++(pX s.kind++(aV s.dT))
@[simp] theorem lY (s:fL):(bW s).length=34:=by simp[bW]
theorem gM (s:fL):∀x∈bW s,Flat x:=by
 intro x hx;simp only[bW,List.mem_append,List.mem_singleton] at hx;rcases hx with hx|hx|hx
 ·(exact Gg _ _ hx)
 ·(exact mI _ _ hx)
 ·(exact dF _ _ hx)
theorem Rp (s:fL) (x:tI):dJ (bW s) 0 (jW x) 1=bW { s with tagged:=x }:=cJ (gQ _)
theorem Gp (s:fL):(bW s)[0]? = some (.v (.int .u64 s.tagged.tag)):=(eE (by rw[gQ];decide)).trans (Ar _)
theorem Ho (s:fL) (x:Int):dJ (bW s) 0 ([.v (.int .u64 x)]) 1=bW { s with tagged:={ s.tagged with tag:=x }}:=(uQ (by rw[gQ];decide)).trans (Gl (Mq _ x))
theorem Ub (s:fL):(bW s)[1]? = some (.v (.int .i64 s.kind)):=(aG rfl (gQ _)).trans (rfl)
theorem Wl (s:fL) (x:Int):dJ (bW s) 1 ([.v (.int .i64 x)]) 2=bW { s with kind:=x }:=(aD rfl rfl (gQ _)).trans (bH (cJ (bC _)))
theorem Rq (s:fL):rd (bW s) 2 32=aV s.dT:=(aZ rfl (gQ _)).trans ((aZ rfl (bC _)).trans (iZ (aL _)))
theorem Rr (s:fL) (x:cA):dJ (bW s) 2 (aV x) 34=bW { s with dT:=x }:=(aD rfl rfl (gQ _)).trans (bH ((aD rfl rfl (bC _)).trans (bH (eD (aL _)))))
def Ag:fL:=⟨Xp,0,dE⟩
def Dw:List Value:=Lj++([.int .i64 0]++(tQ))
theorem Oh:Dw.map AV.v=bW Ag:=by simp only[Dw,List.map_append,List.map_cons,List.map_nil,jM,jN,Lk];rfl
def SO:List Bool:=LH++([true]++(Hb))
theorem EU (a b:fL):hU SO (bW a) (bW b):=(eP (Ro _ _) (eP (show hU [true] [_] [_] from ⟨rfl,trivial⟩) (mM _ _)))
theorem LI (a b:fL):bW a=bW b↔a=b:=by
 refine⟨fun h=>?_,fun h=>by rw[h]⟩
 cases a;cases b
 simp only[bW] at h;obtain⟨h0,h⟩:=List.append_inj h (by simp)
 obtain⟨h1,h⟩:=List.append_inj h (by simp)
 have e0:=(Vt _ _).1 h0
 have e1:=(uR _ _).1 h1
 have e2:=(oQ _ _).1 h
 subst e0 e1 e2;rfl
theorem BU (s:fL):rd (bW s) 0 34=bW s:=iZ (lY _)
theorem BV (s x:fL):dJ (bW s) 0 (bW x) 34=bW x:=eD (lY _)
structure lU where
 rY:Int
 wY:Int
 qC:Int
 qX:Int
 oJ:Int
 rM:Int
def fS (s:lU):List AV:=pX s.rY++(pX s.wY++(pX s.qC++(pX s.qX++(pX s.oJ++(sS s.rM)))))
@[simp] theorem gA (s:lU):(fS s).length=6:=by simp[fS]
theorem uJ (s:lU):∀x∈fS s,Flat x:=by
 intro x hx;simp only[fS,List.mem_append,List.mem_singleton] at hx;rcases hx with hx|hx|hx|hx|hx|hx
 ·(exact mI _ _ hx)
 ·(exact mI _ _ hx)
 ·(exact mI _ _ hx)
 ·(exact mI _ _ hx)
 ·(exact mI _ _ hx)
 ·(exact dZ _ _ hx)
theorem Ev (s:lU):(fS s)[0]? = some (.v (.int .i64 s.rY)):=rfl
theorem Wm (s:lU) (x:Int):dJ (fS s) 0 ([.v (.int .i64 x)]) 1=fS { s with rY:=x }:=cJ (bC _)
theorem Ew (s:lU):(fS s)[1]? = some (.v (.int .i64 s.wY)):=(aG rfl (bC _)).trans (rfl)
theorem Wn (s:lU) (x:Int):dJ (fS s) 1 ([.v (.int .i64 x)]) 2=fS { s with wY:=x }:=(aD rfl rfl (bC _)).trans (bH (cJ (bC _)))
theorem Ce (s:lU):(fS s)[2]? = some (.v (.int .i64 s.qC)):=(aG rfl (bC _)).trans ((aG rfl (bC _)).trans (rfl))
theorem Uc (s:lU) (x:Int):dJ (fS s) 2 ([.v (.int .i64 x)]) 3=fS { s with qC:=x }:=(aD rfl rfl (bC _)).trans (bH ((aD rfl rfl (bC _)).trans (bH (cJ (bC _)))))
theorem Cf (s:lU):(fS s)[3]? = some (.v (.int .i64 s.qX)):=(aG rfl (bC _)).trans ((aG rfl (bC _)).trans ((aG rfl (bC _)).trans (rfl)))
theorem Ud (s:lU) (x:Int):dJ (fS s) 3 ([.v (.int .i64 x)]) 4=fS { s with qX:=x }:=(aD rfl rfl (bC _)).trans (bH ((aD rfl rfl (bC _)).trans (bH ((aD rfl rfl (bC _)).trans (bH (cJ (bC _)))))))
theorem Cg (s:lU):(fS s)[4]? = some (.v (.int .i64 s.oJ)):=(aG rfl (bC _)).trans ((aG rfl (bC _)).trans ((aG rfl (bC _)).trans ((aG rfl (bC _)).trans (rfl))))
theorem Ue (s:lU) (x:Int):dJ (fS s) 4 ([.v (.int .i64 x)]) 5=fS { s with oJ:=x }:=(aD rfl rfl (bC _)).trans (bH ((aD rfl rfl (bC _)).trans (bH ((aD rfl rfl (bC _)).trans (bH ((aD rfl rfl (bC _)).trans (bH (cJ (bC _)))))))))
theorem As (s:lU):(fS s)[5]? = some (.v (.int .u64 s.rM)):=(aG rfl (bC _)).trans ((aG rfl (bC _)).trans ((aG rfl (bC _)).trans ((aG rfl (bC _)).trans ((aG rfl (bC _)).trans (rfl)))))
theorem Rs (s:lU) (x:Int):dJ (fS s) 5 ([.v (.int .u64 x)]) 6=fS { s with rM:=x }:=(aD rfl rfl (bC _)).trans (bH ((aD rfl rfl (bC _)).trans (bH ((aD rfl rfl (bC _)).trans (bH ((aD rfl rfl (bC _)).trans (bH ((aD rfl rfl (bC _)).trans (bH (eD (aW _)))))))))))
def LJ:lU:=⟨0,0,0,0,0,0⟩
def Rt:List Value:=[.int .i64 0]++([.int .i64 0]++([.int .i64 0]++([.int .i64 0]++([.int .i64 0]++([.int .u64 0])))))
theorem Uf:Rt.map AV.v=fS LJ:=by simp only[Rt,List.map_append,List.map_cons,List.map_nil,jM,jN];rfl
def z6:List Bool:=[true]++([true]++([true]++([true]++([true]++([true])))))
theorem LK (a b:lU):hU z6 (fS a) (fS b):=(eP (show hU [true] [_] [_] from ⟨rfl,trivial⟩) (eP (show hU [true] [_] [_] from ⟨rfl,trivial⟩) (eP (show hU [true] [_] [_] from ⟨rfl,trivial⟩) (eP (show hU [true] [_] [_] from ⟨rfl,trivial⟩) (eP (show hU [true] [_] [_] from ⟨rfl,trivial⟩) (show hU [true] [_] [_] from ⟨rfl,trivial⟩))))))
theorem SP (a b:lU):fS a=fS b↔a=b:=by
 refine⟨fun h=>?_,fun h=>by rw[h]⟩
 cases a;cases b
 simp only[fS] at h;obtain⟨h0,h⟩:=List.append_inj h (by simp)
 obtain⟨h1,h⟩:=List.append_inj h (by simp)
 obtain⟨h2,h⟩:=List.append_inj h (by simp)
 obtain⟨h3,h⟩:=List.append_inj h (by simp)
 obtain⟨h4,h⟩:=List.append_inj h (by simp)
 have e0:=(uR _ _).1 h0
 have e1:=(uR _ _).1 h1
 have e2:=(uR _ _).1 h2
 have e3:=(uR _ _).1 h3
 have e4:=(uR _ _).1 h4
 have e5:=(En _ _).1 h
 subst e0 e1 e2 e3 e4 e5;rfl
structure Config where
 mD:lU
 qW:Int
 Ip:Int
 DJ:rL
 dX:cA
 jO:AV
def bR (s:Config):List AV:=fS s.mD++(sS s.qW++(sS s.Ip++(gF s.DJ++(aV s.dX++([s.jO])))))
@[simp] theorem bK (s:Config):(bR s).length=45:=by simp[bR]
theorem uD (s:Config) (h0:Flat s.jO):∀x∈bR s,Flat x:=by
 intro x hx;simp only[bR,List.mem_append,List.mem_singleton] at hx;rcases hx with hx|hx|hx|hx|hx|hx
 ·(exact uJ _ _ hx)
 ·(exact dZ _ _ hx)
 ·(exact dZ _ _ hx)
 ·(exact iM _ _ hx)
 ·(exact dF _ _ hx)
 ·(subst hx;assumption)
theorem EW (s:Config):rd (bR s) 0 6=fS s.mD:=gH (gA _)
theorem EX (s:Config) (x:lU):dJ (bR s) 0 (fS x) 6=bR { s with mD:=x }:=cJ (gA _)
theorem xG (s:Config):(bR s)[0]? = some (.v (.int .i64 s.mD.rY)):=(eE (by rw[gA];decide)).trans (Ev _)
theorem xH (s:Config):(bR s)[1]? = some (.v (.int .i64 s.mD.wY)):=(eE (by rw[gA];decide)).trans (Ew _)
theorem vG (s:Config):(bR s)[2]? = some (.v (.int .i64 s.mD.qC)):=(eE (by rw[gA];decide)).trans (Ce _)
theorem vH (s:Config):(bR s)[3]? = some (.v (.int .i64 s.mD.qX)):=(eE (by rw[gA];decide)).trans (Cf _)
theorem vI (s:Config):(bR s)[4]? = some (.v (.int .i64 s.mD.oJ)):=(eE (by rw[gA];decide)).trans (Cg _)
theorem uT (s:Config):(bR s)[5]? = some (.v (.int .u64 s.mD.rM)):=(eE (by rw[gA];decide)).trans (As _)
theorem Jg (s:Config):(bR s)[6]? = some (.v (.int .u64 s.qW)):=(aG rfl (gA _)).trans (rfl)
theorem EY (s:Config) (x:Int):dJ (bR s) 6 ([.v (.int .u64 x)]) 7=bR { s with qW:=x }:=(aD rfl rfl (gA _)).trans (bH (cJ (aW _)))
theorem Ru (s:Config):(bR s)[7]? = some (.v (.int .u64 s.Ip)):=(aG rfl (gA _)).trans ((aG rfl (aW _)).trans (rfl))
theorem Ug (s:Config) (x:Int):dJ (bR s) 7 ([.v (.int .u64 x)]) 8=bR { s with Ip:=x }:=(aD rfl rfl (gA _)).trans (bH ((aD rfl rfl (aW _)).trans (bH (cJ (aW _)))))
theorem Mr (s:Config):rd (bR s) 8 4=gF s.DJ:=(aZ rfl (gA _)).trans ((aZ rfl (aW _)).trans ((aZ rfl (aW _)).trans (gH (dR _))))
theorem EZ (s:Config) (x:rL):dJ (bR s) 8 (gF x) 12=bR { s with DJ:=x }:=(aD rfl rfl (gA _)).trans (bH ((aD rfl rfl (aW _)).trans (bH ((aD rfl rfl (aW _)).trans (bH (cJ (dR _)))))))
theorem Ch (s:Config):rd (bR s) 12 32=aV s.dX:=(aZ rfl (gA _)).trans ((aZ rfl (aW _)).trans ((aZ rfl (aW _)).trans ((aZ rfl (dR _)).trans (gH (aL _)))))
theorem Rv (s:Config) (x:cA):dJ (bR s) 12 (aV x) 44=bR { s with dX:=x }:=(aD rfl rfl (gA _)).trans (bH ((aD rfl rfl (aW _)).trans (bH ((aD rfl rfl (aW _)).trans (bH ((aD rfl rfl (dR _)).trans (bH (cJ (aL _)))))))))
theorem zM (s:Config):(bR s)[44]? = some (s.jO):=(aG rfl (gA _)).trans ((aG rfl (aW _)).trans ((aG rfl (aW _)).trans ((aG rfl (dR _)).trans ((aG rfl (aL _)).trans (rfl)))))
theorem Ms (s:Config) (x:AV):dJ (bR s) 44 ([x]) 45=bR { s with jO:=x }:=(aD rfl rfl (gA _)).trans (bH ((aD rfl rfl (aW _)).trans (bH ((aD rfl rfl (aW _)).trans (bH ((aD rfl rfl (dR _)).trans (bH ((aD rfl rfl (aL _)).trans (bH (eD rfl))))))))))
def nH:Config:=⟨LJ,0,0,HU,dE,(.v (.slice none 0 0))⟩
def Rw:List Value:=Rt++([.int .u64 0]++([.int .u64 0]++(BN++(tQ++([.slice none 0 0])))))
theorem Uh:Rw.map AV.v=bR nH:=by simp only[Rw,List.map_append,List.map_cons,List.map_nil,jM,jN,Uf];rfl
theorem Zu (st:St) (s:Config):DP st (bR s)=cH (cF st s.jO) fun aAW=>some (bR { s with jO:=aAW }):=by
 simp only[bR,uK,jI (uJ _),jI (dZ _),jI (iM _),jI (dF _),wR,jJ,cK]
theorem FB (s:Config):rd (bR s) 0 45=bR s:=iZ (bK _)
theorem FC (s x:Config):dJ (bR s) 0 (bR x) 45=bR x:=eD (bK _)
structure kM where
 has:Bool
 aK:Int
 root:cA
def jP (s:kM):List AV:=vF s.has++(sS s.aK++(aV s.root))
@[simp] theorem rW (s:kM):(jP s).length=34:=by simp[jP]
theorem YK (s:kM):∀x∈jP s,Flat x:=by
 intro x hx;simp only[jP,List.mem_append,List.mem_singleton] at hx;rcases hx with hx|hx|hx
 ·(exact mK _ _ hx)
 ·(exact dZ _ _ hx)
 ·(exact dF _ _ hx)
theorem LM (s:kM):(jP s)[0]? = some (.v (.bool s.has)):=rfl
theorem SQ (s:kM) (x:Bool):dJ (jP s) 0 ([.v (.bool x)]) 1=jP { s with has:=x }:=cJ (gU _)
theorem BW (s:kM):(jP s)[1]? = some (.v (.int .u64 s.aK)):=(aG rfl (gU _)).trans (rfl)
theorem FD (s:kM) (x:Int):dJ (jP s) 1 ([.v (.int .u64 x)]) 2=jP { s with aK:=x }:=(aD rfl rfl (gU _)).trans (bH (cJ (aW _)))
theorem LN (s:kM):rd (jP s) 2 32=aV s.root:=(aZ rfl (gU _)).trans ((aZ rfl (aW _)).trans (iZ (aL _)))
theorem LO (s:kM) (x:cA):dJ (jP s) 2 (aV x) 34=jP { s with root:=x }:=(aD rfl rfl (gU _)).trans (bH ((aD rfl rfl (aW _)).trans (bH (eD (aL _)))))
def sR:kM:=⟨false,0,dE⟩
def z7:List Value:=[.bool false]++([.int .u64 0]++(tQ))
theorem z8:z7.map AV.v=jP sR:=by simp only[z7,List.map_append,List.map_cons,List.map_nil,jM,jN];rfl
def aE8:List Bool:=[false]++([true]++(Hb))
theorem YL (a b:kM):hU aE8 (jP a) (jP b):=(eP (show hU [false] [_] [_] from trivial) (eP (show hU [true] [_] [_] from ⟨rfl,trivial⟩) (mM _ _)))
theorem K2 (a b:kM):jP a=jP b↔a=b:=by
 refine⟨fun h=>?_,fun h=>by rw[h]⟩
 cases a;cases b
 simp only[jP] at h;obtain⟨h0,h⟩:=List.append_inj h (by simp)
 obtain⟨h1,h⟩:=List.append_inj h (by simp)
 have e0:=(HT _ _).1 h0
 have e1:=(En _ _).1 h1
 have e2:=(oQ _ _).1 h
 subst e0 e1 e2;rfl
theorem SR (s:kM):rd (jP s) 0 34=jP s:=iZ (rW _)
theorem SS (s x:kM):dJ (jP s) 0 (jP x) 34=jP x:=eD (rW _)
structure sH where
 slot:Int
 root:cA
 target:fV
 eU:AV
def gY (s:sH):List AV:=sS s.slot++(aV s.root++(bX s.target++([s.eU])))
@[simp] theorem iE (s:sH):(gY s).length=67:=by simp[gY]
theorem So (s:sH) (h0:Flat s.eU):∀x∈gY s,Flat x:=by
 intro x hx;simp only[gY,List.mem_append,List.mem_singleton] at hx;rcases hx with hx|hx|hx|hx
 ·(exact dZ _ _ hx)
 ·(exact dF _ _ hx)
 ·(exact dB _ _ hx)
 ·(subst hx;assumption)
theorem LP (s:sH):(gY s)[0]? = some (.v (.int .u64 s.slot)):=rfl
theorem SU (s:sH) (x:Int):dJ (gY s) 0 ([.v (.int .u64 x)]) 1=gY { s with slot:=x }:=cJ (aW _)
theorem SW (s:sH):rd (gY s) 1 32=aV s.root:=(aZ rfl (aW _)).trans (gH (aL _))
theorem SX (s:sH) (x:cA):dJ (gY s) 1 (aV x) 33=gY { s with root:=x }:=(aD rfl rfl (aW _)).trans (bH (cJ (aL _)))
theorem FE (s:sH):rd (gY s) 33 33=bX s.target:=(aZ rfl (aW _)).trans ((aZ rfl (aL _)).trans (gH (bQ _)))
theorem FF (s:sH) (x:fV):dJ (gY s) 33 (bX x) 66=gY { s with target:=x }:=(aD rfl rfl (aW _)).trans (bH ((aD rfl rfl (aL _)).trans (bH (cJ (bQ _)))))
theorem Jh (s:sH):(gY s)[33]? = some (.v (.int .u64 s.target.aK)):=(aG rfl (aW _)).trans ((aG rfl (aL _)).trans ((eE (by rw[bQ];decide)).trans (jX _)))
theorem Lt (s:sH) (x:Int):dJ (gY s) 33 ([.v (.int .u64 x)]) 34=gY { s with target:={ s.target with aK:=x }}:=(aD rfl rfl (aW _)).trans (bH ((aD rfl rfl (aL _)).trans (bH ((uQ (by rw[bQ];decide)).trans (Gl (Cx _ x))))))
theorem Oi (s:sH):rd (gY s) 34 32=aV s.target.root:=(aZ rfl (aW _)).trans ((aZ rfl (aL _)).trans ((qJ (by rw[bQ];decide)).trans (uS _)))
theorem Oj (s:sH) (x:cA):dJ (gY s) 34 (aV x) 66=gY { s with target:={ s.target with root:=x }}:=(aD rfl rfl (aW _)).trans (bH ((aD rfl rfl (aL _)).trans (bH ((uQ (by rw[bQ];decide)).trans (Gl (Gm _ x))))))
theorem Fw (s:sH):(gY s)[66]? = some (s.eU):=(aG rfl (aW _)).trans ((aG rfl (aL _)).trans ((aG rfl (bQ _)).trans (rfl)))
theorem SY (s:sH) (x:AV):dJ (gY s) 66 ([x]) 67=gY { s with eU:=x }:=(aD rfl rfl (aW _)).trans (bH ((aD rfl rfl (aL _)).trans (bH ((aD rfl rfl (bQ _)).trans (bH (eD rfl))))))
def Lo:sH:=⟨0,dE,gX,(.v (.slice none 0 0))⟩
def aAX:List Value:=[.int .u64 0]++(tQ++(Dl++([.slice none 0 0])))
theorem YM:aAX.map AV.v=gY Lo:=by simp only[aAX,List.map_append,List.map_cons,List.map_nil,jM,jN,Bp];rfl
theorem lT (st:St) (s:sH):DP st (gY s)=cH (cF st s.eU) fun YN=>some (gY { s with eU:=YN }):=by
 simp only[gY,uK,jI (dZ _),jI (dF _),jI (dB _),wR,jJ,cK]
theorem YO (s:sH):rd (gY s) 0 67=gY s:=iZ (iE _)
theorem YP (s x:sH):dJ (gY s) 0 (gY x) 67=gY x:=eD (iE _)
structure Claim where
 source:Int
 target:Int
 root:cA
 eU:AV
def gT (s:Claim):List AV:=sS s.source++(sS s.target++(aV s.root++([s.eU])))
@[simp] theorem iN (s:Claim):(gT s).length=35:=by simp[gT]
theorem Ih (s:Claim) (h0:Flat s.eU):∀x∈gT s,Flat x:=by
 intro x hx;simp only[gT,List.mem_append,List.mem_singleton] at hx;rcases hx with hx|hx|hx|hx
 ·(exact dZ _ _ hx)
 ·(exact dZ _ _ hx)
 ·(exact dF _ _ hx)
 ·(subst hx;assumption)
theorem wK (s:Claim):(gT s)[0]? = some (.v (.int .u64 s.source)):=rfl
theorem Hd (s:Claim) (x:Int):dJ (gT s) 0 ([.v (.int .u64 x)]) 1=gT { s with source:=x }:=cJ (aW _)
theorem wL (s:Claim):(gT s)[1]? = some (.v (.int .u64 s.target)):=(aG rfl (aW _)).trans (rfl)
theorem He (s:Claim) (x:Int):dJ (gT s) 1 ([.v (.int .u64 x)]) 2=gT { s with target:=x }:=(aD rfl rfl (aW _)).trans (bH (cJ (aW _)))
theorem FG (s:Claim):rd (gT s) 2 32=aV s.root:=(aZ rfl (aW _)).trans ((aZ rfl (aW _)).trans (gH (aL _)))
theorem Mt (s:Claim) (x:cA):dJ (gT s) 2 (aV x) 34=gT { s with root:=x }:=(aD rfl rfl (aW _)).trans (bH ((aD rfl rfl (aW _)).trans (bH (cJ (aL _)))))
theorem uG (s:Claim):(gT s)[34]? = some (s.eU):=(aG rfl (aW _)).trans ((aG rfl (aW _)).trans ((aG rfl (aL _)).trans (rfl)))
theorem FH (s:Claim) (x:AV):dJ (gT s) 34 ([x]) 35=gT { s with eU:=x }:=(aD rfl rfl (aW _)).trans (bH ((aD rfl rfl (aW _)).trans (bH ((aD rfl rfl (aL _)).trans (bH (eD rfl))))))
def LQ:Claim:=⟨0,0,dE,(.v (.slice none 0 0))⟩
def Ui:List Value:=[.int .u64 0]++([.int .u64 0]++(tQ++([.slice none 0 0])))
theorem BX:Ui.map AV.v=gT LQ:=by simp only[Ui,List.map_append,List.map_cons,List.map_nil,jM,jN];rfl
theorem vY (st:St) (s:Claim):DP st (gT s)=cH (cF st s.eU) fun YN=>some (gT { s with eU:=YN }):=by
 simp only[gT,uK,jI (dZ _),jI (dF _),wR,jJ,cK]
structure fY where
 first:Claim
 second:Claim
def bZ (s:fY):List AV:=gT s.first++(gT s.second)
@[simp] theorem fP (s:fY):(bZ s).length=70:=by simp[bZ]
theorem Ii (s:fY) (h0:Flat s.first.eU) (h1:Flat s.second.eU):∀x∈bZ s,Flat x:=by
 intro x hx;simp only[bZ,List.mem_append,List.mem_singleton] at hx;rcases hx with hx|hx
 ·(exact Ih _ (by assumption) _ hx)
 ·(exact Ih _ (by assumption) _ hx)
theorem Rx (s:fY):rd (bZ s) 0 35=gT s.first:=gH (iN _)
theorem Ry (s:fY) (x:Claim):dJ (bZ s) 0 (gT x) 35=bZ { s with first:=x }:=cJ (iN _)
theorem Ba (s:fY):(bZ s)[0]? = some (.v (.int .u64 s.first.source)):=(eE (by rw[iN];decide)).trans (wK _)
theorem Bb (s:fY):(bZ s)[1]? = some (.v (.int .u64 s.first.target)):=(eE (by rw[iN];decide)).trans (wL _)
theorem oI (s:fY):(bZ s)[34]? = some (s.first.eU):=(eE (by rw[iN];decide)).trans (uG _)
theorem Ok (s:fY):rd (bZ s) 35 35=gT s.second:=(aZ rfl (iN _)).trans (iZ (iN _))
theorem Ol (s:fY) (x:Claim):dJ (bZ s) 35 (gT x) 70=bZ { s with second:=x }:=(aD rfl rfl (iN _)).trans (bH (eD (iN _)))
theorem At (s:fY):(bZ s)[35]? = some (.v (.int .u64 s.second.source)):=(aG rfl (iN _)).trans (wK _)
theorem Bc (s:fY) (x:Int):dJ (bZ s) 35 ([.v (.int .u64 x)]) 36=bZ { s with second:={ s.second with source:=x }}:=(aD rfl rfl (iN _)).trans (bH (Hd _ x))
theorem Au (s:fY):(bZ s)[36]? = some (.v (.int .u64 s.second.target)):=(aG rfl (iN _)).trans (wL _)
theorem Bd (s:fY) (x:Int):dJ (bZ s) 36 ([.v (.int .u64 x)]) 37=bZ { s with second:={ s.second with target:=x }}:=(aD rfl rfl (iN _)).trans (bH (He _ x))
theorem Ey (s:fY) (x:cA):dJ (bZ s) 37 (aV x) 69=bZ { s with second:={ s.second with root:=x }}:=(aD rfl rfl (iN _)).trans (bH (Mt _ x))
theorem nX (s:fY):(bZ s)[69]? = some (s.second.eU):=(aG rfl (iN _)).trans (uG _)
def Uj:fY:=⟨LQ,LQ⟩
def Ez:List Value:=Ui++(Ui)
theorem Ji:Ez.map AV.v=bZ Uj:=by simp only[Ez,List.map_append,List.map_cons,List.map_nil,jM,jN,BX];rfl
theorem rP (st:St) (s:fY):DP st (bZ s)=cH (cF st s.first.eU) fun x_first_vals=>cH (cF st s.second.eU) fun x_second_vals=>some (bZ { s with first:={ s.first with eU:=x_first_vals },second:={ s.second with eU:=x_second_vals }}):=by
 simp only[bZ,uK,vY,jJ,cK]
theorem Wo (s:fY):rd (bZ s) 0 70=bZ s:=iZ (fP _)
theorem Wp (s x:fY):dJ (bZ s) 0 (bZ x) 70=bZ x:=eD (fP _)
structure Table where
 ck:fV
 jO:AV
def cI (s:Table):List AV:=bX s.ck++([s.jO])
@[simp] theorem fU (s:Table):(cI s).length=34:=by simp[cI]
theorem Ij (s:Table) (h0:Flat s.jO):∀x∈cI s,Flat x:=by
 intro x hx;simp only[cI,List.mem_append,List.mem_singleton] at hx;rcases hx with hx|hx
 ·(exact dB _ _ hx)
 ·(subst hx;assumption)
theorem SZ (s:Table):rd (cI s) 0 33=bX s.ck:=gH (bQ _)
theorem TA (s:Table) (x:fV):dJ (cI s) 0 (bX x) 33=cI { s with ck:=x }:=cJ (bQ _)
theorem Om (s:Table):(cI s)[0]? = some (.v (.int .u64 s.ck.aK)):=(eE (by rw[bQ];decide)).trans (jX _)
theorem Uk (s:Table):rd (cI s) 1 32=aV s.ck.root:=(qJ (by rw[bQ];decide)).trans (uS _)
theorem Cm (s:Table):(cI s)[33]? = some (s.jO):=(aG rfl (bQ _)).trans (rfl)
theorem LR (s:Table) (x:AV):dJ (cI s) 33 ([x]) 34=cI { s with jO:=x }:=(aD rfl rfl (bQ _)).trans (bH (eD rfl))
def iV:Table:=⟨gX,(.v (.slice none 0 0))⟩
def BY:List Value:=Dl++([.slice none 0 0])
theorem BZ:BY.map AV.v=cI iV:=by simp only[BY,List.map_append,List.map_cons,List.map_nil,jM,jN,Bp];rfl
theorem tO (st:St) (s:Table):DP st (cI s)=cH (cF st s.jO) fun aAW=>some (cI { s with jO:=aAW }):=by
 simp only[cI,uK,jI (dB _),wR,jJ,cK]
theorem LS (s:Table):rd (cI s) 0 34=cI s:=iZ (fU _)
theorem LU (s x:Table):dJ (cI s) 0 (cI x) 34=cI x:=eD (fU _)
structure Request where
 tagged:tI
 block:cA
 tries:Int
 due:Int
def bN (s:Request):List AV:=jW s.tagged++(aV s.block++(pX s.tries++(sS s.due)))
@[simp] theorem fZ (s:Request):(bN s).length=35:=by simp[bN]
theorem gL (s:Request):∀x∈bN s,Flat x:=by
 intro x hx;simp only[bN,List.mem_append,List.mem_singleton] at hx;rcases hx with hx|hx|hx|hx
 ·(exact Gg _ _ hx)
 ·(exact dF _ _ hx)
 ·(exact mI _ _ hx)
 ·(exact dZ _ _ hx)
theorem JO (s:Request):∀x∈bN s,fR x:=by
 intro x hx;simp only[bN,List.mem_append] at hx;rcases hx with hx|hx|hx|hx
 ·exact SN _ _ hx
 ·exact I8 _ _ hx
 ·exact aAy _ _ hx
 ·exact QZ _ _ hx
theorem Rz (s:Request):rd (bN s) 0 1=jW s.tagged:=gH (gQ _)
theorem Sa (s:Request) (x:tI):dJ (bN s) 0 (jW x) 1=bN { s with tagged:=x }:=cJ (gQ _)
theorem Gq (s:Request):(bN s)[0]? = some (.v (.int .u64 s.tagged.tag)):=(eE (by rw[gQ];decide)).trans (Ar _)
theorem Ul (s:Request):rd (bN s) 1 32=aV s.block:=(aZ rfl (gQ _)).trans (gH (aL _))
theorem Um (s:Request) (x:cA):dJ (bN s) 1 (aV x) 33=bN { s with block:=x }:=(aD rfl rfl (gQ _)).trans (bH (cJ (aL _)))
theorem Sb (s:Request):(bN s)[33]? = some (.v (.int .i64 s.tries)):=(aG rfl (gQ _)).trans ((aG rfl (aL _)).trans (rfl))
theorem Un (s:Request) (x:Int):dJ (bN s) 33 ([.v (.int .i64 x)]) 34=bN { s with tries:=x }:=(aD rfl rfl (gQ _)).trans (bH ((aD rfl rfl (aL _)).trans (bH (cJ (bC _)))))
theorem Wq (s:Request):(bN s)[34]? = some (.v (.int .u64 s.due)):=(aG rfl (gQ _)).trans ((aG rfl (aL _)).trans ((aG rfl (bC _)).trans (rfl)))
theorem CA (s:Request) (x:Int):dJ (bN s) 34 ([.v (.int .u64 x)]) 35=bN { s with due:=x }:=(aD rfl rfl (gQ _)).trans (bH ((aD rfl rfl (aL _)).trans (bH ((aD rfl rfl (bC _)).trans (bH (eD (aW _)))))))
def bU:Request:=⟨Xp,dE,0,0⟩
def Dv:List Value:=Lj++(tQ++([.int .i64 0]++([.int .u64 0])))
theorem CB:Dv.map AV.v=bN bU:=by simp only[Dv,List.map_append,List.map_cons,List.map_nil,jM,jN,Lk];rfl
def TB:List Bool:=LH++(Hb++([true]++([true])))
theorem FI (a b:Request):hU TB (bN a) (bN b):=(eP (Ro _ _) (eP (mM _ _) (eP (show hU [true] [_] [_] from ⟨rfl,trivial⟩) (show hU [true] [_] [_] from ⟨rfl,trivial⟩))))
theorem LV (a b:Request):bN a=bN b↔a=b:=by
 refine⟨fun h=>?_,fun h=>by rw[h]⟩
 cases a;cases b
 simp only[bN] at h;obtain⟨h0,h⟩:=List.append_inj h (by simp)
 obtain⟨h1,h⟩:=List.append_inj h (by simp)
 obtain⟨h2,h⟩:=List.append_inj h (by simp)
 have e0:=(Vt _ _).1 h0
 have e1:=(oQ _ _).1 h1
 have e2:=(uR _ _).1 h2
 have e3:=(En _ _).1 h
 subst e0 e1 e2 e3;rfl
theorem CC (s:Request):rd (bN s) 0 35=bN s:=iZ (fZ _)
theorem CD (s x:Request):dJ (bN s) 0 (bN x) 35=bN x:=eD (fZ _)
structure Command where
 head:cA
 safe:cA
 fin:cA
def eC (s:Command):List AV:=aV s.head++(aV s.safe++(aV s.fin))
@[simp] theorem lZ (s:Command):(eC s).length=96:=by simp[eC]
theorem kZ (s:Command):∀x∈eC s,Flat x:=by
 intro x hx;simp only[eC,List.mem_append,List.mem_singleton] at hx;rcases hx with hx|hx|hx
 ·(exact dF _ _ hx)
 ·(exact dF _ _ hx)
 ·(exact dF _ _ hx)
theorem Ws (s:Command) (x:cA):dJ (eC s) 0 (aV x) 32=eC { s with head:=x }:=cJ (aL _)
theorem Wt (s:Command) (x:cA):dJ (eC s) 32 (aV x) 64=eC { s with safe:=x }:=(aD rfl rfl (aL _)).trans (bH (cJ (aL _)))
theorem CE (s:Command) (x:cA):dJ (eC s) 64 (aV x) 96=eC { s with fin:=x }:=(aD rfl rfl (aL _)).trans (bH ((aD rfl rfl (aL _)).trans (bH (eD (aL _)))))
def CF:Command:=⟨dE,dE,dE⟩
def Jj:List Value:=tQ++(tQ++(tQ))
theorem On:Jj.map AV.v=eC CF:=by simp only[Jj,List.map_append,List.map_cons,List.map_nil,jM,jN];rfl
def TC:List Bool:=Hb++(Hb++(Hb))
theorem FJ (a b:Command):hU TC (eC a) (eC b):=(eP (mM _ _) (eP (mM _ _) (mM _ _)))
theorem LW (a b:Command):eC a=eC b↔a=b:=by
 refine⟨fun h=>?_,fun h=>by rw[h]⟩
 cases a;cases b
 simp only[eC] at h;obtain⟨h0,h⟩:=List.append_inj h (by simp)
 obtain⟨h1,h⟩:=List.append_inj h (by simp)
 have e0:=(oQ _ _).1 h0
 have e1:=(oQ _ _).1 h1
 have e2:=(oQ _ _).1 h
 subst e0 e1 e2;rfl
theorem CG (s:Command):rd (eC s) 0 96=eC s:=iZ (lZ _)
theorem CH (s x:Command):dJ (eC s) 0 (eC x) 96=eC x:=eD (lZ _)
structure vD where
 dT:AV
 iB:AV
def fC (s:vD):List AV:=[s.dT]++([s.iB])
@[simp] theorem dC (s:vD):(fC s).length=2:=by simp[fC]
theorem qQ (s:vD) (h0:Flat s.dT) (h1:Flat s.iB):∀x∈fC s,Flat x:=by
 intro x hx;simp only[fC,List.mem_append,List.mem_singleton] at hx;rcases hx with hx|hx
 ·(subst hx;assumption)
 ·(subst hx;assumption)
theorem vR (s:vD):(fC s)[0]? = some (s.dT):=rfl
theorem Hf (s:vD) (x:AV):dJ (fC s) 0 ([x]) 1=fC { s with dT:=x }:=cJ rfl
theorem xO (s:vD):(fC s)[1]? = some (s.iB):=(aG rfl rfl).trans (rfl)
theorem Jk (s:vD) (x:AV):dJ (fC s) 1 ([x]) 2=fC { s with iB:=x }:=(aD rfl rfl rfl).trans (bH (eD rfl))
def Im:vD:=⟨(.v (.slice none 0 0)),(.v (.slice none 0 0))⟩
def CI:List Value:=[.slice none 0 0]++([.slice none 0 0])
theorem CJ:CI.map AV.v=fC Im:=by simp only[CI,List.map_append,List.map_cons,List.map_nil,jM,jN];rfl
theorem K3 (st:St) (s:vD):DP st (fC s)=cH (cF st s.dT) fun x_latest=>cH (cF st s.iB) fun x_equiv=>some (fC { s with dT:=x_latest,iB:=x_equiv }):=by
 simp only[fC,uK,wR,jJ,cK]
theorem LX (s:vD):rd (fC s) 0 2=fC s:=iZ (dC _)
theorem LY (s x:vD):dJ (fC s) 0 (fC x) 2=fC x:=eD (dC _)
structure kH where
 gW:fV
 fin:fV
def eT (s:kH):List AV:=bX s.gW++(bX s.fin)
@[simp] theorem cV (s:kH):(eT s).length=66:=by simp[eT]
theorem lC (s:kH):∀x∈eT s,Flat x:=by
 intro x hx;simp only[eT,List.mem_append,List.mem_singleton] at hx;rcases hx with hx|hx
 ·(exact dB _ _ hx)
 ·(exact dB _ _ hx)
theorem Fa (s:kH):rd (eT s) 0 33=bX s.gW:=gH (bQ _)
theorem Fb (s:kH) (x:fV):dJ (eT s) 0 (bX x) 33=eT { s with gW:=x }:=cJ (bQ _)
theorem tU (s:kH):(eT s)[0]? = some (.v (.int .u64 s.gW.aK)):=(eE (by rw[bQ];decide)).trans (jX _)
theorem vJ (s:kH):rd (eT s) 1 32=aV s.gW.root:=(qJ (by rw[bQ];decide)).trans (uS _)
theorem Hg (s:kH):rd (eT s) 33 33=bX s.fin:=(aZ rfl (bQ _)).trans (iZ (bQ _))
theorem Hh (s:kH) (x:fV):dJ (eT s) 33 (bX x) 66=eT { s with fin:=x }:=(aD rfl rfl (bQ _)).trans (bH (eD (bQ _)))
theorem uU (s:kH):(eT s)[33]? = some (.v (.int .u64 s.fin.aK)):=(aG rfl (bQ _)).trans (jX _)
theorem xI (s:kH):rd (eT s) 34 32=aV s.fin.root:=(aZ rfl (bQ _)).trans (uS _)
def Uo:kH:=⟨gX,gX⟩
def Fc:List Value:=Dl++(Dl)
theorem Jl:Fc.map AV.v=eT Uo:=by simp only[Fc,List.map_append,List.map_cons,List.map_nil,jM,jN,Bp];rfl
def HV:List Bool:=Vr++(Vr)
theorem CK (a b:kH):hU HV (eT a) (eT b):=(eP (tK _ _) (tK _ _))
theorem FK (a b:kH):eT a=eT b↔a=b:=by
 refine⟨fun h=>?_,fun h=>by rw[h]⟩
 cases a;cases b
 simp only[eT] at h;obtain⟨h0,h⟩:=List.append_inj h (by simp)
 have e0:=(mW _ _).1 h0
 have e1:=(mW _ _).1 h
 subst e0 e1;rfl
structure zN where
 early:AV
 bV:AV
def jT (s:zN):List AV:=[s.early]++([s.bV])
@[simp] theorem iF (s:zN):(jT s).length=2:=by simp[jT]
theorem Pt (s:zN) (h0:Flat s.early) (h1:Flat s.bV):∀x∈jT s,Flat x:=by
 intro x hx;simp only[jT,List.mem_append,List.mem_singleton] at hx;rcases hx with hx|hx
 ·(subst hx;assumption)
 ·(subst hx;assumption)
theorem vS (s:zN):(jT s)[0]? = some (s.early):=rfl
theorem Hi (s:zN) (x:AV):dJ (jT s) 0 ([x]) 1=jT { s with early:=x }:=cJ rfl
theorem tD (s:zN):(jT s)[1]? = some (s.bV):=(aG rfl rfl).trans (rfl)
theorem Ci (s:zN) (x:AV):dJ (jT s) 1 ([x]) 2=jT { s with bV:=x }:=(aD rfl rfl rfl).trans (bH (eD rfl))
def Bs:zN:=⟨(.v (.slice none 0 0)),(.v (.slice none 0 0))⟩
def Xq:List Value:=[.slice none 0 0]++([.slice none 0 0])
theorem HW:Xq.map AV.v=jT Bs:=by simp only[Xq,List.map_append,List.map_cons,List.map_nil,jM,jN];rfl
theorem YQ (st:St) (s:zN):DP st (jT s)=cH (cF st s.early) fun x_early=>cH (cF st s.bV) fun x_orphans=>some (jT { s with early:=x_early,bV:=x_orphans }):=by
 simp only[jT,uK,wR,jJ,cK]
structure Gw where
 nodes:AV
def mT (s:Gw):List AV:=[s.nodes]
@[simp] theorem mN (s:Gw):(mT s).length=1:=by simp[mT]
theorem wX (s:Gw) (h0:Flat s.nodes):∀x∈mT s,Flat x:=by
 intro x hx;simp only[mT,List.mem_append,List.mem_singleton] at hx;(subst hx;assumption)
theorem xP (s:Gw):(mT s)[0]? = some (s.nodes):=rfl
theorem Jm (s:Gw) (x:AV):dJ (mT s) 0 ([x]) 1=mT { s with nodes:=x }:=eD rfl
def Nh:Gw:=⟨(.v (.slice none 0 0))⟩
def YR:List Value:=[.slice none 0 0]
theorem TE:YR.map AV.v=mT Nh:=by simp only[YR,List.map_append,List.map_cons,List.map_nil,jM,jN];rfl
theorem K4 (st:St) (s:Gw):DP st (mT s)=cH (cF st s.nodes) fun x_nodes=>some (mT { s with nodes:=x_nodes }):=by
 simp only[mT,uK,wR,jJ,cK]
structure aN where
 cFg:Config
 gE:vD
 bJ:kH
 dS:zN
 tree:Gw
 now:Int
 iG:cA
 tables:AV
def aB (s:aN):List AV:=bR s.cFg++(fC s.gE++(eT s.bJ++(jT s.dS++(mT s.tree++(sS s.now++(aV s.iG++([s.tables])))))))
@[simp] theorem cN (s:aN):(aB s).length=150:=by simp[aB]
theorem Uz (s:aN) (h0:Flat s.cFg.jO) (h1:Flat s.gE.dT) (h2:Flat s.gE.iB) (h3:Flat s.dS.early) (h4:Flat s.dS.bV) (h5:Flat s.tree.nodes) (h6:Flat s.tables):∀x∈aB s,Flat x:=by
 intro x hx;simp only[aB,List.mem_append,List.mem_singleton] at hx;rcases hx with hx|hx|hx|hx|hx|hx|hx|hx
 ·(exact uD _ (by assumption) _ hx)
 ·(exact qQ _ (by assumption) (by assumption) _ hx)
 ·(exact lC _ _ hx)
 ·(exact Pt _ (by assumption) (by assumption) _ hx)
 ·(exact wX _ (by assumption) _ hx)
 ·(exact dZ _ _ hx)
 ·(exact dF _ _ hx)
 ·(subst hx;assumption)
theorem Wu (s:aN):rd (aB s) 0 45=bR s.cFg:=gH (bK _)
theorem Wv (s:aN) (x:Config):dJ (aB s) 0 (bR x) 45=aB { s with cFg:=x }:=cJ (bK _)
theorem Av (s:aN):(aB s)[0]? = some (.v (.int .i64 s.cFg.mD.rY)):=(eE (by rw[bK];decide)).trans (xG _)
theorem Aw (s:aN):(aB s)[1]? = some (.v (.int .i64 s.cFg.mD.wY)):=(eE (by rw[bK];decide)).trans (xH _)
theorem yM (s:aN):(aB s)[2]? = some (.v (.int .i64 s.cFg.mD.qC)):=(eE (by rw[bK];decide)).trans (vG _)
theorem yN (s:aN):(aB s)[3]? = some (.v (.int .i64 s.cFg.mD.qX)):=(eE (by rw[bK];decide)).trans (vH _)
theorem qK (s:aN):(aB s)[4]? = some (.v (.int .i64 s.cFg.mD.oJ)):=(eE (by rw[bK];decide)).trans (vI _)
theorem pR (s:aN):(aB s)[5]? = some (.v (.int .u64 s.cFg.mD.rM)):=(eE (by rw[bK];decide)).trans (uT _)
theorem Jn (s:aN):(aB s)[6]? = some (.v (.int .u64 s.cFg.qW)):=(eE (by rw[bK];decide)).trans (Jg _)
theorem Lu (s:aN):rd (aB s) 8 4=gF s.cFg.DJ:=(qJ (by rw[bK];decide)).trans (Mr _)
theorem tV (s:aN):rd (aB s) 12 32=aV s.cFg.dX:=(qJ (by rw[bK];decide)).trans (Ch _)
theorem qR (s:aN):(aB s)[44]? = some (s.cFg.jO):=(eE (by rw[bK];decide)).trans (zM _)
theorem Lv (s:aN) (x:AV):dJ (aB s) 44 ([x]) 45=aB { s with cFg:={ s.cFg with jO:=x }}:=(uQ (by rw[bK];decide)).trans (Gl (Ms _ x))
theorem CL (s:aN):rd (aB s) 45 2=fC s.gE:=(aZ rfl (bK _)).trans (gH (dC _))
theorem CM (s:aN) (x:vD):dJ (aB s) 45 (fC x) 47=aB { s with gE:=x }:=(aD rfl rfl (bK _)).trans (bH (cJ (dC _)))
theorem pB (s:aN):(aB s)[45]? = some (s.gE.dT):=(aG rfl (bK _)).trans ((eE (by rw[dC];decide)).trans (vR _))
theorem Hp (s:aN) (x:AV):dJ (aB s) 45 ([x]) 46=aB { s with gE:={ s.gE with dT:=x }}:=(aD rfl rfl (bK _)).trans (bH ((uQ (by rw[dC];decide)).trans (Gl (Hf _ x))))
theorem pY (s:aN):(aB s)[46]? = some (s.gE.iB):=(aG rfl (bK _)).trans ((eE (by rw[dC];decide)).trans (xO _))
theorem Jo (s:aN) (x:AV):dJ (aB s) 46 ([x]) 47=aB { s with gE:={ s.gE with iB:=x }}:=(aD rfl rfl (bK _)).trans (bH ((uQ (by rw[dC];decide)).trans (Gl (Jk _ x))))
theorem Sc (s:aN):rd (aB s) 47 66=eT s.bJ:=(aZ rfl (bK _)).trans ((aZ rfl (dC _)).trans (gH (cV _)))
theorem Sd (s:aN) (x:kH):dJ (aB s) 47 (eT x) 113=aB { s with bJ:=x }:=(aD rfl rfl (bK _)).trans (bH ((aD rfl rfl (dC _)).trans (bH (cJ (cV _)))))
theorem Gr (s:aN):rd (aB s) 47 33=bX s.bJ.gW:=(aZ rfl (bK _)).trans ((aZ rfl (dC _)).trans ((qJ (by rw[cV];decide)).trans (Fa _)))
theorem Gs (s:aN) (x:fV):dJ (aB s) 47 (bX x) 80=aB { s with bJ:={ s.bJ with gW:=x }}:=(aD rfl rfl (bK _)).trans (bH ((aD rfl rfl (dC _)).trans (bH ((uQ (by rw[cV];decide)).trans (Gl (Fb _ x))))))
theorem xJ (s:aN):(aB s)[47]? = some (.v (.int .u64 s.bJ.gW.aK)):=(aG rfl (bK _)).trans ((aG rfl (dC _)).trans ((eE (by rw[cV];decide)).trans (tU _)))
theorem qL (s:aN):rd (aB s) 48 32=aV s.bJ.gW.root:=(aZ rfl (bK _)).trans ((aZ rfl (dC _)).trans ((qJ (by rw[cV];decide)).trans (vJ _)))
theorem vK (s:aN):rd (aB s) 80 33=bX s.bJ.fin:=(aZ rfl (bK _)).trans ((aZ rfl (dC _)).trans ((qJ (by rw[cV];decide)).trans (Hg _)))
theorem Hq (s:aN) (x:fV):dJ (aB s) 80 (bX x) 113=aB { s with bJ:={ s.bJ with fin:=x }}:=(aD rfl rfl (bK _)).trans (bH ((aD rfl rfl (dC _)).trans (bH ((uQ (by rw[cV];decide)).trans (Gl (Hh _ x))))))
theorem xV (s:aN):(aB s)[80]? = some (.v (.int .u64 s.bJ.fin.aK)):=(aG rfl (bK _)).trans ((aG rfl (dC _)).trans ((eE (by rw[cV];decide)).trans (uU _)))
theorem rG (s:aN):rd (aB s) 81 32=aV s.bJ.fin.root:=(aZ rfl (bK _)).trans ((aZ rfl (dC _)).trans ((qJ (by rw[cV];decide)).trans (xI _)))
theorem pC (s:aN):(aB s)[113]? = some (s.dS.early):=(aG rfl (bK _)).trans ((aG rfl (dC _)).trans ((aG rfl (cV _)).trans ((eE (by rw[iF];decide)).trans (vS _))))
theorem Hr (s:aN) (x:AV):dJ (aB s) 113 ([x]) 114=aB { s with dS:={ s.dS with early:=x }}:=(aD rfl rfl (bK _)).trans (bH ((aD rfl rfl (dC _)).trans (bH ((aD rfl rfl (cV _)).trans (bH ((uQ (by rw[iF];decide)).trans (Gl (Hi _ x))))))))
theorem nU (s:aN):(aB s)[114]? = some (s.dS.bV):=(aG rfl (bK _)).trans ((aG rfl (dC _)).trans ((aG rfl (cV _)).trans ((eE (by rw[iF];decide)).trans (tD _))))
theorem Fe (s:aN) (x:AV):dJ (aB s) 114 ([x]) 115=aB { s with dS:={ s.dS with bV:=x }}:=(aD rfl rfl (bK _)).trans (bH ((aD rfl rfl (dC _)).trans (bH ((aD rfl rfl (cV _)).trans (bH ((uQ (by rw[iF];decide)).trans (Gl (Ci _ x))))))))
theorem Mu (s:aN):rd (aB s) 115 1=mT s.tree:=(aZ rfl (bK _)).trans ((aZ rfl (dC _)).trans ((aZ rfl (cV _)).trans ((aZ rfl (iF _)).trans (gH (mN _)))))
theorem Cz (s:aN) (x:Gw):dJ (aB s) 115 (mT x) 116=aB { s with tree:=x }:=(aD rfl rfl (bK _)).trans (bH ((aD rfl rfl (dC _)).trans (bH ((aD rfl rfl (cV _)).trans (bH ((aD rfl rfl (iF _)).trans (bH (cJ (mN _)))))))))
theorem qS (s:aN):(aB s)[115]? = some (s.tree.nodes):=(aG rfl (bK _)).trans ((aG rfl (dC _)).trans ((aG rfl (cV _)).trans ((aG rfl (iF _)).trans ((eE (by rw[mN];decide)).trans (xP _)))))
theorem Lw (s:aN) (x:AV):dJ (aB s) 115 ([x]) 116=aB { s with tree:={ s.tree with nodes:=x }}:=(aD rfl rfl (bK _)).trans (bH ((aD rfl rfl (dC _)).trans (bH ((aD rfl rfl (cV _)).trans (bH ((aD rfl rfl (iF _)).trans (bH ((uQ (by rw[mN];decide)).trans (Gl (Jm _ x))))))))))
theorem Mv (s:aN):(aB s)[116]? = some (.v (.int .u64 s.now)):=(aG rfl (bK _)).trans ((aG rfl (dC _)).trans ((aG rfl (cV _)).trans ((aG rfl (iF _)).trans ((aG rfl (mN _)).trans (rfl)))))
theorem Se (s:aN) (x:Int):dJ (aB s) 116 ([.v (.int .u64 x)]) 117=aB { s with now:=x }:=(aD rfl rfl (bK _)).trans (bH ((aD rfl rfl (dC _)).trans (bH ((aD rfl rfl (cV _)).trans (bH ((aD rfl rfl (iF _)).trans (bH ((aD rfl rfl (mN _)).trans (bH (cJ (aW _)))))))))))
theorem Jp (s:aN):rd (aB s) 117 32=aV s.iG:=(aZ rfl (bK _)).trans ((aZ rfl (dC _)).trans ((aZ rfl (cV _)).trans ((aZ rfl (iF _)).trans ((aZ rfl (mN _)).trans ((aZ rfl (aW _)).trans (gH (aL _)))))))
theorem Jq (s:aN) (x:cA):dJ (aB s) 117 (aV x) 149=aB { s with iG:=x }:=(aD rfl rfl (bK _)).trans (bH ((aD rfl rfl (dC _)).trans (bH ((aD rfl rfl (cV _)).trans (bH ((aD rfl rfl (iF _)).trans (bH ((aD rfl rfl (mN _)).trans (bH ((aD rfl rfl (aW _)).trans (bH (cJ (aL _)))))))))))))
theorem vT (s:aN):(aB s)[149]? = some (s.tables):=(aG rfl (bK _)).trans ((aG rfl (dC _)).trans ((aG rfl (cV _)).trans ((aG rfl (iF _)).trans ((aG rfl (mN _)).trans ((aG rfl (aW _)).trans ((aG rfl (aL _)).trans (rfl)))))))
theorem Ww (s:aN) (x:AV):dJ (aB s) 149 ([x]) 150=aB { s with tables:=x }:=(aD rfl rfl (bK _)).trans (bH ((aD rfl rfl (dC _)).trans (bH ((aD rfl rfl (cV _)).trans (bH ((aD rfl rfl (iF _)).trans (bH ((aD rfl rfl (mN _)).trans (bH ((aD rfl rfl (aW _)).trans (bH ((aD rfl rfl (aL _)).trans (bH (eD rfl))))))))))))))
def gP:aN:=⟨nH,Im,Uo,Bs,Nh,0,dE,(.v (.slice none 0 0))⟩
def CN:List Value:=Rw++(CI++(Fc++(Xq++(YR++([.int .u64 0]++(tQ++([.slice none 0 0])))))))
theorem CO:CN.map AV.v=aB gP:=by simp only[CN,List.map_append,List.map_cons,List.map_nil,jM,jN,Uh,CJ,Jl,HW,TE];rfl
theorem gJ (st:St) (s:aN):DP st (aB s)=cH (cF st s.cFg.jO) fun x_config_bal=>cH (cF st s.gE.dT) fun x_votes_latest=>cH (cF st s.gE.iB) fun x_votes_equiv=>cH (cF st s.dS.early) fun x_queues_early=>cH (cF st s.dS.bV) fun x_queues_orphans=>cH (cF st s.tree.nodes) fun x_tree_nodes=>cH (cF st s.tables) fun x_tables=>some (aB { s with cFg:={ s.cFg with jO:=x_config_bal },gE:={ s.gE with dT:=x_votes_latest,iB:=x_votes_equiv },dS:={ s.dS with early:=x_queues_early,bV:=x_queues_orphans },tree:={ s.tree with nodes:=x_tree_nodes },tables:=x_tables }):=by
 simp only[aB,uK,Zu,K3,jI (lC _),YQ,K4,jI (dZ _),jI (dF _),wR,jJ,cK]
theorem LZ (s:aN):rd (aB s) 0 150=aB s:=iZ (cN _)
theorem MA (s x:aN):dJ (aB s) 0 (aB x) 150=aB x:=eD (cN _)
structure State where
 store:aN
 cY:AV
 oD:AV
 bB:Int
 zX:Bool
 last:Command
 overflow:Bool
 halted:Bool
def aF (s:State):List AV:=aB s.store++([s.cY]++([s.oD]++(sS s.bB++(vF s.zX++(eC s.last++(vF s.overflow++(vF s.halted)))))))
@[simp] theorem Oo (s:State):(aF s).length=252:=by simp[aF]
theorem NV (s:State) (h0:Flat s.store.cFg.jO) (h1:Flat s.store.gE.dT) (h2:Flat s.store.gE.iB) (h3:Flat s.store.dS.early) (h4:Flat s.store.dS.bV) (h5:Flat s.store.tree.nodes) (h6:Flat s.store.tables) (h7:Flat s.cY) (h8:Flat s.oD):∀x∈aF s,Flat x:=by
 intro x hx;simp only[aF,List.mem_append,List.mem_singleton] at hx;rcases hx with hx|hx|hx|hx|hx|hx|hx|hx
 ·(exact Uz _ (by assumption) (by assumption) (by assumption) (by assumption) (by assumption) (by assumption) (by assumption) _ hx)
 ·(subst hx;assumption)
 ·(subst hx;assumption)
 ·(exact dZ _ _ hx)
 ·(exact mK _ _ hx)
 ·(exact kZ _ _ hx)
 ·(exact mK _ _ hx)
 ·(exact mK _ _ hx)
theorem CP (s:State):rd (aF s) 0 150=aB s.store:=gH (cN _)
theorem CQ (s:State) (x:aN):dJ (aF s) 0 (aB x) 150=aF { s with store:=x }:=cJ (cN _)
theorem tW (s:State):(aF s)[4]? = some (.v (.int .i64 s.store.cFg.mD.oJ)):=(eE (by rw[cN];decide)).trans (qK _)
theorem tL (s:State):(aF s)[5]? = some (.v (.int .u64 s.store.cFg.mD.rM)):=(eE (by rw[cN];decide)).trans (pR _)
theorem xK (s:State):rd (aF s) 12 32=aV s.store.cFg.dX:=(qJ (by rw[cN];decide)).trans (tV _)
theorem qT (s:State):(aF s)[44]? = some (s.store.cFg.jO):=(eE (by rw[cN];decide)).trans (qR _)
theorem pM (s:State):(aF s)[45]? = some (s.store.gE.dT):=(eE (by rw[cN];decide)).trans (pB _)
theorem qI (s:State):(aF s)[46]? = some (s.store.gE.iB):=(eE (by rw[cN];decide)).trans (pY _)
theorem tX (s:State):rd (aF s) 48 32=aV s.store.bJ.gW.root:=(qJ (by rw[cN];decide)).trans (qL _)
theorem yO (s:State):rd (aF s) 80 33=bX s.store.bJ.fin:=(qJ (by rw[cN];decide)).trans (vK _)
theorem uV (s:State):rd (aF s) 81 32=aV s.store.bJ.fin.root:=(qJ (by rw[cN];decide)).trans (rG _)
theorem pN (s:State):(aF s)[113]? = some (s.store.dS.early):=(eE (by rw[cN];decide)).trans (pC _)
theorem oH (s:State):(aF s)[114]? = some (s.store.dS.bV):=(eE (by rw[cN];decide)).trans (nU _)
theorem Lx (s:State):rd (aF s) 115 1=mT s.store.tree:=(qJ (by rw[cN];decide)).trans (Mu _)
theorem yC (s:State) (x:Gw):dJ (aF s) 115 (mT x) 116=aF { s with store:={ s.store with tree:=x }}:=(uQ (by rw[cN];decide)).trans (Gl (Cz _ x))
theorem qU (s:State):(aF s)[115]? = some (s.store.tree.nodes):=(eE (by rw[cN];decide)).trans (qS _)
theorem Ly (s:State):(aF s)[116]? = some (.v (.int .u64 s.store.now)):=(eE (by rw[cN];decide)).trans (Mv _)
theorem Oq (s:State) (x:Int):dJ (aF s) 116 ([.v (.int .u64 x)]) 117=aF { s with store:={ s.store with now:=x }}:=(uQ (by rw[cN];decide)).trans (Gl (Se _ x))
theorem Jr (s:State):rd (aF s) 117 32=aV s.store.iG:=(qJ (by rw[cN];decide)).trans (Jp _)
theorem Js (s:State) (x:cA):dJ (aF s) 117 (aV x) 149=aF { s with store:={ s.store with iG:=x }}:=(uQ (by rw[cN];decide)).trans (Gl (Jq _ x))
theorem uF (s:State):(aF s)[149]? = some (s.store.tables):=(eE (by rw[cN];decide)).trans (vT _)
theorem zO (s:State):(aF s)[150]? = some (s.cY):=(aG rfl (cN _)).trans (rfl)
theorem Sf (s:State) (x:AV):dJ (aF s) 150 ([x]) 151=aF { s with cY:=x }:=(aD rfl rfl (cN _)).trans (bH (cJ rfl))
theorem Bm (s:State):(aF s)[151]? = some (s.oD):=(aG rfl (cN _)).trans ((aG rfl rfl).trans (rfl))
theorem Up (s:State) (x:AV):dJ (aF s) 151 ([x]) 152=aF { s with oD:=x }:=(aD rfl rfl (cN _)).trans (bH ((aD rfl rfl rfl).trans (bH (cJ rfl))))
theorem Sg (s:State):(aF s)[152]? = some (.v (.int .u64 s.bB)):=(aG rfl (cN _)).trans ((aG rfl rfl).trans ((aG rfl rfl).trans (rfl)))
theorem Uq (s:State) (x:Int):dJ (aF s) 152 ([.v (.int .u64 x)]) 153=aF { s with bB:=x }:=(aD rfl rfl (cN _)).trans (bH ((aD rfl rfl rfl).trans (bH ((aD rfl rfl rfl).trans (bH (cJ (aW _)))))))
theorem CR (s:State):(aF s)[153]? = some (.v (.bool s.zX)):=(aG rfl (cN _)).trans ((aG rfl rfl).trans ((aG rfl rfl).trans ((aG rfl (aW _)).trans (rfl))))
theorem FL (s:State) (x:Bool):dJ (aF s) 153 ([.v (.bool x)]) 154=aF { s with zX:=x }:=(aD rfl rfl (cN _)).trans (bH ((aD rfl rfl rfl).trans (bH ((aD rfl rfl rfl).trans (bH ((aD rfl rfl (aW _)).trans (bH (cJ (gU _)))))))))
theorem FM (s:State):rd (aF s) 154 96=eC s.last:=(aZ rfl (cN _)).trans ((aZ rfl rfl).trans ((aZ rfl rfl).trans ((aZ rfl (aW _)).trans ((aZ rfl (gU _)).trans (gH (lZ _))))))
theorem FN (s:State) (x:Command):dJ (aF s) 154 (eC x) 250=aF { s with last:=x }:=(aD rfl rfl (cN _)).trans (bH ((aD rfl rfl rfl).trans (bH ((aD rfl rfl rfl).trans (bH ((aD rfl rfl (aW _)).trans (bH ((aD rfl rfl (gU _)).trans (bH (cJ (lZ _)))))))))))
theorem Ot (s:State):(aF s)[250]? = some (.v (.bool s.overflow)):=(aG rfl (cN _)).trans ((aG rfl rfl).trans ((aG rfl rfl).trans ((aG rfl (aW _)).trans ((aG rfl (gU _)).trans ((aG rfl (lZ _)).trans (rfl))))))
theorem Sh (s:State) (x:Bool):dJ (aF s) 250 ([.v (.bool x)]) 251=aF { s with overflow:=x }:=(aD rfl rfl (cN _)).trans (bH ((aD rfl rfl rfl).trans (bH ((aD rfl rfl rfl).trans (bH ((aD rfl rfl (aW _)).trans (bH ((aD rfl rfl (gU _)).trans (bH ((aD rfl rfl (lZ _)).trans (bH (cJ (gU _)))))))))))))
theorem Ur (s:State):(aF s)[251]? = some (.v (.bool s.halted)):=(aG rfl (cN _)).trans ((aG rfl rfl).trans ((aG rfl rfl).trans ((aG rfl (aW _)).trans ((aG rfl (gU _)).trans ((aG rfl (lZ _)).trans ((aG rfl (gU _)).trans (rfl)))))))
theorem Wx (s:State) (x:Bool):dJ (aF s) 251 ([.v (.bool x)]) 252=aF { s with halted:=x }:=(aD rfl rfl (cN _)).trans (bH ((aD rfl rfl rfl).trans (bH ((aD rfl rfl rfl).trans (bH ((aD rfl rfl (aW _)).trans (bH ((aD rfl rfl (gU _)).trans (bH ((aD rfl rfl (lZ _)).trans (bH ((aD rfl rfl (gU _)).trans (bH (eD (gU _)))))))))))))))
def iW:State:=⟨gP,(.v (.slice none 0 0)),(.v (.slice none 0 0)),0,false,CF,false,false⟩
def MB:List Value:=CN++([.slice none 0 0]++([.slice none 0 0]++([.int .u64 0]++([.bool false]++(Jj++([.bool false]++([.bool false])))))))
theorem TF:MB.map AV.v=aF iW:=by simp only[MB,List.map_append,List.map_cons,List.map_nil,jM,jN,CO,On];rfl
theorem vZ (st:St) (s:State):DP st (aF s)=cH (cF st s.store.cFg.jO) fun x_store_config_bal=>cH (cF st s.store.gE.dT) fun x_store_votes_latest=>cH (cF st s.store.gE.iB) fun x_store_votes_equiv=>cH (cF st s.store.dS.early) fun x_store_queues_early=>cH (cF st s.store.dS.bV) fun x_store_queues_orphans=>cH (cF st s.store.tree.nodes) fun x_store_tree_nodes=>cH (cF st s.store.tables) fun x_store_tables=>cH (cF st s.cY) fun x_requests=>cH (cF st s.oD) fun x_retries=>some (aF { s with store:={ s.store with cFg:={ s.store.cFg with jO:=x_store_config_bal },gE:={ s.store.gE with dT:=x_store_votes_latest,iB:=x_store_votes_equiv },dS:={ s.store.dS with early:=x_store_queues_early,bV:=x_store_queues_orphans },tree:={ s.store.tree with nodes:=x_store_tree_nodes },tables:=x_store_tables },cY:=x_requests,oD:=x_retries }):=by
 simp only[aF,uK,gJ,wR,jI (dZ _),jI (mK _),jI (kZ _),jJ,cK]
theorem MC (s:State):rd (aF s) 0 252=aF s:=iZ (Oo _)
theorem MD (s x:State):dJ (aF s) 0 (aF x) 252=aF x:=eD (Oo _)
structure xL where
 kind:Int
 block:Block
 Hl:sH
 oU:fY
 table:Table
 verdict:fL
 write:Int
 qM:Int
def kY (s:xL):List AV:=pX s.kind++(aT s.block++(gY s.Hl++(bZ s.oU++(cI s.table++(bW s.verdict++(pX s.write++(pX s.qM)))))))
@[simp] theorem CS (s:xL):(kY s).length=446:=by simp[kY]
theorem D7 (s:xL) (h0:Flat s.Hl.eU) (h1:Flat s.oU.first.eU) (h2:Flat s.oU.second.eU) (h3:Flat s.table.jO):∀x∈kY s,Flat x:=by
 intro x hx;simp only[kY,List.mem_append,List.mem_singleton] at hx;rcases hx with hx|hx|hx|hx|hx|hx|hx|hx
 ·(exact mI _ _ hx)
 ·(exact Cd _ _ hx)
 ·(exact So _ (by assumption) _ hx)
 ·(exact Ii _ (by assumption) (by assumption) _ hx)
 ·(exact Ij _ (by assumption) _ hx)
 ·(exact gM _ _ hx)
 ·(exact mI _ _ hx)
 ·(exact mI _ _ hx)
theorem ME (s:xL):(kY s)[0]? = some (.v (.int .i64 s.kind)):=rfl
theorem TG (s:xL) (x:Int):dJ (kY s) 0 ([.v (.int .i64 x)]) 1=kY { s with kind:=x }:=cJ (bC _)
theorem MF (s:xL):rd (kY s) 1 238=aT s.block:=(aZ rfl (bC _)).trans (gH (bM _))
theorem MG (s:xL) (x:Block):dJ (kY s) 1 (aT x) 239=kY { s with block:=x }:=(aD rfl rfl (bC _)).trans (bH (cJ (bM _)))
theorem YS (s:xL):rd (kY s) 239 67=gY s.Hl:=(aZ rfl (bC _)).trans ((aZ rfl (bM _)).trans (gH (iE _)))
theorem YT (s:xL) (x:sH):dJ (kY s) 239 (gY x) 306=kY { s with Hl:=x }:=(aD rfl rfl (bC _)).trans (bH ((aD rfl rfl (bM _)).trans (bH (cJ (iE _)))))
theorem Dj (s:xL):(kY s)[305]? = some (s.Hl.eU):=(aG rfl (bC _)).trans ((aG rfl (bM _)).trans ((eE (by rw[iE];decide)).trans (Fw _)))
theorem MH (s:xL):rd (kY s) 306 70=bZ s.oU:=(aZ rfl (bC _)).trans ((aZ rfl (bM _)).trans ((aZ rfl (iE _)).trans (gH (fP _))))
theorem MI (s:xL) (x:fY):dJ (kY s) 306 (bZ x) 376=kY { s with oU:=x }:=(aD rfl rfl (bC _)).trans (bH ((aD rfl rfl (bM _)).trans (bH ((aD rfl rfl (iE _)).trans (bH (cJ (fP _)))))))
theorem sO (s:xL):(kY s)[340]? = some (s.oU.first.eU):=(aG rfl (bC _)).trans ((aG rfl (bM _)).trans ((aG rfl (iE _)).trans ((eE (by rw[fP];decide)).trans (oI _))))
theorem rX (s:xL):(kY s)[375]? = some (s.oU.second.eU):=(aG rfl (bC _)).trans ((aG rfl (bM _)).trans ((aG rfl (iE _)).trans ((eE (by rw[fP];decide)).trans (nX _))))
theorem MJ (s:xL):rd (kY s) 376 34=cI s.table:=(aZ rfl (bC _)).trans ((aZ rfl (bM _)).trans ((aZ rfl (iE _)).trans ((aZ rfl (fP _)).trans (gH (fU _)))))
theorem MK (s:xL) (x:Table):dJ (kY s) 376 (cI x) 410=kY { s with table:=x }:=(aD rfl rfl (bC _)).trans (bH ((aD rfl rfl (bM _)).trans (bH ((aD rfl rfl (iE _)).trans (bH ((aD rfl rfl (fP _)).trans (bH (cJ (fU _)))))))))
theorem Bn (s:xL):(kY s)[409]? = some (s.table.jO):=(aG rfl (bC _)).trans ((aG rfl (bM _)).trans ((aG rfl (iE _)).trans ((aG rfl (fP _)).trans ((eE (by rw[fU];decide)).trans (Cm _)))))
theorem CT (s:xL):rd (kY s) 410 34=bW s.verdict:=(aZ rfl (bC _)).trans ((aZ rfl (bM _)).trans ((aZ rfl (iE _)).trans ((aZ rfl (fP _)).trans ((aZ rfl (fU _)).trans (gH (lY _))))))
theorem CU (s:xL) (x:fL):dJ (kY s) 410 (bW x) 444=kY { s with verdict:=x }:=(aD rfl rfl (bC _)).trans (bH ((aD rfl rfl (bM _)).trans (bH ((aD rfl rfl (iE _)).trans (bH ((aD rfl rfl (fP _)).trans (bH ((aD rfl rfl (fU _)).trans (bH (cJ (lY _)))))))))))
theorem FO (s:xL):(kY s)[444]? = some (.v (.int .i64 s.write)):=(aG rfl (bC _)).trans ((aG rfl (bM _)).trans ((aG rfl (iE _)).trans ((aG rfl (fP _)).trans ((aG rfl (fU _)).trans ((aG rfl (lY _)).trans (rfl))))))
theorem ML (s:xL) (x:Int):dJ (kY s) 444 ([.v (.int .i64 x)]) 445=kY { s with write:=x }:=(aD rfl rfl (bC _)).trans (bH ((aD rfl rfl (bM _)).trans (bH ((aD rfl rfl (iE _)).trans (bH ((aD rfl rfl (fP _)).trans (bH ((aD rfl rfl (fU _)).trans (bH ((aD rfl rfl (lY _)).trans (bH (cJ (bC _)))))))))))))
theorem MM (s:xL):(kY s)[445]? = some (.v (.int .i64 s.qM)):=(aG rfl (bC _)).trans ((aG rfl (bM _)).trans ((aG rfl (iE _)).trans ((aG rfl (fP _)).trans ((aG rfl (fU _)).trans ((aG rfl (lY _)).trans ((aG rfl (bC _)).trans (rfl)))))))
theorem TH (s:xL) (x:Int):dJ (kY s) 445 ([.v (.int .i64 x)]) 446=kY { s with qM:=x }:=(aD rfl rfl (bC _)).trans (bH ((aD rfl rfl (bM _)).trans (bH ((aD rfl rfl (iE _)).trans (bH ((aD rfl rfl (fP _)).trans (bH ((aD rfl rfl (fU _)).trans (bH ((aD rfl rfl (lY _)).trans (bH ((aD rfl rfl (bC _)).trans (bH (eD (bC _)))))))))))))))
def Aa:xL:=⟨0,fD,Lo,Uj,iV,Ag,0,0⟩
def aDi:List Value:=[.int .i64 0]++(Tx++(aAX++(Ez++(BY++(Dw++([.int .i64 0]++([.int .i64 0])))))))
theorem aAY:aDi.map AV.v=kY Aa:=by simp only[aDi,List.map_append,List.map_cons,List.map_nil,jM,jN,Rm,YM,Ji,BZ,Oh];rfl
theorem YU (s:xL):rd (kY s) 0 446=kY s:=iZ (CS _)
theorem YV (s x:xL):dJ (kY s) 0 (kY x) 446=kY x:=eD (CS _)
def cP (l:List kM):List AV:=l.flatMap jP
@[simp] theorem YW (l:List (kM)):(cP l).length=l.length * 34:=by
 induction l with
 | nil=>rfl
 | cons x l ih=>simp only[cP,List.flatMap_cons,List.length_append,rW,List.length_cons] at *;omega
theorem nF (l:List (kM)):∀x∈cP l,Flat x:=by
 intro x hx;obtain⟨y,_,hy⟩:=List.mem_flatMap.1 hx
 exact YK y x hy
def dD (l:List sH):List AV:=l.flatMap gY
@[simp] theorem aI1 (l:List (sH)):(dD l).length=l.length * 67:=by
 induction l with
 | nil=>rfl
 | cons x l ih=>simp only[dD,List.flatMap_cons,List.length_append,iE,List.length_cons] at *;omega
theorem tG (l:List (sH)) (h:∀y∈l,Flat y.eU):∀x∈dD l,Flat x:=by
 intro x hx;obtain⟨y,hm,hy⟩:=List.mem_flatMap.1 hx
 exact So y (h y hm) x hy
def aR (l:List Table):List AV:=l.flatMap cI
@[simp] theorem aE9 (l:List (Table)):(aR l).length=l.length * 34:=by
 induction l with
 | nil=>rfl
 | cons x l ih=>simp only[aR,List.flatMap_cons,List.length_append,fU,List.length_cons] at *;omega
theorem lS (l:List (Table)) (h:∀y∈l,Flat y.jO):∀x∈aR l,Flat x:=by
 intro x hx;obtain⟨y,hm,hy⟩:=List.mem_flatMap.1 hx
 exact Ij y (h y hm) x hy
def aA (l:List Request):List AV:=l.flatMap bN
@[simp] theorem lA (l:List (Request)):(aA l).length=l.length * 35:=by
 induction l with
 | nil=>rfl
 | cons x l ih=>simp only[aA,List.flatMap_cons,List.length_append,fZ,List.length_cons] at *;omega
theorem fJ (l:List (Request)):∀x∈aA l,Flat x:=by
 intro x hx;obtain⟨y,_,hy⟩:=List.mem_flatMap.1 hx
 exact gL y x hy
end Go.Ab
end
