/-
  Part 7 of the proof: an evaluator of programs, its soundness, and what functions of this program compute.
-/
import Derived.Test.YtmcjkemalibacaaGreatK6
set_option linter.all false
set_option maxRecDepth 20000
set_option maxHeartbeats 40000000
section
namespace Go.Ab
open Classical
variable [Ext]
noncomputable def BV (st:St) (cs:List AV):Option (List AV):=bP (cs.map (cM st))
theorem uL (st:St) (a b:List AV):BV st (a++b)=cC (BV st a) fun x=>cC (BV st b) fun y=>some (x++y):=by
 unfold BV;induction a with
 | nil=>simp[bP,cC];cases bP (b.map (cM st))<;>rfl
 | cons c a ih =>
   simp only[List.cons_append,List.map_cons];cases cM st c with
   | none=>rfl
   | some c' =>
     simp only[bP,ih];cases bP (a.map (cM st)) with
     | none=>rfl
     | some a' =>
       simp only[cC,Option.map_some];cases bP (b.map (cM st))<;>rfl
theorem wM (st:St) (x:AV):BV st [x]=cC (cM st x) fun y=>some [y]:=by
 unfold BV;simp only[List.map_cons,List.map_nil];cases cM st x<;>rfl
theorem jG {st:St} {cs:List AV} (h:∀c∈cs,Flat c):BV st cs=some cs:=by
 unfold BV;induction cs with
 | nil=>rfl
 | cons c cs ih =>
   simp only[List.map_cons,cH (h c (by simp)),bP,ih fun x hx=>h x (by simp[hx]),Option.map_some]
theorem bR (st:St) (cs:List AV):fU st (.agg cs)=cC (BV st cs) fun x=>some (.agg x):=by
 unfold fU;by_cases h:Flat (.agg cs)
 ·rw[if_pos h];have h':∀c∈cs,Flat c:=by cases h with|agg _ h=>exact h
  rw[jG h'];rfl
 ·rw[if_neg h];simp only[BV];cases bP (cs.map (cM st))<;>rfl
def ov {α:Type} (c:List α→List AV):Option (List α)→AV
 | none=>.v (.slice none 0 0)
 | some l=>.sl l.length (c l)
def ol {α:Type} (o:Option (List α)):List α:=o.getD []
theorem Vo {α:Type} (l:List α):ol (some l)=l:=rfl
theorem aEA {α:Type}:ol (none:Option (List α))=[]:=rfl
def gx {α:Type} (z:α) (l:List α) (i:Int):α:=l.getD i.toNat z
theorem XL {α:Type} {z:α} {l:List α} {i:Int} (h0:0≤i) (h1:i<l.length):∃h:i.toNat<l.length,gx z l i=l[i.toNat]:=by
 have h:i.toNat<l.length:=by omega
 exact⟨h,by simp[gx,h]⟩
theorem vP {α:Type} {z:α} {l:List α} {i:Int} (h0:0≤i) (h1:i<l.length):gx z l i∈l:=by
 obtain⟨h,e⟩:=XL (z:=z) h0 h1
 rw[e];exact List.getElem_mem h
def zM (l:List fV):List AV:=l.flatMap bZ
@[simp] theorem Xa (l:List (fV)):(zM l).length=l.length * 33:=by
 induction l with
 | nil=>rfl
 | cons x l ih=>simp only[zM,List.flatMap_cons,List.length_append,bS,List.length_cons] at *;omega
def aH (l:List Block):List AV:=l.flatMap aT
@[simp] theorem Bf (l:List (Block)):(aH l).length=l.length * 238:=by
 induction l with
 | nil=>rfl
 | cons x l ih=>simp only[aH,List.flatMap_cons,List.length_append,bO,List.length_cons] at *;omega
theorem pE (l:List (Block)):∀x∈aH l,Flat x:=by
 intro x hx;obtain⟨y,_,hy⟩:=List.mem_flatMap.1 hx
 exact Bm y x hy
def mX (l:List Bool):List AV:=l.flatMap vC
@[simp] theorem aIp (l:List (Bool)):(mX l).length=l.length * 1:=by
 induction l with
 | nil=>rfl
 | cons x l ih=>simp only[mX,List.flatMap_cons,List.length_append,gR,List.length_cons] at *;omega
theorem Sx (l:List (Bool)):∀x∈mX l,Flat x:=by
 intro x hx;obtain⟨y,_,hy⟩:=List.mem_flatMap.1 hx
 exact mM y x hy
structure wF where
 tag:Int
def lN (s:wF):List AV:=sQ s.tag
@[simp] theorem gS (s:wF):(lN s).length=1:=by simp[lN]
theorem Pg (s:wF):∀x∈lN s,Flat x:=by
 intro x hx;simp only[lN,List.mem_append,List.mem_singleton] at hx;(exact eA _ _ hx)
theorem RC (s:wF):∀x∈lN s,fJ x:=by
 intro x hx;simp only[lN,List.mem_append] at hx;exact PR _ _ hx
theorem Ac (s:wF):(lN s)[0]? = some (.v (.int .u64 s.tag)):=rfl
theorem Kj (s:wF) (x:Int):dM (lN s) 0 ([.v (.int .u64 x)]) 1=lN { s with tag:=x }:=eE (aV _)
def Vu:wF:=⟨0⟩
def Jh:List Value:=[.int .u64 0]
theorem Ji:Jh.map AV.v=lN Vu:=by simp only[Jh,List.map_append,List.map_cons,List.map_nil,jN,jO];rfl
def JO:List Bool:=[true]
theorem Ph (a b:wF):gW JO (lN a) (lN b):=(show gW [true] [_] [_] from ⟨rfl,trivial⟩)
theorem Tt (a b:wF):lN a=lN b↔a=b:=by
 refine⟨fun h=>?_,fun h=>by rw[h]⟩
 cases a;cases b
 simp only[lN] at h;have e0:=(Di _ _).1 h
 subst e0;rfl
structure gQ where
 tagged:wF
 kind:Int
 dT:cK
def dG (s:gQ):List AV:=lN s.tagged++(qA s.kind++(aX s.dT))
@[simp] theorem mE (s:gQ):(dG s).length=34:=by simp[dG]
theorem jT (s:gQ):∀x∈dG s,Flat x:=by
 intro x hx;simp only[dG,List.mem_append,List.mem_singleton] at hx;rcases hx with hx|hx|hx
 ·(exact Pg _ _ hx)
 ·(exact mK _ _ hx)
 ·(exact dL _ _ hx)
theorem Pj (s:gQ) (x:wF):dM (dG s) 0 (lN x) 1=dG { s with tagged:=x }:=cJ (gS _)
theorem Fh (s:gQ):(dG s)[0]? = some (.v (.int .u64 s.tagged.tag)):=(eH (by rw[gS];decide)).trans (Ac _)
theorem Ge (s:gQ) (x:Int):dM (dG s) 0 ([.v (.int .u64 x)]) 1=dG { s with tagged:={ s.tagged with tag:=x }}:=(uN (by rw[gS];decide)).trans (Fe (Kj _ x))
theorem Ry (s:gQ):(dG s)[1]? = some (.v (.int .i64 s.kind)):=(aG rfl (gS _)).trans (rfl)
theorem Un (s:gQ) (x:Int):dM (dG s) 1 ([.v (.int .i64 x)]) 2=dG { s with kind:=x }:=(aC rfl rfl (gS _)).trans (bH (cJ (bE _)))
theorem Pk (s:gQ):rd (dG s) 2 32=aX s.dT:=(aY rfl (gS _)).trans ((aY rfl (bE _)).trans (jB (aL _)))
theorem Pl (s:gQ) (x:cK):dM (dG s) 2 (aX x) 34=dG { s with dT:=x }:=(aC rfl rfl (gS _)).trans (bH ((aC rfl rfl (bE _)).trans (bH (eE (aL _)))))
def Zu:gQ:=⟨Vu,0,dO⟩
def Dd:List Value:=Jh++([.int .i64 0]++(tU))
theorem Mc:Dd.map AV.v=dG Zu:=by simp only[Dd,List.map_append,List.map_cons,List.map_nil,jN,jO,Ji];rfl
def RE:List Bool:=JO++([true]++(Fq))
theorem CY (a b:gQ):gW RE (dG a) (dG b):=(eT (Ph _ _) (eT (show gW [true] [_] [_] from ⟨rfl,trivial⟩) (mO _ _)))
theorem JP (a b:gQ):dG a=dG b↔a=b:=by
 refine⟨fun h=>?_,fun h=>by rw[h]⟩
 cases a;cases b
 simp only[dG] at h;obtain⟨h0,h⟩:=List.append_inj h (by simp)
 obtain⟨h1,h⟩:=List.append_inj h (by simp)
 have e0:=(Tt _ _).1 h0
 have e1:=(uO _ _).1 h1
 have e2:=(oP _ _).1 h
 subst e0 e1 e2;rfl
theorem Zv (s:gQ):rd (dG s) 0 34=dG s:=jB (mE _)
theorem Zw (s x:gQ):dM (dG s) 0 (dG x) 34=dG x:=eE (mE _)
structure lZ where
 sO:Int
 wU:Int
 qG:Int
 rE:Int
 oI:Int
 rU:Int
def fN (s:lZ):List AV:=qA s.sO++(qA s.wU++(qA s.qG++(qA s.rE++(qA s.oI++(sQ s.rU)))))
@[simp] theorem fZ (s:lZ):(fN s).length=6:=by simp[fN]
theorem uK (s:lZ):∀x∈fN s,Flat x:=by
 intro x hx;simp only[fN,List.mem_append,List.mem_singleton] at hx;rcases hx with hx|hx|hx|hx|hx|hx
 ·(exact mK _ _ hx)
 ·(exact mK _ _ hx)
 ·(exact mK _ _ hx)
 ·(exact mK _ _ hx)
 ·(exact mK _ _ hx)
 ·(exact eA _ _ hx)
theorem Dm (s:lZ):(fN s)[0]? = some (.v (.int .i64 s.sO)):=rfl
theorem Uo (s:lZ) (x:Int):dM (fN s) 0 ([.v (.int .i64 x)]) 1=fN { s with sO:=x }:=cJ (bE _)
theorem Dn (s:lZ):(fN s)[1]? = some (.v (.int .i64 s.wU)):=(aG rfl (bE _)).trans (rfl)
theorem Up (s:lZ) (x:Int):dM (fN s) 1 ([.v (.int .i64 x)]) 2=fN { s with wU:=x }:=(aC rfl rfl (bE _)).trans (bH (cJ (bE _)))
theorem Bn (s:lZ):(fN s)[2]? = some (.v (.int .i64 s.qG)):=(aG rfl (bE _)).trans ((aG rfl (bE _)).trans (rfl))
theorem Rz (s:lZ) (x:Int):dM (fN s) 2 ([.v (.int .i64 x)]) 3=fN { s with qG:=x }:=(aC rfl rfl (bE _)).trans (bH ((aC rfl rfl (bE _)).trans (bH (cJ (bE _)))))
theorem Bo (s:lZ):(fN s)[3]? = some (.v (.int .i64 s.rE)):=(aG rfl (bE _)).trans ((aG rfl (bE _)).trans ((aG rfl (bE _)).trans (rfl)))
theorem Sa (s:lZ) (x:Int):dM (fN s) 3 ([.v (.int .i64 x)]) 4=fN { s with rE:=x }:=(aC rfl rfl (bE _)).trans (bH ((aC rfl rfl (bE _)).trans (bH ((aC rfl rfl (bE _)).trans (bH (cJ (bE _)))))))
theorem Bp (s:lZ):(fN s)[4]? = some (.v (.int .i64 s.oI)):=(aG rfl (bE _)).trans ((aG rfl (bE _)).trans ((aG rfl (bE _)).trans ((aG rfl (bE _)).trans (rfl))))
theorem Sb (s:lZ) (x:Int):dM (fN s) 4 ([.v (.int .i64 x)]) 5=fN { s with oI:=x }:=(aC rfl rfl (bE _)).trans (bH ((aC rfl rfl (bE _)).trans (bH ((aC rfl rfl (bE _)).trans (bH ((aC rfl rfl (bE _)).trans (bH (cJ (bE _)))))))))
theorem Ad (s:lZ):(fN s)[5]? = some (.v (.int .u64 s.rU)):=(aG rfl (bE _)).trans ((aG rfl (bE _)).trans ((aG rfl (bE _)).trans ((aG rfl (bE _)).trans ((aG rfl (bE _)).trans (rfl)))))
theorem Pm (s:lZ) (x:Int):dM (fN s) 5 ([.v (.int .u64 x)]) 6=fN { s with rU:=x }:=(aC rfl rfl (bE _)).trans (bH ((aC rfl rfl (bE _)).trans (bH ((aC rfl rfl (bE _)).trans (bH ((aC rfl rfl (bE _)).trans (bH ((aC rfl rfl (bE _)).trans (bH (eE (aV _)))))))))))
def JQ:lZ:=⟨0,0,0,0,0,0⟩
def Pn:List Value:=[.int .i64 0]++([.int .i64 0]++([.int .i64 0]++([.int .i64 0]++([.int .i64 0]++([.int .u64 0])))))
theorem Sc:Pn.map AV.v=fN JQ:=by simp only[Pn,List.map_append,List.map_cons,List.map_nil,jN,jO];rfl
def u6:List Bool:=[true]++([true]++([true]++([true]++([true]++([true])))))
theorem JR (a b:lZ):gW u6 (fN a) (fN b):=(eT (show gW [true] [_] [_] from ⟨rfl,trivial⟩) (eT (show gW [true] [_] [_] from ⟨rfl,trivial⟩) (eT (show gW [true] [_] [_] from ⟨rfl,trivial⟩) (eT (show gW [true] [_] [_] from ⟨rfl,trivial⟩) (eT (show gW [true] [_] [_] from ⟨rfl,trivial⟩) (show gW [true] [_] [_] from ⟨rfl,trivial⟩))))))
theorem RF (a b:lZ):fN a=fN b↔a=b:=by
 refine⟨fun h=>?_,fun h=>by rw[h]⟩
 cases a;cases b
 simp only[fN] at h;obtain⟨h0,h⟩:=List.append_inj h (by simp)
 obtain⟨h1,h⟩:=List.append_inj h (by simp)
 obtain⟨h2,h⟩:=List.append_inj h (by simp)
 obtain⟨h3,h⟩:=List.append_inj h (by simp)
 obtain⟨h4,h⟩:=List.append_inj h (by simp)
 have e0:=(uO _ _).1 h0
 have e1:=(uO _ _).1 h1
 have e2:=(uO _ _).1 h2
 have e3:=(uO _ _).1 h3
 have e4:=(uO _ _).1 h4
 have e5:=(Di _ _).1 h
 subst e0 e1 e2 e3 e4 e5;rfl
structure Config where
 mL:lZ
 rD:Int
 Hf:Int
 BP:rT
 iA:cK
 jP:AV
def bV (s:Config):List AV:=fN s.mL++(sQ s.rD++(sQ s.Hf++(gE s.BP++(aX s.iA++([s.jP])))))
@[simp] theorem bM (s:Config):(bV s).length=45:=by simp[bV]
theorem uD (s:Config) (h0:Flat s.jP):∀x∈bV s,Flat x:=by
 intro x hx;simp only[bV,List.mem_append,List.mem_singleton] at hx;rcases hx with hx|hx|hx|hx|hx|hx
 ·(exact uK _ _ hx)
 ·(exact eA _ _ hx)
 ·(exact eA _ _ hx)
 ·(exact iO _ _ hx)
 ·(exact dL _ _ hx)
 ·(subst hx;assumption)
theorem CZ (s:Config):rd (bV s) 0 6=fN s.mL:=gI (fZ _)
theorem DA (s:Config) (x:lZ):dM (bV s) 0 (fN x) 6=bV { s with mL:=x }:=cJ (fZ _)
theorem xC (s:Config):(bV s)[0]? = some (.v (.int .i64 s.mL.sO)):=(eH (by rw[fZ];decide)).trans (Dm _)
theorem xD (s:Config):(bV s)[1]? = some (.v (.int .i64 s.mL.wU)):=(eH (by rw[fZ];decide)).trans (Dn _)
theorem vD (s:Config):(bV s)[2]? = some (.v (.int .i64 s.mL.qG)):=(eH (by rw[fZ];decide)).trans (Bn _)
theorem vE (s:Config):(bV s)[3]? = some (.v (.int .i64 s.mL.rE)):=(eH (by rw[fZ];decide)).trans (Bo _)
theorem vF (s:Config):(bV s)[4]? = some (.v (.int .i64 s.mL.oI)):=(eH (by rw[fZ];decide)).trans (Bp _)
theorem uS (s:Config):(bV s)[5]? = some (.v (.int .u64 s.mL.rU)):=(eH (by rw[fZ];decide)).trans (Ad _)
theorem Ib (s:Config):(bV s)[6]? = some (.v (.int .u64 s.rD)):=(aG rfl (fZ _)).trans (rfl)
theorem DB (s:Config) (x:Int):dM (bV s) 6 ([.v (.int .u64 x)]) 7=bV { s with rD:=x }:=(aC rfl rfl (fZ _)).trans (bH (cJ (aV _)))
theorem Po (s:Config):(bV s)[7]? = some (.v (.int .u64 s.Hf)):=(aG rfl (fZ _)).trans ((aG rfl (aV _)).trans (rfl))
theorem Sd (s:Config) (x:Int):dM (bV s) 7 ([.v (.int .u64 x)]) 8=bV { s with Hf:=x }:=(aC rfl rfl (fZ _)).trans (bH ((aC rfl rfl (aV _)).trans (bH (cJ (aV _)))))
theorem Kk (s:Config):rd (bV s) 8 4=gE s.BP:=(aY rfl (fZ _)).trans ((aY rfl (aV _)).trans ((aY rfl (aV _)).trans (gI (dS _))))
theorem DC (s:Config) (x:rT):dM (bV s) 8 (gE x) 12=bV { s with BP:=x }:=(aC rfl rfl (fZ _)).trans (bH ((aC rfl rfl (aV _)).trans (bH ((aC rfl rfl (aV _)).trans (bH (cJ (dS _)))))))
theorem Pp (s:Config):rd (bV s) 12 32=aX s.iA:=(aY rfl (fZ _)).trans ((aY rfl (aV _)).trans ((aY rfl (aV _)).trans ((aY rfl (dS _)).trans (gI (aL _)))))
theorem Pq (s:Config) (x:cK):dM (bV s) 12 (aX x) 44=bV { s with iA:=x }:=(aC rfl rfl (fZ _)).trans (bH ((aC rfl rfl (aV _)).trans (bH ((aC rfl rfl (aV _)).trans (bH ((aC rfl rfl (dS _)).trans (bH (cJ (aL _)))))))))
theorem zH (s:Config):(bV s)[44]? = some (s.jP):=(aG rfl (fZ _)).trans ((aG rfl (aV _)).trans ((aG rfl (aV _)).trans ((aG rfl (dS _)).trans ((aG rfl (aL _)).trans (rfl)))))
theorem Kl (s:Config) (x:AV):dM (bV s) 44 ([x]) 45=bV { s with jP:=x }:=(aC rfl rfl (fZ _)).trans (bH ((aC rfl rfl (aV _)).trans (bH ((aC rfl rfl (aV _)).trans (bH ((aC rfl rfl (dS _)).trans (bH ((aC rfl rfl (aL _)).trans (bH (eE rfl))))))))))
def nY:Config:=⟨JQ,0,0,FX,dO,(.v (.slice none 0 0))⟩
def Ps:List Value:=Pn++([.int .u64 0]++([.int .u64 0]++(Zo++(tU++([.slice none 0 0])))))
theorem Se:Ps.map AV.v=bV nY:=by simp only[Ps,List.map_append,List.map_cons,List.map_nil,jN,jO,Sc];rfl
theorem Xv (st:St) (s:Config):BV st (bV s)=cC (cM st s.jP) fun aBH=>some (bV { s with jP:=aBH }):=by
 simp only[bV,uL,jG (uK _),jG (eA _),jG (iO _),jG (dL _),wM,mZ,cW]
theorem DD (s:Config):rd (bV s) 0 45=bV s:=jB (bM _)
theorem DE (s x:Config):dM (bV s) 0 (bV x) 45=bV x:=eE (bM _)
structure kS where
 has:Bool
 aK:Int
 root:cK
def jQ (s:kS):List AV:=vC s.has++(sQ s.aK++(aX s.root))
@[simp] theorem rZ (s:kS):(jQ s).length=34:=by simp[jQ]
theorem XM (s:kS):∀x∈jQ s,Flat x:=by
 intro x hx;simp only[jQ,List.mem_append,List.mem_singleton] at hx;rcases hx with hx|hx|hx
 ·(exact mM _ _ hx)
 ·(exact eA _ _ hx)
 ·(exact dL _ _ hx)
theorem JS (s:kS):(jQ s)[0]? = some (.v (.bool s.has)):=rfl
theorem RH (s:kS) (x:Bool):dM (jQ s) 0 ([.v (.bool x)]) 1=jQ { s with has:=x }:=cJ (gR _)
theorem Zx (s:kS):(jQ s)[1]? = some (.v (.int .u64 s.aK)):=(aG rfl (gR _)).trans (rfl)
theorem DF (s:kS) (x:Int):dM (jQ s) 1 ([.v (.int .u64 x)]) 2=jQ { s with aK:=x }:=(aC rfl rfl (gR _)).trans (bH (cJ (aV _)))
theorem JT (s:kS):rd (jQ s) 2 32=aX s.root:=(aY rfl (gR _)).trans ((aY rfl (aV _)).trans (jB (aL _)))
theorem JU (s:kS) (x:cK):dM (jQ s) 2 (aX x) 34=jQ { s with root:=x }:=(aC rfl rfl (gR _)).trans (bH ((aC rfl rfl (aV _)).trans (bH (eE (aL _)))))
def tT:kS:=⟨false,0,dO⟩
def u7:List Value:=[.bool false]++([.int .u64 0]++(tU))
theorem u9:u7.map AV.v=jQ tT:=by simp only[u7,List.map_append,List.map_cons,List.map_nil,jN,jO];rfl
def aGt:List Bool:=[false]++([true]++(Fq))
theorem XN (a b:kS):gW aGt (jQ a) (jQ b):=(eT (show gW [false] [_] [_] from trivial) (eT (show gW [true] [_] [_] from ⟨rfl,trivial⟩) (mO _ _)))
theorem J9 (a b:kS):jQ a=jQ b↔a=b:=by
 refine⟨fun h=>?_,fun h=>by rw[h]⟩
 cases a;cases b
 simp only[jQ] at h;obtain⟨h0,h⟩:=List.append_inj h (by simp)
 obtain⟨h1,h⟩:=List.append_inj h (by simp)
 have e0:=(FW _ _).1 h0
 have e1:=(Di _ _).1 h1
 have e2:=(oP _ _).1 h
 subst e0 e1 e2;rfl
theorem RI (s:kS):rd (jQ s) 0 34=jQ s:=jB (rZ _)
theorem RJ (s x:kS):dM (jQ s) 0 (jQ x) 34=jQ x:=eE (rZ _)
structure sJ where
 slot:Int
 root:cK
 target:fV
 eW:AV
def hU (s:sJ):List AV:=sQ s.slot++(aX s.root++(bZ s.target++([s.eW])))
@[simp] theorem iF (s:sJ):(hU s).length=67:=by simp[hU]
theorem Qi (s:sJ) (h0:Flat s.eW):∀x∈hU s,Flat x:=by
 intro x hx;simp only[hU,List.mem_append,List.mem_singleton] at hx;rcases hx with hx|hx|hx|hx
 ·(exact eA _ _ hx)
 ·(exact dL _ _ hx)
 ·(exact dD _ _ hx)
 ·(subst hx;assumption)
theorem JV (s:sJ):(hU s)[0]? = some (.v (.int .u64 s.slot)):=rfl
theorem RK (s:sJ) (x:Int):dM (hU s) 0 ([.v (.int .u64 x)]) 1=hU { s with slot:=x }:=cJ (aV _)
theorem RL (s:sJ):rd (hU s) 1 32=aX s.root:=(aY rfl (aV _)).trans (gI (aL _))
theorem RM (s:sJ) (x:cK):dM (hU s) 1 (aX x) 33=hU { s with root:=x }:=(aC rfl rfl (aV _)).trans (bH (cJ (aL _)))
theorem DG (s:sJ):rd (hU s) 33 33=bZ s.target:=(aY rfl (aV _)).trans ((aY rfl (aL _)).trans (gI (bS _)))
theorem DH (s:sJ) (x:fV):dM (hU s) 33 (bZ x) 66=hU { s with target:=x }:=(aC rfl rfl (aV _)).trans (bH ((aC rfl rfl (aL _)).trans (bH (cJ (bS _)))))
theorem Ic (s:sJ):(hU s)[33]? = some (.v (.int .u64 s.target.aK)):=(aG rfl (aV _)).trans ((aG rfl (aL _)).trans ((eH (by rw[bS];decide)).trans (kD _)))
theorem Jq (s:sJ) (x:Int):dM (hU s) 33 ([.v (.int .u64 x)]) 34=hU { s with target:={ s.target with aK:=x }}:=(aC rfl rfl (aV _)).trans (bH ((aC rfl rfl (aL _)).trans (bH ((uN (by rw[bS];decide)).trans (Fe (Cf _ x))))))
theorem Md (s:sJ):rd (hU s) 34 32=aX s.target.root:=(aY rfl (aV _)).trans ((aY rfl (aL _)).trans ((sT (by rw[bS];decide)).trans (uP _)))
theorem Me (s:sJ) (x:cK):dM (hU s) 34 (aX x) 66=hU { s with target:={ s.target with root:=x }}:=(aC rfl rfl (aV _)).trans (bH ((aC rfl rfl (aL _)).trans (bH ((uN (by rw[bS];decide)).trans (Fe (Ff _ x))))))
theorem Ei (s:sJ):(hU s)[66]? = some (s.eW):=(aG rfl (aV _)).trans ((aG rfl (aL _)).trans ((aG rfl (bS _)).trans (rfl)))
theorem RN (s:sJ) (x:AV):dM (hU s) 66 ([x]) 67=hU { s with eW:=x }:=(aC rfl rfl (aV _)).trans (bH ((aC rfl rfl (aL _)).trans (bH ((aC rfl rfl (bS _)).trans (bH (eE rfl))))))
def Jm:sJ:=⟨0,dO,gZ,(.v (.slice none 0 0))⟩
def aBI:List Value:=[.int .u64 0]++(tU++(Ct++([.slice none 0 0])))
theorem XO:aBI.map AV.v=hU Jm:=by simp only[aBI,List.map_append,List.map_cons,List.map_nil,jN,jO,Bb];rfl
theorem lY (st:St) (s:sJ):BV st (hU s)=cC (cM st s.eW) fun XP=>some (hU { s with eW:=XP }):=by
 simp only[hU,uL,jG (eA _),jG (dL _),jG (dD _),wM,mZ,cW]
theorem XQ (s:sJ):rd (hU s) 0 67=hU s:=jB (iF _)
theorem XR (s x:sJ):dM (hU s) 0 (hU x) 67=hU x:=eE (iF _)
structure Claim where
 source:Int
 target:Int
 root:cK
 eW:AV
def gO (s:Claim):List AV:=sQ s.source++(sQ s.target++(aX s.root++([s.eW])))
@[simp] theorem iP (s:Claim):(gO s).length=35:=by simp[gO]
theorem Gy (s:Claim) (h0:Flat s.eW):∀x∈gO s,Flat x:=by
 intro x hx;simp only[gO,List.mem_append,List.mem_singleton] at hx;rcases hx with hx|hx|hx|hx
 ·(exact eA _ _ hx)
 ·(exact eA _ _ hx)
 ·(exact dL _ _ hx)
 ·(subst hx;assumption)
theorem wG (s:Claim):(gO s)[0]? = some (.v (.int .u64 s.source)):=rfl
theorem Ft (s:Claim) (x:Int):dM (gO s) 0 ([.v (.int .u64 x)]) 1=gO { s with source:=x }:=cJ (aV _)
theorem wH (s:Claim):(gO s)[1]? = some (.v (.int .u64 s.target)):=(aG rfl (aV _)).trans (rfl)
theorem Fu (s:Claim) (x:Int):dM (gO s) 1 ([.v (.int .u64 x)]) 2=gO { s with target:=x }:=(aC rfl rfl (aV _)).trans (bH (cJ (aV _)))
theorem DI (s:Claim):rd (gO s) 2 32=aX s.root:=(aY rfl (aV _)).trans ((aY rfl (aV _)).trans (gI (aL _)))
theorem Km (s:Claim) (x:cK):dM (gO s) 2 (aX x) 34=gO { s with root:=x }:=(aC rfl rfl (aV _)).trans (bH ((aC rfl rfl (aV _)).trans (bH (cJ (aL _)))))
theorem uG (s:Claim):(gO s)[34]? = some (s.eW):=(aG rfl (aV _)).trans ((aG rfl (aV _)).trans ((aG rfl (aL _)).trans (rfl)))
theorem DJ (s:Claim) (x:AV):dM (gO s) 34 ([x]) 35=gO { s with eW:=x }:=(aC rfl rfl (aV _)).trans (bH ((aC rfl rfl (aV _)).trans (bH ((aC rfl rfl (aL _)).trans (bH (eE rfl))))))
def JW:Claim:=⟨0,0,dO,(.v (.slice none 0 0))⟩
def Sf:List Value:=[.int .u64 0]++([.int .u64 0]++(tU++([.slice none 0 0])))
theorem Zy:Sf.map AV.v=gO JW:=by simp only[Sf,List.map_append,List.map_cons,List.map_nil,jN,jO];rfl
theorem vT (st:St) (s:Claim):BV st (gO s)=cC (cM st s.eW) fun XP=>some (gO { s with eW:=XP }):=by
 simp only[gO,uL,jG (eA _),jG (dL _),wM,mZ,cW]
structure fW where
 first:Claim
 second:Claim
def cA (s:fW):List AV:=gO s.first++(gO s.second)
@[simp] theorem fM (s:fW):(cA s).length=70:=by simp[cA]
theorem Gz (s:fW) (h0:Flat s.first.eW) (h1:Flat s.second.eW):∀x∈cA s,Flat x:=by
 intro x hx;simp only[cA,List.mem_append,List.mem_singleton] at hx;rcases hx with hx|hx
 ·(exact Gy _ (by assumption) _ hx)
 ·(exact Gy _ (by assumption) _ hx)
theorem Pt (s:fW):rd (cA s) 0 35=gO s.first:=gI (iP _)
theorem Pu (s:fW) (x:Claim):dM (cA s) 0 (gO x) 35=cA { s with first:=x }:=cJ (iP _)
theorem An (s:fW):(cA s)[0]? = some (.v (.int .u64 s.first.source)):=(eH (by rw[iP];decide)).trans (wG _)
theorem Ao (s:fW):(cA s)[1]? = some (.v (.int .u64 s.first.target)):=(eH (by rw[iP];decide)).trans (wH _)
theorem oH (s:fW):(cA s)[34]? = some (s.first.eW):=(eH (by rw[iP];decide)).trans (uG _)
theorem Mf (s:fW):rd (cA s) 35 35=gO s.second:=(aY rfl (iP _)).trans (jB (iP _))
theorem Mg (s:fW) (x:Claim):dM (cA s) 35 (gO x) 70=cA { s with second:=x }:=(aC rfl rfl (iP _)).trans (bH (eE (iP _)))
theorem Ae (s:fW):(cA s)[35]? = some (.v (.int .u64 s.second.source)):=(aG rfl (iP _)).trans (wG _)
theorem Ap (s:fW) (x:Int):dM (cA s) 35 ([.v (.int .u64 x)]) 36=cA { s with second:={ s.second with source:=x }}:=(aC rfl rfl (iP _)).trans (bH (Ft _ x))
theorem Af (s:fW):(cA s)[36]? = some (.v (.int .u64 s.second.target)):=(aG rfl (iP _)).trans (wH _)
theorem Aq (s:fW) (x:Int):dM (cA s) 36 ([.v (.int .u64 x)]) 37=cA { s with second:={ s.second with target:=x }}:=(aC rfl rfl (iP _)).trans (bH (Fu _ x))
theorem Dp (s:fW) (x:cK):dM (cA s) 37 (aX x) 69=cA { s with second:={ s.second with root:=x }}:=(aC rfl rfl (iP _)).trans (bH (Km _ x))
theorem nP (s:fW):(cA s)[69]? = some (s.second.eW):=(aG rfl (iP _)).trans (uG _)
def Sg:fW:=⟨JW,JW⟩
def Dq:List Value:=Sf++(Sf)
theorem Ie:Dq.map AV.v=cA Sg:=by simp only[Dq,List.map_append,List.map_cons,List.map_nil,jN,jO,Zy];rfl
theorem rW (st:St) (s:fW):BV st (cA s)=cC (cM st s.first.eW) fun x_first_vals=>cC (cM st s.second.eW) fun x_second_vals=>some (cA { s with first:={ s.first with eW:=x_first_vals },second:={ s.second with eW:=x_second_vals }}):=by
 simp only[cA,uL,vT,mZ,cW]
theorem Uq (s:fW):rd (cA s) 0 70=cA s:=jB (fM _)
theorem Ur (s x:fW):dM (cA s) 0 (cA x) 70=cA x:=eE (fM _)
structure Table where
 ck:fV
 jP:AV
def cI (s:Table):List AV:=bZ s.ck++([s.jP])
@[simp] theorem fR (s:Table):(cI s).length=34:=by simp[cI]
theorem Ha (s:Table) (h0:Flat s.jP):∀x∈cI s,Flat x:=by
 intro x hx;simp only[cI,List.mem_append,List.mem_singleton] at hx;rcases hx with hx|hx
 ·(exact dD _ _ hx)
 ·(subst hx;assumption)
theorem RO (s:Table):rd (cI s) 0 33=bZ s.ck:=gI (bS _)
theorem RP (s:Table) (x:fV):dM (cI s) 0 (bZ x) 33=cI { s with ck:=x }:=cJ (bS _)
theorem Mh (s:Table):(cI s)[0]? = some (.v (.int .u64 s.ck.aK)):=(eH (by rw[bS];decide)).trans (kD _)
theorem Sh (s:Table):rd (cI s) 1 32=aX s.ck.root:=(sT (by rw[bS];decide)).trans (uP _)
theorem Bw (s:Table):(cI s)[33]? = some (s.jP):=(aG rfl (bS _)).trans (rfl)
theorem JX (s:Table) (x:AV):dM (cI s) 33 ([x]) 34=cI { s with jP:=x }:=(aC rfl rfl (bS _)).trans (bH (eE rfl))
def iY:Table:=⟨gZ,(.v (.slice none 0 0))⟩
def Zz:List Value:=Ct++([.slice none 0 0])
theorem AA:Zz.map AV.v=cI iY:=by simp only[Zz,List.map_append,List.map_cons,List.map_nil,jN,jO,Bb];rfl
theorem tS (st:St) (s:Table):BV st (cI s)=cC (cM st s.jP) fun aBH=>some (cI { s with jP:=aBH }):=by
 simp only[cI,uL,jG (dD _),wM,mZ,cW]
theorem JY (s:Table):rd (cI s) 0 34=cI s:=jB (fR _)
theorem JZ (s x:Table):dM (cI s) 0 (cI x) 34=cI x:=eE (fR _)
structure Request where
 tagged:wF
 block:cK
 tries:Int
 due:Int
def bU (s:Request):List AV:=lN s.tagged++(aX s.block++(qA s.tries++(sQ s.due)))
@[simp] theorem fY (s:Request):(bU s).length=35:=by simp[bU]
theorem jS (s:Request):∀x∈bU s,Flat x:=by
 intro x hx;simp only[bU,List.mem_append,List.mem_singleton] at hx;rcases hx with hx|hx|hx|hx
 ·(exact Pg _ _ hx)
 ·(exact dL _ _ hx)
 ·(exact mK _ _ hx)
 ·(exact eA _ _ hx)
theorem HK (s:Request):∀x∈bU s,fJ x:=by
 intro x hx;simp only[bU,List.mem_append] at hx;rcases hx with hx|hx|hx|hx
 ·exact RC _ _ hx
 ·exact I3 _ _ hx
 ·exact aBf _ _ hx
 ·exact PR _ _ hx
theorem Pv (s:Request) (x:wF):dM (bU s) 0 (lN x) 1=bU { s with tagged:=x }:=cJ (gS _)
theorem Fi (s:Request):(bU s)[0]? = some (.v (.int .u64 s.tagged.tag)):=(eH (by rw[gS];decide)).trans (Ac _)
theorem Si (s:Request):rd (bU s) 1 32=aX s.block:=(aY rfl (gS _)).trans (gI (aL _))
theorem Sj (s:Request) (x:cK):dM (bU s) 1 (aX x) 33=bU { s with block:=x }:=(aC rfl rfl (gS _)).trans (bH (cJ (aL _)))
theorem Pw (s:Request):(bU s)[33]? = some (.v (.int .i64 s.tries)):=(aG rfl (gS _)).trans ((aG rfl (aL _)).trans (rfl))
theorem Sk (s:Request) (x:Int):dM (bU s) 33 ([.v (.int .i64 x)]) 34=bU { s with tries:=x }:=(aC rfl rfl (gS _)).trans (bH ((aC rfl rfl (aL _)).trans (bH (cJ (bE _)))))
theorem Us (s:Request):(bU s)[34]? = some (.v (.int .u64 s.due)):=(aG rfl (gS _)).trans ((aG rfl (aL _)).trans ((aG rfl (bE _)).trans (rfl)))
theorem AB (s:Request) (x:Int):dM (bU s) 34 ([.v (.int .u64 x)]) 35=bU { s with due:=x }:=(aC rfl rfl (gS _)).trans (bH ((aC rfl rfl (aL _)).trans (bH ((aC rfl rfl (bE _)).trans (bH (eE (aV _)))))))
def bK:Request:=⟨Vu,dO,0,0⟩
def Dc:List Value:=Jh++(tU++([.int .i64 0]++([.int .u64 0])))
theorem AD:Dc.map AV.v=bU bK:=by simp only[Dc,List.map_append,List.map_cons,List.map_nil,jN,jO,Ji];rfl
def RQ:List Bool:=JO++(Fq++([true]++([true])))
theorem DK (a b:Request):gW RQ (bU a) (bU b):=(eT (Ph _ _) (eT (mO _ _) (eT (show gW [true] [_] [_] from ⟨rfl,trivial⟩) (show gW [true] [_] [_] from ⟨rfl,trivial⟩))))
theorem KA (a b:Request):bU a=bU b↔a=b:=by
 refine⟨fun h=>?_,fun h=>by rw[h]⟩
 cases a;cases b
 simp only[bU] at h;obtain⟨h0,h⟩:=List.append_inj h (by simp)
 obtain⟨h1,h⟩:=List.append_inj h (by simp)
 obtain⟨h2,h⟩:=List.append_inj h (by simp)
 have e0:=(Tt _ _).1 h0
 have e1:=(oP _ _).1 h1
 have e2:=(uO _ _).1 h2
 have e3:=(Di _ _).1 h
 subst e0 e1 e2 e3;rfl
theorem AE (s:Request):rd (bU s) 0 35=bU s:=jB (fY _)
theorem AF (s x:Request):dM (bU s) 0 (bU x) 35=bU x:=eE (fY _)
structure Command where
 head:cK
 safe:cK
 fin:cK
def eD (s:Command):List AV:=aX s.head++(aX s.safe++(aX s.fin))
@[simp] theorem mF (s:Command):(eD s).length=96:=by simp[eD]
theorem lD (s:Command):∀x∈eD s,Flat x:=by
 intro x hx;simp only[eD,List.mem_append,List.mem_singleton] at hx;rcases hx with hx|hx|hx
 ·(exact dL _ _ hx)
 ·(exact dL _ _ hx)
 ·(exact dL _ _ hx)
theorem Ut (s:Command) (x:cK):dM (eD s) 0 (aX x) 32=eD { s with head:=x }:=cJ (aL _)
theorem Uu (s:Command) (x:cK):dM (eD s) 32 (aX x) 64=eD { s with safe:=x }:=(aC rfl rfl (aL _)).trans (bH (cJ (aL _)))
theorem AG (s:Command) (x:cK):dM (eD s) 64 (aX x) 96=eD { s with fin:=x }:=(aC rfl rfl (aL _)).trans (bH ((aC rfl rfl (aL _)).trans (bH (eE (aL _)))))
def AH:Command:=⟨dO,dO,dO⟩
def Ig:List Value:=tU++(tU++(tU))
theorem Mi:Ig.map AV.v=eD AH:=by simp only[Ig,List.map_append,List.map_cons,List.map_nil,jN,jO];rfl
def RR:List Bool:=Fq++(Fq++(Fq))
theorem DL (a b:Command):gW RR (eD a) (eD b):=(eT (mO _ _) (eT (mO _ _) (mO _ _)))
theorem KB (a b:Command):eD a=eD b↔a=b:=by
 refine⟨fun h=>?_,fun h=>by rw[h]⟩
 cases a;cases b
 simp only[eD] at h;obtain⟨h0,h⟩:=List.append_inj h (by simp)
 obtain⟨h1,h⟩:=List.append_inj h (by simp)
 have e0:=(oP _ _).1 h0
 have e1:=(oP _ _).1 h1
 have e2:=(oP _ _).1 h
 subst e0 e1 e2;rfl
theorem AI (s:Command):rd (eD s) 0 96=eD s:=jB (mF _)
theorem AJ (s x:Command):dM (eD s) 0 (eD x) 96=eD x:=eE (mF _)
structure uZ where
 dT:AV
 gX:AV
def fB (s:uZ):List AV:=[s.dT]++([s.gX])
@[simp] theorem dE (s:uZ):(fB s).length=2:=by simp[fB]
theorem qV (s:uZ) (h0:Flat s.dT) (h1:Flat s.gX):∀x∈fB s,Flat x:=by
 intro x hx;simp only[fB,List.mem_append,List.mem_singleton] at hx;rcases hx with hx|hx
 ·(subst hx;assumption)
 ·(subst hx;assumption)
theorem vM (s:uZ):(fB s)[0]? = some (s.dT):=rfl
theorem Fv (s:uZ) (x:AV):dM (fB s) 0 ([x]) 1=fB { s with dT:=x }:=cJ rfl
theorem xJ (s:uZ):(fB s)[1]? = some (s.gX):=(aG rfl rfl).trans (rfl)
theorem Ih (s:uZ) (x:AV):dM (fB s) 1 ([x]) 2=fB { s with gX:=x }:=(aC rfl rfl rfl).trans (bH (eE rfl))
def Lg:uZ:=⟨(.v (.slice none 0 0)),(.v (.slice none 0 0))⟩
def AK:List Value:=[.slice none 0 0]++([.slice none 0 0])
theorem AL:AK.map AV.v=fB Lg:=by simp only[AK,List.map_append,List.map_cons,List.map_nil,jN,jO];rfl
theorem K1 (st:St) (s:uZ):BV st (fB s)=cC (cM st s.dT) fun x_latest=>cC (cM st s.gX) fun x_equiv=>some (fB { s with dT:=x_latest,gX:=x_equiv }):=by
 simp only[fB,uL,wM,mZ,cW]
theorem KC (s:uZ):rd (fB s) 0 2=fB s:=jB (dE _)
theorem KD (s x:uZ):dM (fB s) 0 (fB x) 2=fB x:=eE (dE _)
structure kP where
 gY:fV
 fin:fV
def eU (s:kP):List AV:=bZ s.gY++(bZ s.fin)
@[simp] theorem cX (s:kP):(eU s).length=66:=by simp[eU]
theorem lF (s:kP):∀x∈eU s,Flat x:=by
 intro x hx;simp only[eU,List.mem_append,List.mem_singleton] at hx;rcases hx with hx|hx
 ·(exact dD _ _ hx)
 ·(exact dD _ _ hx)
theorem Dr (s:kP):rd (eU s) 0 33=bZ s.gY:=gI (bS _)
theorem Ds (s:kP) (x:fV):dM (eU s) 0 (bZ x) 33=eU { s with gY:=x }:=cJ (bS _)
theorem tW (s:kP):(eU s)[0]? = some (.v (.int .u64 s.gY.aK)):=(eH (by rw[bS];decide)).trans (kD _)
theorem vG (s:kP):rd (eU s) 1 32=aX s.gY.root:=(sT (by rw[bS];decide)).trans (uP _)
theorem Fw (s:kP):rd (eU s) 33 33=bZ s.fin:=(aY rfl (bS _)).trans (jB (bS _))
theorem Fx (s:kP) (x:fV):dM (eU s) 33 (bZ x) 66=eU { s with fin:=x }:=(aC rfl rfl (bS _)).trans (bH (eE (bS _)))
theorem uT (s:kP):(eU s)[33]? = some (.v (.int .u64 s.fin.aK)):=(aG rfl (bS _)).trans (kD _)
theorem xE (s:kP):rd (eU s) 34 32=aX s.fin.root:=(aY rfl (bS _)).trans (uP _)
def Sl:kP:=⟨gZ,gZ⟩
def Dt:List Value:=Ct++(Ct)
theorem Ii:Dt.map AV.v=eU Sl:=by simp only[Dt,List.map_append,List.map_cons,List.map_nil,jN,jO,Bb];rfl
def FY:List Bool:=Tr++(Tr)
theorem AM (a b:kP):gW FY (eU a) (eU b):=(eT (tL _ _) (tL _ _))
theorem DM (a b:kP):eU a=eU b↔a=b:=by
 refine⟨fun h=>?_,fun h=>by rw[h]⟩
 cases a;cases b
 simp only[eU] at h;obtain⟨h0,h⟩:=List.append_inj h (by simp)
 have e0:=(mY _ _).1 h0
 have e1:=(mY _ _).1 h
 subst e0 e1;rfl
structure zI where
 early:AV
 bW:AV
def jY (s:zI):List AV:=[s.early]++([s.bW])
@[simp] theorem iG (s:zI):(jY s).length=2:=by simp[jY]
theorem Ni (s:zI) (h0:Flat s.early) (h1:Flat s.bW):∀x∈jY s,Flat x:=by
 intro x hx;simp only[jY,List.mem_append,List.mem_singleton] at hx;rcases hx with hx|hx
 ·(subst hx;assumption)
 ·(subst hx;assumption)
theorem vN (s:zI):(jY s)[0]? = some (s.early):=rfl
theorem Fy (s:zI) (x:AV):dM (jY s) 0 ([x]) 1=jY { s with early:=x }:=cJ rfl
theorem tE (s:zI):(jY s)[1]? = some (s.bW):=(aG rfl rfl).trans (rfl)
theorem Bq (s:zI) (x:AV):dM (jY s) 1 ([x]) 2=jY { s with bW:=x }:=(aC rfl rfl rfl).trans (bH (eE rfl))
def Ep:zI:=⟨(.v (.slice none 0 0)),(.v (.slice none 0 0))⟩
def Vv:List Value:=[.slice none 0 0]++([.slice none 0 0])
theorem FZ:Vv.map AV.v=jY Ep:=by simp only[Vv,List.map_append,List.map_cons,List.map_nil,jN,jO];rfl
theorem XS (st:St) (s:zI):BV st (jY s)=cC (cM st s.early) fun x_early=>cC (cM st s.bW) fun x_orphans=>some (jY { s with early:=x_early,bW:=x_orphans }):=by
 simp only[jY,uL,wM,mZ,cW]
structure Fo where
 nodes:AV
def mW (s:Fo):List AV:=[s.nodes]
@[simp] theorem mP (s:Fo):(mW s).length=1:=by simp[mW]
theorem wT (s:Fo) (h0:Flat s.nodes):∀x∈mW s,Flat x:=by
 intro x hx;simp only[mW,List.mem_append,List.mem_singleton] at hx;(subst hx;assumption)
theorem xK (s:Fo):(mW s)[0]? = some (s.nodes):=rfl
theorem Ij (s:Fo) (x:AV):dM (mW s) 0 ([x]) 1=mW { s with nodes:=x }:=eE rfl
def Qn:Fo:=⟨(.v (.slice none 0 0))⟩
def XT:List Value:=[.slice none 0 0]
theorem RS:XT.map AV.v=mW Qn:=by simp only[XT,List.map_append,List.map_cons,List.map_nil,jN,jO];rfl
theorem K2 (st:St) (s:Fo):BV st (mW s)=cC (cM st s.nodes) fun x_nodes=>some (mW { s with nodes:=x_nodes }):=by
 simp only[mW,uL,wM,mZ,cW]
structure aM where
 cFg:Config
 gG:uZ
 bN:kP
 dV:zI
 tree:Fo
 now:Int
 iR:cK
 tables:AV
def aB (s:aM):List AV:=bV s.cFg++(fB s.gG++(eU s.bN++(jY s.dV++(mW s.tree++(sQ s.now++(aX s.iR++([s.tables])))))))
@[simp] theorem cT (s:aM):(aB s).length=150:=by simp[aB]
theorem Sw (s:aM) (h0:Flat s.cFg.jP) (h1:Flat s.gG.dT) (h2:Flat s.gG.gX) (h3:Flat s.dV.early) (h4:Flat s.dV.bW) (h5:Flat s.tree.nodes) (h6:Flat s.tables):∀x∈aB s,Flat x:=by
 intro x hx;simp only[aB,List.mem_append,List.mem_singleton] at hx;rcases hx with hx|hx|hx|hx|hx|hx|hx|hx
 ·(exact uD _ (by assumption) _ hx)
 ·(exact qV _ (by assumption) (by assumption) _ hx)
 ·(exact lF _ _ hx)
 ·(exact Ni _ (by assumption) (by assumption) _ hx)
 ·(exact wT _ (by assumption) _ hx)
 ·(exact eA _ _ hx)
 ·(exact dL _ _ hx)
 ·(subst hx;assumption)
theorem Uv (s:aM):rd (aB s) 0 45=bV s.cFg:=gI (bM _)
theorem Uw (s:aM) (x:Config):dM (aB s) 0 (bV x) 45=aB { s with cFg:=x }:=cJ (bM _)
theorem Ag (s:aM):(aB s)[0]? = some (.v (.int .i64 s.cFg.mL.sO)):=(eH (by rw[bM];decide)).trans (xC _)
theorem Ah (s:aM):(aB s)[1]? = some (.v (.int .i64 s.cFg.mL.wU)):=(eH (by rw[bM];decide)).trans (xD _)
theorem yK (s:aM):(aB s)[2]? = some (.v (.int .i64 s.cFg.mL.qG)):=(eH (by rw[bM];decide)).trans (vD _)
theorem yL (s:aM):(aB s)[3]? = some (.v (.int .i64 s.cFg.mL.rE)):=(eH (by rw[bM];decide)).trans (vE _)
theorem qN (s:aM):(aB s)[4]? = some (.v (.int .i64 s.cFg.mL.oI)):=(eH (by rw[bM];decide)).trans (vF _)
theorem pU (s:aM):(aB s)[5]? = some (.v (.int .u64 s.cFg.mL.rU)):=(eH (by rw[bM];decide)).trans (uS _)
theorem Ik (s:aM):(aB s)[6]? = some (.v (.int .u64 s.cFg.rD)):=(eH (by rw[bM];decide)).trans (Ib _)
theorem Jr (s:aM):rd (aB s) 8 4=gE s.cFg.BP:=(sT (by rw[bM];decide)).trans (Kk _)
theorem qW (s:aM):(aB s)[44]? = some (s.cFg.jP):=(eH (by rw[bM];decide)).trans (zH _)
theorem Js (s:aM) (x:AV):dM (aB s) 44 ([x]) 45=aB { s with cFg:={ s.cFg with jP:=x }}:=(uN (by rw[bM];decide)).trans (Fe (Kl _ x))
theorem AN (s:aM):rd (aB s) 45 2=fB s.gG:=(aY rfl (bM _)).trans (gI (dE _))
theorem AO (s:aM) (x:uZ):dM (aB s) 45 (fB x) 47=aB { s with gG:=x }:=(aC rfl rfl (bM _)).trans (bH (cJ (dE _)))
theorem pC (s:aM):(aB s)[45]? = some (s.gG.dT):=(aG rfl (bM _)).trans ((eH (by rw[dE];decide)).trans (vM _))
theorem Gf (s:aM) (x:AV):dM (aB s) 45 ([x]) 46=aB { s with gG:={ s.gG with dT:=x }}:=(aC rfl rfl (bM _)).trans (bH ((uN (by rw[dE];decide)).trans (Fe (Fv _ x))))
theorem qB (s:aM):(aB s)[46]? = some (s.gG.gX):=(aG rfl (bM _)).trans ((eH (by rw[dE];decide)).trans (xJ _))
theorem Il (s:aM) (x:AV):dM (aB s) 46 ([x]) 47=aB { s with gG:={ s.gG with gX:=x }}:=(aC rfl rfl (bM _)).trans (bH ((uN (by rw[dE];decide)).trans (Fe (Ih _ x))))
theorem Px (s:aM):rd (aB s) 47 66=eU s.bN:=(aY rfl (bM _)).trans ((aY rfl (dE _)).trans (gI (cX _)))
theorem Py (s:aM) (x:kP):dM (aB s) 47 (eU x) 113=aB { s with bN:=x }:=(aC rfl rfl (bM _)).trans (bH ((aC rfl rfl (dE _)).trans (bH (cJ (cX _)))))
theorem Fj (s:aM):rd (aB s) 47 33=bZ s.bN.gY:=(aY rfl (bM _)).trans ((aY rfl (dE _)).trans ((sT (by rw[cX];decide)).trans (Dr _)))
theorem Fk (s:aM) (x:fV):dM (aB s) 47 (bZ x) 80=aB { s with bN:={ s.bN with gY:=x }}:=(aC rfl rfl (bM _)).trans (bH ((aC rfl rfl (dE _)).trans (bH ((uN (by rw[cX];decide)).trans (Fe (Ds _ x))))))
theorem xF (s:aM):(aB s)[47]? = some (.v (.int .u64 s.bN.gY.aK)):=(aG rfl (bM _)).trans ((aG rfl (dE _)).trans ((eH (by rw[cX];decide)).trans (tW _)))
theorem qO (s:aM):rd (aB s) 48 32=aX s.bN.gY.root:=(aY rfl (bM _)).trans ((aY rfl (dE _)).trans ((sT (by rw[cX];decide)).trans (vG _)))
theorem Gg (s:aM):rd (aB s) 80 33=bZ s.bN.fin:=(aY rfl (bM _)).trans ((aY rfl (dE _)).trans ((sT (by rw[cX];decide)).trans (Fw _)))
theorem Gh (s:aM) (x:fV):dM (aB s) 80 (bZ x) 113=aB { s with bN:={ s.bN with fin:=x }}:=(aC rfl rfl (bM _)).trans (bH ((aC rfl rfl (dE _)).trans (bH ((uN (by rw[cX];decide)).trans (Fe (Fx _ x))))))
theorem xQ (s:aM):(aB s)[80]? = some (.v (.int .u64 s.bN.fin.aK)):=(aG rfl (bM _)).trans ((aG rfl (dE _)).trans ((eH (by rw[cX];decide)).trans (uT _)))
theorem rP (s:aM):rd (aB s) 81 32=aX s.bN.fin.root:=(aY rfl (bM _)).trans ((aY rfl (dE _)).trans ((sT (by rw[cX];decide)).trans (xE _)))
theorem pD (s:aM):(aB s)[113]? = some (s.dV.early):=(aG rfl (bM _)).trans ((aG rfl (dE _)).trans ((aG rfl (cX _)).trans ((eH (by rw[iG];decide)).trans (vN _))))
theorem Gi (s:aM) (x:AV):dM (aB s) 113 ([x]) 114=aB { s with dV:={ s.dV with early:=x }}:=(aC rfl rfl (bM _)).trans (bH ((aC rfl rfl (dE _)).trans (bH ((aC rfl rfl (cX _)).trans (bH ((uN (by rw[iG];decide)).trans (Fe (Fy _ x))))))))
theorem nN (s:aM):(aB s)[114]? = some (s.dV.bW):=(aG rfl (bM _)).trans ((aG rfl (dE _)).trans ((aG rfl (cX _)).trans ((eH (by rw[iG];decide)).trans (tE _))))
theorem Du (s:aM) (x:AV):dM (aB s) 114 ([x]) 115=aB { s with dV:={ s.dV with bW:=x }}:=(aC rfl rfl (bM _)).trans (bH ((aC rfl rfl (dE _)).trans (bH ((aC rfl rfl (cX _)).trans (bH ((uN (by rw[iG];decide)).trans (Fe (Bq _ x))))))))
theorem Ko (s:aM):rd (aB s) 115 1=mW s.tree:=(aY rfl (bM _)).trans ((aY rfl (dE _)).trans ((aY rfl (cX _)).trans ((aY rfl (iG _)).trans (gI (mP _)))))
theorem Ch (s:aM) (x:Fo):dM (aB s) 115 (mW x) 116=aB { s with tree:=x }:=(aC rfl rfl (bM _)).trans (bH ((aC rfl rfl (dE _)).trans (bH ((aC rfl rfl (cX _)).trans (bH ((aC rfl rfl (iG _)).trans (bH (cJ (mP _)))))))))
theorem qY (s:aM):(aB s)[115]? = some (s.tree.nodes):=(aG rfl (bM _)).trans ((aG rfl (dE _)).trans ((aG rfl (cX _)).trans ((aG rfl (iG _)).trans ((eH (by rw[mP];decide)).trans (xK _)))))
theorem Jt (s:aM) (x:AV):dM (aB s) 115 ([x]) 116=aB { s with tree:={ s.tree with nodes:=x }}:=(aC rfl rfl (bM _)).trans (bH ((aC rfl rfl (dE _)).trans (bH ((aC rfl rfl (cX _)).trans (bH ((aC rfl rfl (iG _)).trans (bH ((uN (by rw[mP];decide)).trans (Fe (Ij _ x))))))))))
theorem Kq (s:aM):(aB s)[116]? = some (.v (.int .u64 s.now)):=(aG rfl (bM _)).trans ((aG rfl (dE _)).trans ((aG rfl (cX _)).trans ((aG rfl (iG _)).trans ((aG rfl (mP _)).trans (rfl)))))
theorem Pz (s:aM) (x:Int):dM (aB s) 116 ([.v (.int .u64 x)]) 117=aB { s with now:=x }:=(aC rfl rfl (bM _)).trans (bH ((aC rfl rfl (dE _)).trans (bH ((aC rfl rfl (cX _)).trans (bH ((aC rfl rfl (iG _)).trans (bH ((aC rfl rfl (mP _)).trans (bH (cJ (aV _)))))))))))
theorem Im (s:aM):rd (aB s) 117 32=aX s.iR:=(aY rfl (bM _)).trans ((aY rfl (dE _)).trans ((aY rfl (cX _)).trans ((aY rfl (iG _)).trans ((aY rfl (mP _)).trans ((aY rfl (aV _)).trans (gI (aL _)))))))
theorem Io (s:aM) (x:cK):dM (aB s) 117 (aX x) 149=aB { s with iR:=x }:=(aC rfl rfl (bM _)).trans (bH ((aC rfl rfl (dE _)).trans (bH ((aC rfl rfl (cX _)).trans (bH ((aC rfl rfl (iG _)).trans (bH ((aC rfl rfl (mP _)).trans (bH ((aC rfl rfl (aV _)).trans (bH (cJ (aL _)))))))))))))
theorem vO (s:aM):(aB s)[149]? = some (s.tables):=(aG rfl (bM _)).trans ((aG rfl (dE _)).trans ((aG rfl (cX _)).trans ((aG rfl (iG _)).trans ((aG rfl (mP _)).trans ((aG rfl (aV _)).trans ((aG rfl (aL _)).trans (rfl)))))))
theorem Ux (s:aM) (x:AV):dM (aB s) 149 ([x]) 150=aB { s with tables:=x }:=(aC rfl rfl (bM _)).trans (bH ((aC rfl rfl (dE _)).trans (bH ((aC rfl rfl (cX _)).trans (bH ((aC rfl rfl (iG _)).trans (bH ((aC rfl rfl (mP _)).trans (bH ((aC rfl rfl (aV _)).trans (bH ((aC rfl rfl (aL _)).trans (bH (eE rfl))))))))))))))
def gL:aM:=⟨nY,Lg,Sl,Ep,Qn,0,dO,(.v (.slice none 0 0))⟩
def AP:List Value:=Ps++(AK++(Dt++(Vv++(XT++([.int .u64 0]++(tU++([.slice none 0 0])))))))
theorem AQ:AP.map AV.v=aB gL:=by simp only[AP,List.map_append,List.map_cons,List.map_nil,jN,jO,Se,AL,Ii,FZ,RS];rfl
theorem gH (st:St) (s:aM):BV st (aB s)=cC (cM st s.cFg.jP) fun x_config_bal=>cC (cM st s.gG.dT) fun x_votes_latest=>cC (cM st s.gG.gX) fun x_votes_equiv=>cC (cM st s.dV.early) fun x_queues_early=>cC (cM st s.dV.bW) fun x_queues_orphans=>cC (cM st s.tree.nodes) fun x_tree_nodes=>cC (cM st s.tables) fun x_tables=>some (aB { s with cFg:={ s.cFg with jP:=x_config_bal },gG:={ s.gG with dT:=x_votes_latest,gX:=x_votes_equiv },dV:={ s.dV with early:=x_queues_early,bW:=x_queues_orphans },tree:={ s.tree with nodes:=x_tree_nodes },tables:=x_tables }):=by
 simp only[aB,uL,Xv,K1,jG (lF _),XS,K2,jG (eA _),jG (dL _),wM,mZ,cW]
theorem KE (s:aM):rd (aB s) 0 150=aB s:=jB (cT _)
theorem KF (s x:aM):dM (aB s) 0 (aB x) 150=aB x:=eE (cT _)
structure State where
 store:aM
 eK:AV
 jM:AV
 bC:Int
 Li:Bool
 last:Command
 overflow:Bool
 halted:Bool
def aE (s:State):List AV:=aB s.store++([s.eK]++([s.jM]++(sQ s.bC++(vC s.Li++(eD s.last++(vC s.overflow++(vC s.halted)))))))
@[simp] theorem Mj (s:State):(aE s).length=252:=by simp[aE]
theorem MI (s:State) (h0:Flat s.store.cFg.jP) (h1:Flat s.store.gG.dT) (h2:Flat s.store.gG.gX) (h3:Flat s.store.dV.early) (h4:Flat s.store.dV.bW) (h5:Flat s.store.tree.nodes) (h6:Flat s.store.tables) (h7:Flat s.eK) (h8:Flat s.jM):∀x∈aE s,Flat x:=by
 intro x hx;simp only[aE,List.mem_append,List.mem_singleton] at hx;rcases hx with hx|hx|hx|hx|hx|hx|hx|hx
 ·(exact Sw _ (by assumption) (by assumption) (by assumption) (by assumption) (by assumption) (by assumption) (by assumption) _ hx)
 ·(subst hx;assumption)
 ·(subst hx;assumption)
 ·(exact eA _ _ hx)
 ·(exact mM _ _ hx)
 ·(exact lD _ _ hx)
 ·(exact mM _ _ hx)
 ·(exact mM _ _ hx)
theorem AR (s:State):rd (aE s) 0 150=aB s.store:=gI (cT _)
theorem AS (s:State) (x:aM):dM (aE s) 0 (aB x) 150=aE { s with store:=x }:=cJ (cT _)
theorem tY (s:State):(aE s)[4]? = some (.v (.int .i64 s.store.cFg.mL.oI)):=(eH (by rw[cT];decide)).trans (qN _)
theorem tM (s:State):(aE s)[5]? = some (.v (.int .u64 s.store.cFg.mL.rU)):=(eH (by rw[cT];decide)).trans (pU _)
theorem qZ (s:State):(aE s)[44]? = some (s.store.cFg.jP):=(eH (by rw[cT];decide)).trans (qW _)
theorem pP (s:State):(aE s)[45]? = some (s.store.gG.dT):=(eH (by rw[cT];decide)).trans (pC _)
theorem qM (s:State):(aE s)[46]? = some (s.store.gG.gX):=(eH (by rw[cT];decide)).trans (qB _)
theorem tZ (s:State):rd (aE s) 48 32=aX s.store.bN.gY.root:=(sT (by rw[cT];decide)).trans (qO _)
theorem uU (s:State):rd (aE s) 81 32=aX s.store.bN.fin.root:=(sT (by rw[cT];decide)).trans (rP _)
theorem pQ (s:State):(aE s)[113]? = some (s.store.dV.early):=(eH (by rw[cT];decide)).trans (pD _)
theorem oG (s:State):(aE s)[114]? = some (s.store.dV.bW):=(eH (by rw[cT];decide)).trans (nN _)
theorem Ju (s:State):rd (aE s) 115 1=mW s.store.tree:=(sT (by rw[cT];decide)).trans (Ko _)
theorem xX (s:State) (x:Fo):dM (aE s) 115 (mW x) 116=aE { s with store:={ s.store with tree:=x }}:=(uN (by rw[cT];decide)).trans (Fe (Ch _ x))
theorem rA (s:State):(aE s)[115]? = some (s.store.tree.nodes):=(eH (by rw[cT];decide)).trans (qY _)
theorem Jv (s:State):(aE s)[116]? = some (.v (.int .u64 s.store.now)):=(eH (by rw[cT];decide)).trans (Kq _)
theorem Mk (s:State) (x:Int):dM (aE s) 116 ([.v (.int .u64 x)]) 117=aE { s with store:={ s.store with now:=x }}:=(uN (by rw[cT];decide)).trans (Fe (Pz _ x))
theorem Ip (s:State):rd (aE s) 117 32=aX s.store.iR:=(sT (by rw[cT];decide)).trans (Im _)
theorem Iq (s:State) (x:cK):dM (aE s) 117 (aX x) 149=aE { s with store:={ s.store with iR:=x }}:=(uN (by rw[cT];decide)).trans (Fe (Io _ x))
theorem uF (s:State):(aE s)[149]? = some (s.store.tables):=(eH (by rw[cT];decide)).trans (vO _)
theorem zJ (s:State):(aE s)[150]? = some (s.eK):=(aG rfl (cT _)).trans (rfl)
theorem Qa (s:State) (x:AV):dM (aE s) 150 ([x]) 151=aE { s with eK:=x }:=(aC rfl rfl (cT _)).trans (bH (cJ rfl))
theorem Ay (s:State):(aE s)[151]? = some (s.jM):=(aG rfl (cT _)).trans ((aG rfl rfl).trans (rfl))
theorem Sm (s:State) (x:AV):dM (aE s) 151 ([x]) 152=aE { s with jM:=x }:=(aC rfl rfl (cT _)).trans (bH ((aC rfl rfl rfl).trans (bH (cJ rfl))))
theorem Qb (s:State):(aE s)[152]? = some (.v (.int .u64 s.bC)):=(aG rfl (cT _)).trans ((aG rfl rfl).trans ((aG rfl rfl).trans (rfl)))
theorem Sn (s:State) (x:Int):dM (aE s) 152 ([.v (.int .u64 x)]) 153=aE { s with bC:=x }:=(aC rfl rfl (cT _)).trans (bH ((aC rfl rfl rfl).trans (bH ((aC rfl rfl rfl).trans (bH (cJ (aV _)))))))
theorem AT (s:State):(aE s)[153]? = some (.v (.bool s.Li)):=(aG rfl (cT _)).trans ((aG rfl rfl).trans ((aG rfl rfl).trans ((aG rfl (aV _)).trans (rfl))))
theorem DN (s:State) (x:Bool):dM (aE s) 153 ([.v (.bool x)]) 154=aE { s with Li:=x }:=(aC rfl rfl (cT _)).trans (bH ((aC rfl rfl rfl).trans (bH ((aC rfl rfl rfl).trans (bH ((aC rfl rfl (aV _)).trans (bH (cJ (gR _)))))))))
theorem DO (s:State):rd (aE s) 154 96=eD s.last:=(aY rfl (cT _)).trans ((aY rfl rfl).trans ((aY rfl rfl).trans ((aY rfl (aV _)).trans ((aY rfl (gR _)).trans (gI (mF _))))))
theorem DP (s:State) (x:Command):dM (aE s) 154 (eD x) 250=aE { s with last:=x }:=(aC rfl rfl (cT _)).trans (bH ((aC rfl rfl rfl).trans (bH ((aC rfl rfl rfl).trans (bH ((aC rfl rfl (aV _)).trans (bH ((aC rfl rfl (gR _)).trans (bH (cJ (mF _)))))))))))
theorem Ml (s:State):(aE s)[250]? = some (.v (.bool s.overflow)):=(aG rfl (cT _)).trans ((aG rfl rfl).trans ((aG rfl rfl).trans ((aG rfl (aV _)).trans ((aG rfl (gR _)).trans ((aG rfl (mF _)).trans (rfl))))))
theorem Qc (s:State) (x:Bool):dM (aE s) 250 ([.v (.bool x)]) 251=aE { s with overflow:=x }:=(aC rfl rfl (cT _)).trans (bH ((aC rfl rfl rfl).trans (bH ((aC rfl rfl rfl).trans (bH ((aC rfl rfl (aV _)).trans (bH ((aC rfl rfl (gR _)).trans (bH ((aC rfl rfl (mF _)).trans (bH (cJ (gR _)))))))))))))
theorem So (s:State):(aE s)[251]? = some (.v (.bool s.halted)):=(aG rfl (cT _)).trans ((aG rfl rfl).trans ((aG rfl rfl).trans ((aG rfl (aV _)).trans ((aG rfl (gR _)).trans ((aG rfl (mF _)).trans ((aG rfl (gR _)).trans (rfl)))))))
theorem Uy (s:State) (x:Bool):dM (aE s) 251 ([.v (.bool x)]) 252=aE { s with halted:=x }:=(aC rfl rfl (cT _)).trans (bH ((aC rfl rfl rfl).trans (bH ((aC rfl rfl rfl).trans (bH ((aC rfl rfl (aV _)).trans (bH ((aC rfl rfl (gR _)).trans (bH ((aC rfl rfl (mF _)).trans (bH ((aC rfl rfl (gR _)).trans (bH (eE (gR _)))))))))))))))
def iZ:State:=⟨gL,(.v (.slice none 0 0)),(.v (.slice none 0 0)),0,false,AH,false,false⟩
def KG:List Value:=AP++([.slice none 0 0]++([.slice none 0 0]++([.int .u64 0]++([.bool false]++(Ig++([.bool false]++([.bool false])))))))
theorem RT:KG.map AV.v=aE iZ:=by simp only[KG,List.map_append,List.map_cons,List.map_nil,jN,jO,AQ,Mi];rfl
theorem vU (st:St) (s:State):BV st (aE s)=cC (cM st s.store.cFg.jP) fun x_store_config_bal=>cC (cM st s.store.gG.dT) fun x_store_votes_latest=>cC (cM st s.store.gG.gX) fun x_store_votes_equiv=>cC (cM st s.store.dV.early) fun x_store_queues_early=>cC (cM st s.store.dV.bW) fun x_store_queues_orphans=>cC (cM st s.store.tree.nodes) fun x_store_tree_nodes=>cC (cM st s.store.tables) fun x_store_tables=>cC (cM st s.eK) fun x_requests=>cC (cM st s.jM) fun x_retries=>some (aE { s with store:={ s.store with cFg:={ s.store.cFg with jP:=x_store_config_bal },gG:={ s.store.gG with dT:=x_store_votes_latest,gX:=x_store_votes_equiv },dV:={ s.store.dV with early:=x_store_queues_early,bW:=x_store_queues_orphans },tree:={ s.store.tree with nodes:=x_store_tree_nodes },tables:=x_store_tables },eK:=x_requests,jM:=x_retries }):=by
 simp only[aE,uL,gH,wM,jG (eA _),jG (mM _),jG (lD _),mZ,cW]
theorem KH (s:State):rd (aE s) 0 252=aE s:=jB (Mj _)
theorem KI (s x:State):dM (aE s) 0 (aE x) 252=aE x:=eE (Mj _)
structure xH where
 kind:Int
 block:Block
 Gb:sJ
 oU:fW
 table:Table
 verdict:gQ
 write:Int
 qP:Int
def lC (s:xH):List AV:=qA s.kind++(aT s.block++(hU s.Gb++(cA s.oU++(cI s.table++(dG s.verdict++(qA s.write++(qA s.qP)))))))
@[simp] theorem AU (s:xH):(lC s).length=446:=by simp[lC]
theorem C3 (s:xH) (h0:Flat s.Gb.eW) (h1:Flat s.oU.first.eW) (h2:Flat s.oU.second.eW) (h3:Flat s.table.jP):∀x∈lC s,Flat x:=by
 intro x hx;simp only[lC,List.mem_append,List.mem_singleton] at hx;rcases hx with hx|hx|hx|hx|hx|hx|hx|hx
 ·(exact mK _ _ hx)
 ·(exact Bm _ _ hx)
 ·(exact Qi _ (by assumption) _ hx)
 ·(exact Gz _ (by assumption) (by assumption) _ hx)
 ·(exact Ha _ (by assumption) _ hx)
 ·(exact jT _ _ hx)
 ·(exact mK _ _ hx)
 ·(exact mK _ _ hx)
theorem KJ (s:xH):(lC s)[0]? = some (.v (.int .i64 s.kind)):=rfl
theorem RU (s:xH) (x:Int):dM (lC s) 0 ([.v (.int .i64 x)]) 1=lC { s with kind:=x }:=cJ (bE _)
theorem KK (s:xH):rd (lC s) 1 238=aT s.block:=(aY rfl (bE _)).trans (gI (bO _))
theorem KL (s:xH) (x:Block):dM (lC s) 1 (aT x) 239=lC { s with block:=x }:=(aC rfl rfl (bE _)).trans (bH (cJ (bO _)))
theorem XU (s:xH):rd (lC s) 239 67=hU s.Gb:=(aY rfl (bE _)).trans ((aY rfl (bO _)).trans (gI (iF _)))
theorem XV (s:xH) (x:sJ):dM (lC s) 239 (hU x) 306=lC { s with Gb:=x }:=(aC rfl rfl (bE _)).trans (bH ((aC rfl rfl (bO _)).trans (bH (cJ (iF _)))))
theorem Cr (s:xH):(lC s)[305]? = some (s.Gb.eW):=(aG rfl (bE _)).trans ((aG rfl (bO _)).trans ((eH (by rw[iF];decide)).trans (Ei _)))
theorem KM (s:xH):rd (lC s) 306 70=cA s.oU:=(aY rfl (bE _)).trans ((aY rfl (bO _)).trans ((aY rfl (iF _)).trans (gI (fM _))))
theorem KN (s:xH) (x:fW):dM (lC s) 306 (cA x) 376=lC { s with oU:=x }:=(aC rfl rfl (bE _)).trans (bH ((aC rfl rfl (bO _)).trans (bH ((aC rfl rfl (iF _)).trans (bH (cJ (fM _)))))))
theorem sM (s:xH):(lC s)[340]? = some (s.oU.first.eW):=(aG rfl (bE _)).trans ((aG rfl (bO _)).trans ((aG rfl (iF _)).trans ((eH (by rw[fM];decide)).trans (oH _))))
theorem sA (s:xH):(lC s)[375]? = some (s.oU.second.eW):=(aG rfl (bE _)).trans ((aG rfl (bO _)).trans ((aG rfl (iF _)).trans ((eH (by rw[fM];decide)).trans (nP _))))
theorem KO (s:xH):rd (lC s) 376 34=cI s.table:=(aY rfl (bE _)).trans ((aY rfl (bO _)).trans ((aY rfl (iF _)).trans ((aY rfl (fM _)).trans (gI (fR _)))))
theorem KP (s:xH) (x:Table):dM (lC s) 376 (cI x) 410=lC { s with table:=x }:=(aC rfl rfl (bE _)).trans (bH ((aC rfl rfl (bO _)).trans (bH ((aC rfl rfl (iF _)).trans (bH ((aC rfl rfl (fM _)).trans (bH (cJ (fR _)))))))))
theorem Az (s:xH):(lC s)[409]? = some (s.table.jP):=(aG rfl (bE _)).trans ((aG rfl (bO _)).trans ((aG rfl (iF _)).trans ((aG rfl (fM _)).trans ((eH (by rw[fR];decide)).trans (Bw _)))))
theorem AW (s:xH):rd (lC s) 410 34=dG s.verdict:=(aY rfl (bE _)).trans ((aY rfl (bO _)).trans ((aY rfl (iF _)).trans ((aY rfl (fM _)).trans ((aY rfl (fR _)).trans (gI (mE _))))))
theorem AX (s:xH) (x:gQ):dM (lC s) 410 (dG x) 444=lC { s with verdict:=x }:=(aC rfl rfl (bE _)).trans (bH ((aC rfl rfl (bO _)).trans (bH ((aC rfl rfl (iF _)).trans (bH ((aC rfl rfl (fM _)).trans (bH ((aC rfl rfl (fR _)).trans (bH (cJ (mE _)))))))))))
theorem DQ (s:xH):(lC s)[444]? = some (.v (.int .i64 s.write)):=(aG rfl (bE _)).trans ((aG rfl (bO _)).trans ((aG rfl (iF _)).trans ((aG rfl (fM _)).trans ((aG rfl (fR _)).trans ((aG rfl (mE _)).trans (rfl))))))
theorem KQ (s:xH) (x:Int):dM (lC s) 444 ([.v (.int .i64 x)]) 445=lC { s with write:=x }:=(aC rfl rfl (bE _)).trans (bH ((aC rfl rfl (bO _)).trans (bH ((aC rfl rfl (iF _)).trans (bH ((aC rfl rfl (fM _)).trans (bH ((aC rfl rfl (fR _)).trans (bH ((aC rfl rfl (mE _)).trans (bH (cJ (bE _)))))))))))))
theorem KR (s:xH):(lC s)[445]? = some (.v (.int .i64 s.qP)):=(aG rfl (bE _)).trans ((aG rfl (bO _)).trans ((aG rfl (iF _)).trans ((aG rfl (fM _)).trans ((aG rfl (fR _)).trans ((aG rfl (mE _)).trans ((aG rfl (bE _)).trans (rfl)))))))
theorem RV (s:xH) (x:Int):dM (lC s) 445 ([.v (.int .i64 x)]) 446=lC { s with qP:=x }:=(aC rfl rfl (bE _)).trans (bH ((aC rfl rfl (bO _)).trans (bH ((aC rfl rfl (iF _)).trans (bH ((aC rfl rfl (fM _)).trans (bH ((aC rfl rfl (fR _)).trans (bH ((aC rfl rfl (mE _)).trans (bH ((aC rfl rfl (bE _)).trans (bH (eE (bE _)))))))))))))))
def zQ:xH:=⟨0,fP,Jm,Sg,iY,Zu,0,0⟩
def aEB:List Value:=[.int .i64 0]++(Rv++(aBI++(Dq++(Zz++(Dd++([.int .i64 0]++([.int .i64 0])))))))
theorem aBJ:aEB.map AV.v=lC zQ:=by simp only[aEB,List.map_append,List.map_cons,List.map_nil,jN,jO,Pd,XO,Ie,AA,Mc];rfl
theorem XW (s:xH):rd (lC s) 0 446=lC s:=jB (AU _)
theorem XX (s x:xH):dM (lC s) 0 (lC x) 446=lC x:=eE (AU _)
def cO (l:List kS):List AV:=l.flatMap jQ
@[simp] theorem XY (l:List (kS)):(cO l).length=l.length * 34:=by
 induction l with
 | nil=>rfl
 | cons x l ih=>simp only[cO,List.flatMap_cons,List.length_append,rZ,List.length_cons] at *;omega
theorem nG (l:List (kS)):∀x∈cO l,Flat x:=by
 intro x hx;obtain⟨y,_,hy⟩:=List.mem_flatMap.1 hx
 exact XM y x hy
def dH (l:List sJ):List AV:=l.flatMap hU
@[simp] theorem aKv (l:List (sJ)):(dH l).length=l.length * 67:=by
 induction l with
 | nil=>rfl
 | cons x l ih=>simp only[dH,List.flatMap_cons,List.length_append,iF,List.length_cons] at *;omega
theorem tH (l:List (sJ)) (h:∀y∈l,Flat y.eW):∀x∈dH l,Flat x:=by
 intro x hx;obtain⟨y,hm,hy⟩:=List.mem_flatMap.1 hx
 exact Qi y (h y hm) x hy
def aR (l:List Table):List AV:=l.flatMap cI
@[simp] theorem aGu (l:List (Table)):(aR l).length=l.length * 34:=by
 induction l with
 | nil=>rfl
 | cons x l ih=>simp only[aR,List.flatMap_cons,List.length_append,fR,List.length_cons] at *;omega
theorem lX (l:List (Table)) (h:∀y∈l,Flat y.jP):∀x∈aR l,Flat x:=by
 intro x hx;obtain⟨y,hm,hy⟩:=List.mem_flatMap.1 hx
 exact Ha y (h y hm) x hy
def aA (l:List Request):List AV:=l.flatMap bU
@[simp] theorem jU (l:List (Request)):(aA l).length=l.length * 35:=by
 induction l with
 | nil=>rfl
 | cons x l ih=>simp only[aA,List.flatMap_cons,List.length_append,fY,List.length_cons] at *;omega
theorem iX (l:List (Request)):∀x∈aA l,Flat x:=by
 intro x hx;obtain⟨y,_,hy⟩:=List.mem_flatMap.1 hx
 exact jS y x hy
end Go.Ab
end
