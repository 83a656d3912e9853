/-
  Part 7 of the proof: an evaluator of programs, its soundness, and what functions of this program compute.
-/
import Derived.Test.YtmcjkemalibacaaGreatK6
set_option linter.all false
set_option maxRecDepth 20000
set_option maxHeartbeats 40000000
section
namespace Go.Ab
open Classical
variable [Ext]
noncomputable def ET (st:St) (cs:List AV):Option (List AV):=bY (cs.map (dA st))
theorem vI (st:St) (a b:List AV):ET st (a++b)=cH (ET st a) fun x=>cH (ET st b) fun y=>some (x++y):=by
 unfold ET;induction a with
 | nil=>simp[bY,cH];cases bY (b.map (dA st))<;>rfl
 | cons c a ih =>
   simp only[List.cons_append,List.map_cons];cases dA st c with
   | none=>rfl
   | some c' =>
     simp only[bY,ih];cases bY (a.map (dA st)) with
     | none=>rfl
     | some a' =>
       simp only[cH,Option.map_some];cases bY (b.map (dA st))<;>rfl
theorem xK (st:St) (x:AV):ET st [x]=cH (dA st x) fun y=>some [y]:=by
 unfold ET;simp only[List.map_cons,List.map_nil];cases dA st x<;>rfl
theorem kS {st:St} {cs:List AV} (h:∀c∈cs,Flat c):ET st cs=some cs:=by
 unfold ET;induction cs with
 | nil=>rfl
 | cons c cs ih =>
   simp only[List.map_cons,cY (h c (by simp)),bY,ih fun x hx=>h x (by simp[hx]),Option.map_some]
theorem bM (st:St) (cs:List AV):fV st (.agg cs)=cH (ET st cs) fun x=>some (.agg x):=by
 unfold fV;by_cases h:Flat (.agg cs)
 ·rw[if_pos h];have h':∀c∈cs,Flat c:=by cases h with|agg _ h=>exact h
  rw[kS h'];rfl
 ·rw[if_neg h];simp only[ET];cases bY (cs.map (dA st))<;>rfl
def ov {α:Type} (c:List α→List AV):Option (List α)→AV
 | none=>.v (.slice none 0 0)
 | some l=>.sl l.length (c l)
def ol {α:Type} (o:Option (List α)):List α:=o.getD []
theorem rW {α:Type} (l:List α):ol (some l)=l:=rfl
theorem aCS {α:Type}:ol (none:Option (List α))=[]:=rfl
def gx {α:Type} (z:α) (l:List α) (i:Int):α:=l.getD i.toNat z
theorem VT {α:Type} {z:α} {l:List α} {i:Int} (h0:0≤i) (h1:i<l.length):∃h:i.toNat<l.length,gx z l i=l[i.toNat]:=by
 have h:i.toNat<l.length:=by omega
 exact⟨h,by simp[gx,h]⟩
theorem tI {α:Type} {z:α} {l:List α} {i:Int} (h0:0≤i) (h1:i<l.length):gx z l i∈l:=by
 obtain⟨h,e⟩:=VT (z:=z) h0 h1
 rw[e];exact List.getElem_mem h
def yN (l:List fB):List AV:=l.flatMap bV
@[simp] theorem We (l:List (fB)):(yN l).length=l.length * 33:=by
 induction l with
 | nil=>rfl
 | cons x l ih=>simp only[yN,List.flatMap_cons,List.length_append,bO,List.length_cons] at *;omega
def aL (l:List Block):List AV:=l.flatMap aU
@[simp] theorem Am (l:List (Block)):(aL l).length=l.length * 238:=by
 induction l with
 | nil=>rfl
 | cons x l ih=>simp only[aL,List.flatMap_cons,List.length_append,bN,List.length_cons] at *;omega
theorem qO (l:List (Block)):∀x∈aL l,Flat x:=by
 intro x hx;obtain⟨y,_,hy⟩:=List.mem_flatMap.1 hx
 exact Aw y x hy
def mE (l:List Bool):List AV:=l.flatMap tY
@[simp] theorem aGp (l:List (Bool)):(mE l).length=l.length * 1:=by
 induction l with
 | nil=>rfl
 | cons x l ih=>simp only[mE,List.flatMap_cons,List.length_append,gS,List.length_cons] at *;omega
theorem Sm (l:List (Bool)):∀x∈mE l,Flat x:=by
 intro x hx;obtain⟨y,_,hy⟩:=List.mem_flatMap.1 hx
 exact sG y x hy
structure wT where
 tag:Int
def mA (s:wT):List AV:=sD s.tag
@[simp] theorem gO (s:wT):(mA s).length=1:=by simp[mA]
theorem Pc (s:wT):∀x∈mA s,Flat x:=by
 intro x hx;simp only[mA,List.mem_append,List.mem_singleton] at hx;(exact eM _ _ hx)
theorem zG (s:wT):(mA s)[0]? = some (.v (.int .u64 s.tag)):=rfl
theorem Kf (s:wT) (x:Int):dP (mA s) 0 ([.v (.int .u64 x)]) 1=mA { s with tag:=x }:=eJ (aW _)
def Vb:wT:=⟨0⟩
def Jg:List Value:=[.int .u64 0]
theorem Jh:Jg.map AV.v=mA Vb:=by simp only[Jg,List.map_append,List.map_cons,List.map_nil,jG,jH];rfl
def YW:List Bool:=[true]
theorem II (a b:wT):iI YW (mA a) (mA b):=(show iI [true] [_] [_] from ⟨rfl,trivial⟩)
theorem PR (a b:wT):mA a=mA b↔a=b:=by
 refine⟨fun h=>?_,fun h=>by rw[h]⟩
 cases a;cases b
 simp only[mA] at h;have e0:=(Hp _ _).1 h
 subst e0;rfl
structure gN where
 tagged:wT
 kind:Int
 dR:bX
def dG (s:gN):List AV:=mA s.tagged++(oZ s.kind++(aY s.dR))
@[simp] theorem lM (s:gN):(dG s).length=34:=by simp[dG]
theorem jM (s:gN):∀x∈dG s,Flat x:=by
 intro x hx;simp only[dG,List.mem_append,List.mem_singleton] at hx;rcases hx with hx|hx|hx
 ·(exact Pc _ _ hx)
 ·(exact lR _ _ hx)
 ·(exact dH _ _ hx)
theorem Pd (s:gN) (x:wT):dP (dG s) 0 (mA x) 1=dG { s with tagged:=x }:=cA (gO _)
theorem Es (s:gN):(dG s)[0]? = some (.v (.int .u64 s.tagged.tag)):=(eK (by rw[gO];decide)).trans (zG _)
theorem Fy (s:gN) (x:Int):dP (dG s) 0 ([.v (.int .u64 x)]) 1=dG { s with tagged:={ s.tagged with tag:=x }}:=(tZ (by rw[gO];decide)).trans (Fw (Kf _ x))
theorem Rm (s:gN):(dG s)[1]? = some (.v (.int .i64 s.kind)):=(aK rfl (gO _)).trans (rfl)
theorem Tz (s:gN) (x:Int):dP (dG s) 1 ([.v (.int .i64 x)]) 2=dG { s with kind:=x }:=(aC rfl rfl (gO _)).trans (bJ (cA (bC _)))
theorem Pe (s:gN):rd (dG s) 2 32=aY s.dR:=(bB rfl (gO _)).trans ((bB rfl (bC _)).trans (iW (aO _)))
theorem Pf (s:gN) (x:bX):dP (dG s) 2 (aY x) 34=dG { s with dR:=x }:=(aC rfl rfl (gO _)).trans (bJ ((aC rfl rfl (bC _)).trans (bJ (eJ (aO _)))))
def Ys:gN:=⟨Vb,0,dT⟩
def Hu:List Value:=Jg++([.int .i64 0]++(tL))
theorem Lv:Hu.map AV.v=dG Ys:=by simp only[Hu,List.map_append,List.map_cons,List.map_nil,jG,jH,Jh];rfl
def PS:List Bool:=YW++([true]++(Hq))
theorem BW (a b:gN):iI PS (dG a) (dG b):=(fP (II _ _) (fP (show iI [true] [_] [_] from ⟨rfl,trivial⟩) (mU _ _)))
theorem IJ (a b:gN):dG a=dG b↔a=b:=by
 refine⟨fun h=>?_,fun h=>by rw[h]⟩
 cases a;cases b
 simp only[dG] at h;obtain⟨h0,h⟩:=List.append_inj h (by simp)
 obtain⟨h1,h⟩:=List.append_inj h (by simp)
 have e0:=(PR _ _).1 h0
 have e1:=(wB _ _).1 h1
 have e2:=(pJ _ _).1 h
 subst e0 e1 e2;rfl
theorem Yt (s:gN):rd (dG s) 0 34=dG s:=iW (lM _)
theorem Yu (s x:gN):dP (dG s) 0 (dG x) 34=dG x:=eJ (lM _)
structure lI where
 rL:Int
 vQ:Int
 pM:Int
 qH:Int
 nK:Int
 qQ:Int
def fK (s:lI):List AV:=oZ s.rL++(oZ s.vQ++(oZ s.pM++(oZ s.qH++(oZ s.nK++(sD s.qQ)))))
@[simp] theorem fS (s:lI):(fK s).length=6:=by simp[fK]
theorem tN (s:lI):∀x∈fK s,Flat x:=by
 intro x hx;simp only[fK,List.mem_append,List.mem_singleton] at hx;rcases hx with hx|hx|hx|hx|hx|hx
 ·(exact lR _ _ hx)
 ·(exact lR _ _ hx)
 ·(exact lR _ _ hx)
 ·(exact lR _ _ hx)
 ·(exact lR _ _ hx)
 ·(exact eM _ _ hx)
theorem Cy (s:lI):(fK s)[0]? = some (.v (.int .i64 s.rL)):=rfl
theorem Ua (s:lI) (x:Int):dP (fK s) 0 ([.v (.int .i64 x)]) 1=fK { s with rL:=x }:=cA (bC _)
theorem Cz (s:lI):(fK s)[1]? = some (.v (.int .i64 s.vQ)):=(aK rfl (bC _)).trans (rfl)
theorem Ub (s:lI) (x:Int):dP (fK s) 1 ([.v (.int .i64 x)]) 2=fK { s with vQ:=x }:=(aC rfl rfl (bC _)).trans (bJ (cA (bC _)))
theorem Ax (s:lI):(fK s)[2]? = some (.v (.int .i64 s.pM)):=(aK rfl (bC _)).trans ((aK rfl (bC _)).trans (rfl))
theorem Rn (s:lI) (x:Int):dP (fK s) 2 ([.v (.int .i64 x)]) 3=fK { s with pM:=x }:=(aC rfl rfl (bC _)).trans (bJ ((aC rfl rfl (bC _)).trans (bJ (cA (bC _)))))
theorem Ay (s:lI):(fK s)[3]? = some (.v (.int .i64 s.qH)):=(aK rfl (bC _)).trans ((aK rfl (bC _)).trans ((aK rfl (bC _)).trans (rfl)))
theorem Ro (s:lI) (x:Int):dP (fK s) 3 ([.v (.int .i64 x)]) 4=fK { s with qH:=x }:=(aC rfl rfl (bC _)).trans (bJ ((aC rfl rfl (bC _)).trans (bJ ((aC rfl rfl (bC _)).trans (bJ (cA (bC _)))))))
theorem Az (s:lI):(fK s)[4]? = some (.v (.int .i64 s.nK)):=(aK rfl (bC _)).trans ((aK rfl (bC _)).trans ((aK rfl (bC _)).trans ((aK rfl (bC _)).trans (rfl))))
theorem Rp (s:lI) (x:Int):dP (fK s) 4 ([.v (.int .i64 x)]) 5=fK { s with nK:=x }:=(aC rfl rfl (bC _)).trans (bJ ((aC rfl rfl (bC _)).trans (bJ ((aC rfl rfl (bC _)).trans (bJ ((aC rfl rfl (bC _)).trans (bJ (cA (bC _)))))))))
theorem zH (s:lI):(fK s)[5]? = some (.v (.int .u64 s.qQ)):=(aK rfl (bC _)).trans ((aK rfl (bC _)).trans ((aK rfl (bC _)).trans ((aK rfl (bC _)).trans ((aK rfl (bC _)).trans (rfl)))))
theorem Pg (s:lI) (x:Int):dP (fK s) 5 ([.v (.int .u64 x)]) 6=fK { s with qQ:=x }:=(aC rfl rfl (bC _)).trans (bJ ((aC rfl rfl (bC _)).trans (bJ ((aC rfl rfl (bC _)).trans (bJ ((aC rfl rfl (bC _)).trans (bJ ((aC rfl rfl (bC _)).trans (bJ (eJ (aW _)))))))))))
def IK:lI:=⟨0,0,0,0,0,0⟩
def Ph:List Value:=[.int .i64 0]++([.int .i64 0]++([.int .i64 0]++([.int .i64 0]++([.int .i64 0]++([.int .u64 0])))))
theorem Rq:Ph.map AV.v=fK IK:=by simp only[Ph,List.map_append,List.map_cons,List.map_nil,jG,jH];rfl
def YX:List Bool:=[true]++([true]++([true]++([true]++([true]++([true])))))
theorem IL (a b:lI):iI YX (fK a) (fK b):=(fP (show iI [true] [_] [_] from ⟨rfl,trivial⟩) (fP (show iI [true] [_] [_] from ⟨rfl,trivial⟩) (fP (show iI [true] [_] [_] from ⟨rfl,trivial⟩) (fP (show iI [true] [_] [_] from ⟨rfl,trivial⟩) (fP (show iI [true] [_] [_] from ⟨rfl,trivial⟩) (show iI [true] [_] [_] from ⟨rfl,trivial⟩))))))
theorem PT (a b:lI):fK a=fK b↔a=b:=by
 refine⟨fun h=>?_,fun h=>by rw[h]⟩
 cases a;cases b
 simp only[fK] at h;obtain⟨h0,h⟩:=List.append_inj h (by simp)
 obtain⟨h1,h⟩:=List.append_inj h (by simp)
 obtain⟨h2,h⟩:=List.append_inj h (by simp)
 obtain⟨h3,h⟩:=List.append_inj h (by simp)
 obtain⟨h4,h⟩:=List.append_inj h (by simp)
 have e0:=(wB _ _).1 h0
 have e1:=(wB _ _).1 h1
 have e2:=(wB _ _).1 h2
 have e3:=(wB _ _).1 h3
 have e4:=(wB _ _).1 h4
 have e5:=(Hp _ _).1 h
 subst e0 e1 e2 e3 e4 e5;rfl
structure Config where
 lS:lI
 jK:Int
 Gx:Int
 AK:qP
 dY:bX
 iA:AV
def bQ (s:Config):List AV:=fK s.lS++(sD s.jK++(sD s.Gx++(fY s.AK++(aY s.dY++([s.iA])))))
@[simp] theorem bL (s:Config):(bQ s).length=45:=by simp[bQ]
theorem tD (s:Config) (h0:Flat s.iA):∀x∈bQ s,Flat x:=by
 intro x hx;simp only[bQ,List.mem_append,List.mem_singleton] at hx;rcases hx with hx|hx|hx|hx|hx|hx
 ·(exact tN _ _ hx)
 ·(exact eM _ _ hx)
 ·(exact eM _ _ hx)
 ·(exact iE _ _ hx)
 ·(exact dH _ _ hx)
 ·(subst hx;assumption)
theorem BX (s:Config):rd (bQ s) 0 6=fK s.lS:=gF (fS _)
theorem BY (s:Config) (x:lI):dP (bQ s) 0 (fK x) 6=bQ { s with lS:=x }:=cA (fS _)
theorem wC (s:Config):(bQ s)[0]? = some (.v (.int .i64 s.lS.rL)):=(eK (by rw[fS];decide)).trans (Cy _)
theorem wD (s:Config):(bQ s)[1]? = some (.v (.int .i64 s.lS.vQ)):=(eK (by rw[fS];decide)).trans (Cz _)
theorem uA (s:Config):(bQ s)[2]? = some (.v (.int .i64 s.lS.pM)):=(eK (by rw[fS];decide)).trans (Ax _)
theorem uB (s:Config):(bQ s)[3]? = some (.v (.int .i64 s.lS.qH)):=(eK (by rw[fS];decide)).trans (Ay _)
theorem uC (s:Config):(bQ s)[4]? = some (.v (.int .i64 s.lS.nK)):=(eK (by rw[fS];decide)).trans (Az _)
theorem tQ (s:Config):(bQ s)[5]? = some (.v (.int .u64 s.lS.qQ)):=(eK (by rw[fS];decide)).trans (zH _)
theorem Hv (s:Config):(bQ s)[6]? = some (.v (.int .u64 s.jK)):=(aK rfl (fS _)).trans (rfl)
theorem BZ (s:Config) (x:Int):dP (bQ s) 6 ([.v (.int .u64 x)]) 7=bQ { s with jK:=x }:=(aC rfl rfl (fS _)).trans (bJ (cA (aW _)))
theorem Pj (s:Config):(bQ s)[7]? = some (.v (.int .u64 s.Gx)):=(aK rfl (fS _)).trans ((aK rfl (aW _)).trans (rfl))
theorem Rr (s:Config) (x:Int):dP (bQ s) 7 ([.v (.int .u64 x)]) 8=bQ { s with Gx:=x }:=(aC rfl rfl (fS _)).trans (bJ ((aC rfl rfl (aW _)).trans (bJ (cA (aW _)))))
theorem Kg (s:Config):rd (bQ s) 8 4=fY s.AK:=(bB rfl (fS _)).trans ((bB rfl (aW _)).trans ((bB rfl (aW _)).trans (gF (dW _))))
theorem CA (s:Config) (x:qP):dP (bQ s) 8 (fY x) 12=bQ { s with AK:=x }:=(aC rfl rfl (fS _)).trans (bJ ((aC rfl rfl (aW _)).trans (bJ ((aC rfl rfl (aW _)).trans (bJ (cA (dW _)))))))
theorem Pk (s:Config):rd (bQ s) 12 32=aY s.dY:=(bB rfl (fS _)).trans ((bB rfl (aW _)).trans ((bB rfl (aW _)).trans ((bB rfl (dW _)).trans (gF (aO _)))))
theorem Pl (s:Config) (x:bX):dP (bQ s) 12 (aY x) 44=bQ { s with dY:=x }:=(aC rfl rfl (fS _)).trans (bJ ((aC rfl rfl (aW _)).trans (bJ ((aC rfl rfl (aW _)).trans (bJ ((aC rfl rfl (dW _)).trans (bJ (cA (aO _)))))))))
theorem yI (s:Config):(bQ s)[44]? = some (s.iA):=(aK rfl (fS _)).trans ((aK rfl (aW _)).trans ((aK rfl (aW _)).trans ((aK rfl (dW _)).trans ((aK rfl (aO _)).trans (rfl)))))
theorem Kh (s:Config) (x:AV):dP (bQ s) 44 ([x]) 45=bQ { s with iA:=x }:=(aC rfl rfl (fS _)).trans (bJ ((aC rfl rfl (aW _)).trans (bJ ((aC rfl rfl (aW _)).trans (bJ ((aC rfl rfl (dW _)).trans (bJ ((aC rfl rfl (aO _)).trans (bJ (eJ rfl))))))))))
def nC:Config:=⟨IK,0,0,ES,dT,(.v (.slice none 0 0))⟩
def Pm:List Value:=Ph++([.int .u64 0]++([.int .u64 0]++(Yl++(tL++([.slice none 0 0])))))
theorem Rs:Pm.map AV.v=bQ nC:=by simp only[Pm,List.map_append,List.map_cons,List.map_nil,jG,jH,Rq];rfl
theorem Wz (st:St) (s:Config):ET st (bQ s)=cH (dA st s.iA) fun aAd=>some (bQ { s with iA:=aAd }):=by
 simp only[bQ,vI,kS (tN _),kS (eM _),kS (iE _),kS (dH _),xK,oC,cN]
theorem CB (s:Config):rd (bQ s) 0 45=bQ s:=iW (bL _)
theorem CC (s x:Config):dP (bQ s) 0 (bQ x) 45=bQ x:=eJ (bL _)
structure iV where
 has:Bool
 aI:Int
 root:bX
def jC (s:iV):List AV:=tY s.has++(sD s.aI++(aY s.root))
@[simp] theorem qV (s:iV):(jC s).length=34:=by simp[jC]
theorem VU (s:iV):∀x∈jC s,Flat x:=by
 intro x hx;simp only[jC,List.mem_append,List.mem_singleton] at hx;rcases hx with hx|hx|hx
 ·(exact sG _ _ hx)
 ·(exact eM _ _ hx)
 ·(exact dH _ _ hx)
theorem IM (s:iV):(jC s)[0]? = some (.v (.bool s.has)):=rfl
theorem PU (s:iV) (x:Bool):dP (jC s) 0 ([.v (.bool x)]) 1=jC { s with has:=x }:=cA (gS _)
theorem Yv (s:iV):(jC s)[1]? = some (.v (.int .u64 s.aI)):=(aK rfl (gS _)).trans (rfl)
theorem CD (s:iV) (x:Int):dP (jC s) 1 ([.v (.int .u64 x)]) 2=jC { s with aI:=x }:=(aC rfl rfl (gS _)).trans (bJ (cA (aW _)))
theorem IN (s:iV):rd (jC s) 2 32=aY s.root:=(bB rfl (gS _)).trans ((bB rfl (aW _)).trans (iW (aO _)))
theorem IP (s:iV) (x:bX):dP (jC s) 2 (aY x) 34=jC { s with root:=x }:=(aC rfl rfl (gS _)).trans (bJ ((aC rfl rfl (aW _)).trans (bJ (eJ (aO _)))))
def gI:iV:=⟨false,0,dT⟩
def YY:List Value:=[.bool false]++([.int .u64 0]++(tL))
theorem YZ:YY.map AV.v=jC gI:=by simp only[YY,List.map_append,List.map_cons,List.map_nil,jG,jH];rfl
def aEN:List Bool:=[false]++([true]++(Hq))
theorem VV (a b:iV):iI aEN (jC a) (jC b):=(fP (show iI [false] [_] [_] from trivial) (fP (show iI [true] [_] [_] from ⟨rfl,trivial⟩) (mU _ _)))
theorem D5 (a b:iV):jC a=jC b↔a=b:=by
 refine⟨fun h=>?_,fun h=>by rw[h]⟩
 cases a;cases b
 simp only[jC] at h;obtain⟨h0,h⟩:=List.append_inj h (by simp)
 obtain⟨h1,h⟩:=List.append_inj h (by simp)
 have e0:=(ER _ _).1 h0
 have e1:=(Hp _ _).1 h1
 have e2:=(pJ _ _).1 h
 subst e0 e1 e2;rfl
theorem PV (s:iV):rd (jC s) 0 34=jC s:=iW (qV _)
theorem PW (s x:iV):dP (jC s) 0 (jC x) 34=jC x:=eJ (qV _)
structure oY where
 slot:Int
 root:bX
 target:fB
 dX:AV
def eH (s:oY):List AV:=sD s.slot++(aY s.root++(bV s.target++([s.dX])))
@[simp] theorem gW (s:oY):(eH s).length=67:=by simp[eH]
theorem Qe (s:oY) (h0:Flat s.dX):∀x∈eH s,Flat x:=by
 intro x hx;simp only[eH,List.mem_append,List.mem_singleton] at hx;rcases hx with hx|hx|hx|hx
 ·(exact eM _ _ hx)
 ·(exact dH _ _ hx)
 ·(exact cT _ _ hx)
 ·(subst hx;assumption)
theorem IQ (s:oY):(eH s)[0]? = some (.v (.int .u64 s.slot)):=rfl
theorem PX (s:oY) (x:Int):dP (eH s) 0 ([.v (.int .u64 x)]) 1=eH { s with slot:=x }:=cA (aW _)
theorem PY (s:oY):rd (eH s) 1 32=aY s.root:=(bB rfl (aW _)).trans (gF (aO _))
theorem PZ (s:oY) (x:bX):dP (eH s) 1 (aY x) 33=eH { s with root:=x }:=(aC rfl rfl (aW _)).trans (bJ (cA (aO _)))
theorem CE (s:oY):rd (eH s) 33 33=bV s.target:=(bB rfl (aW _)).trans ((bB rfl (aO _)).trans (gF (bO _)))
theorem CF (s:oY) (x:fB):dP (eH s) 33 (bV x) 66=eH { s with target:=x }:=(aC rfl rfl (aW _)).trans (bJ ((aC rfl rfl (aO _)).trans (bJ (cA (bO _)))))
theorem Hw (s:oY):(eH s)[33]? = some (.v (.int .u64 s.target.aI)):=(aK rfl (aW _)).trans ((aK rfl (aO _)).trans ((eK (by rw[bO];decide)).trans (jR _)))
theorem Jo (s:oY) (x:Int):dP (eH s) 33 ([.v (.int .u64 x)]) 34=eH { s with target:={ s.target with aI:=x }}:=(aC rfl rfl (aW _)).trans (bJ ((aC rfl rfl (aO _)).trans (bJ ((tZ (by rw[bO];decide)).trans (Fw (Br _ x))))))
theorem Lw (s:oY):rd (eH s) 34 32=aY s.target.root:=(bB rfl (aW _)).trans ((bB rfl (aO _)).trans ((rQ (by rw[bO];decide)).trans (tO _)))
theorem Lx (s:oY) (x:bX):dP (eH s) 34 (aY x) 66=eH { s with target:={ s.target with root:=x }}:=(aC rfl rfl (aW _)).trans (bJ ((aC rfl rfl (aO _)).trans (bJ ((tZ (by rw[bO];decide)).trans (Fw (Ep _ x))))))
theorem Ds (s:oY):(eH s)[66]? = some (s.dX):=(aK rfl (aW _)).trans ((aK rfl (aO _)).trans ((aK rfl (bO _)).trans (rfl)))
theorem QA (s:oY) (x:AV):dP (eH s) 66 ([x]) 67=eH { s with dX:=x }:=(aC rfl rfl (aW _)).trans (bJ ((aC rfl rfl (aO _)).trans (bJ ((aC rfl rfl (bO _)).trans (bJ (eJ rfl))))))
def Hc:oY:=⟨0,dT,iB,(.v (.slice none 0 0))⟩
def D6:List Value:=[.int .u64 0]++(tL++(Cf++([.slice none 0 0])))
theorem VW:D6.map AV.v=eH Hc:=by simp only[D6,List.map_append,List.map_cons,List.map_nil,jG,jH,Ai];rfl
theorem kJ (st:St) (s:oY):ET st (eH s)=cH (dA st s.dX) fun VX=>some (eH { s with dX:=VX }):=by
 simp only[eH,vI,kS (eM _),kS (dH _),kS (cT _),xK,oC,cN]
theorem VY (s:oY):rd (eH s) 0 67=eH s:=iW (gW _)
theorem VZ (s x:oY):dP (eH s) 0 (eH x) 67=eH x:=eJ (gW _)
structure Claim where
 source:Int
 target:Int
 root:bX
 dX:AV
def gM (s:Claim):List AV:=sD s.source++(sD s.target++(aY s.root++([s.dX])))
@[simp] theorem iH (s:Claim):(gM s).length=35:=by simp[gM]
theorem Gs (s:Claim) (h0:Flat s.dX):∀x∈gM s,Flat x:=by
 intro x hx;simp only[gM,List.mem_append,List.mem_singleton] at hx;rcases hx with hx|hx|hx|hx
 ·(exact eM _ _ hx)
 ·(exact eM _ _ hx)
 ·(exact dH _ _ hx)
 ·(subst hx;assumption)
theorem vB (s:Claim):(gM s)[0]? = some (.v (.int .u64 s.source)):=rfl
theorem Fi (s:Claim) (x:Int):dP (gM s) 0 ([.v (.int .u64 x)]) 1=gM { s with source:=x }:=cA (aW _)
theorem vC (s:Claim):(gM s)[1]? = some (.v (.int .u64 s.target)):=(aK rfl (aW _)).trans (rfl)
theorem Fj (s:Claim) (x:Int):dP (gM s) 1 ([.v (.int .u64 x)]) 2=gM { s with target:=x }:=(aC rfl rfl (aW _)).trans (bJ (cA (aW _)))
theorem CG (s:Claim):rd (gM s) 2 32=aY s.root:=(bB rfl (aW _)).trans ((bB rfl (aW _)).trans (gF (aO _)))
theorem Ki (s:Claim) (x:bX):dP (gM s) 2 (aY x) 34=gM { s with root:=x }:=(aC rfl rfl (aW _)).trans (bJ ((aC rfl rfl (aW _)).trans (bJ (cA (aO _)))))
theorem tG (s:Claim):(gM s)[34]? = some (s.dX):=(aK rfl (aW _)).trans ((aK rfl (aW _)).trans ((aK rfl (aO _)).trans (rfl)))
theorem CH (s:Claim) (x:AV):dP (gM s) 34 ([x]) 35=gM { s with dX:=x }:=(aC rfl rfl (aW _)).trans (bJ ((aC rfl rfl (aW _)).trans (bJ ((aC rfl rfl (aO _)).trans (bJ (eJ rfl))))))
def IS:Claim:=⟨0,0,dT,(.v (.slice none 0 0))⟩
def Rt:List Value:=[.int .u64 0]++([.int .u64 0]++(tL++([.slice none 0 0])))
theorem Yw:Rt.map AV.v=gM IS:=by simp only[Rt,List.map_append,List.map_cons,List.map_nil,jG,jH];rfl
theorem uU (st:St) (s:Claim):ET st (gM s)=cH (dA st s.dX) fun VX=>some (gM { s with dX:=VX }):=by
 simp only[gM,vI,kS (eM _),kS (dH _),xK,oC,cN]
structure fQ where
 first:Claim
 second:Claim
def bT (s:fQ):List AV:=gM s.first++(gM s.second)
@[simp] theorem fJ (s:fQ):(bT s).length=70:=by simp[bT]
theorem Gt (s:fQ) (h0:Flat s.first.dX) (h1:Flat s.second.dX):∀x∈bT s,Flat x:=by
 intro x hx;simp only[bT,List.mem_append,List.mem_singleton] at hx;rcases hx with hx|hx
 ·(exact Gs _ (by assumption) _ hx)
 ·(exact Gs _ (by assumption) _ hx)
theorem Pn (s:fQ):rd (bT s) 0 35=gM s.first:=gF (iH _)
theorem Po (s:fQ) (x:Claim):dP (bT s) 0 (gM x) 35=bT { s with first:=x }:=cA (iH _)
theorem zS (s:fQ):(bT s)[0]? = some (.v (.int .u64 s.first.source)):=(eK (by rw[iH];decide)).trans (vB _)
theorem zT (s:fQ):(bT s)[1]? = some (.v (.int .u64 s.first.target)):=(eK (by rw[iH];decide)).trans (vC _)
theorem nJ (s:fQ):(bT s)[34]? = some (s.first.dX):=(eK (by rw[iH];decide)).trans (tG _)
theorem Ly (s:fQ):rd (bT s) 35 35=gM s.second:=(bB rfl (iH _)).trans (iW (iH _))
theorem Lz (s:fQ) (x:Claim):dP (bT s) 35 (gM x) 70=bT { s with second:=x }:=(aC rfl rfl (iH _)).trans (bJ (eJ (iH _)))
theorem zI (s:fQ):(bT s)[35]? = some (.v (.int .u64 s.second.source)):=(aK rfl (iH _)).trans (vB _)
theorem zU (s:fQ) (x:Int):dP (bT s) 35 ([.v (.int .u64 x)]) 36=bT { s with second:={ s.second with source:=x }}:=(aC rfl rfl (iH _)).trans (bJ (Fi _ x))
theorem zJ (s:fQ):(bT s)[36]? = some (.v (.int .u64 s.second.target)):=(aK rfl (iH _)).trans (vC _)
theorem zV (s:fQ) (x:Int):dP (bT s) 36 ([.v (.int .u64 x)]) 37=bT { s with second:={ s.second with target:=x }}:=(aC rfl rfl (iH _)).trans (bJ (Fj _ x))
theorem Da (s:fQ) (x:bX):dP (bT s) 37 (aY x) 69=bT { s with second:={ s.second with root:=x }}:=(aC rfl rfl (iH _)).trans (bJ (Ki _ x))
theorem mS (s:fQ):(bT s)[69]? = some (s.second.dX):=(aK rfl (iH _)).trans (tG _)
def Ru:fQ:=⟨IS,IS⟩
def Db:List Value:=Rt++(Rt)
theorem Hx:Db.map AV.v=bT Ru:=by simp only[Db,List.map_append,List.map_cons,List.map_nil,jG,jH,Yw];rfl
theorem qS (st:St) (s:fQ):ET st (bT s)=cH (dA st s.first.dX) fun x_first_vals=>cH (dA st s.second.dX) fun x_second_vals=>some (bT { s with first:={ s.first with dX:=x_first_vals },second:={ s.second with dX:=x_second_vals }}):=by
 simp only[bT,vI,uU,oC,cN]
theorem Uc (s:fQ):rd (bT s) 0 70=bT s:=iW (fJ _)
theorem Ud (s x:fQ):dP (bT s) 0 (bT x) 70=bT x:=eJ (fJ _)
structure Table where
 ck:fB
 iA:AV
def bZ (s:Table):List AV:=bV s.ck++([s.iA])
@[simp] theorem fO (s:Table):(bZ s).length=34:=by simp[bZ]
theorem Gu (s:Table) (h0:Flat s.iA):∀x∈bZ s,Flat x:=by
 intro x hx;simp only[bZ,List.mem_append,List.mem_singleton] at hx;rcases hx with hx|hx
 ·(exact cT _ _ hx)
 ·(subst hx;assumption)
theorem QB (s:Table):rd (bZ s) 0 33=bV s.ck:=gF (bO _)
theorem QC (s:Table) (x:fB):dP (bZ s) 0 (bV x) 33=bZ { s with ck:=x }:=cA (bO _)
theorem Ma (s:Table):(bZ s)[0]? = some (.v (.int .u64 s.ck.aI)):=(eK (by rw[bO];decide)).trans (jR _)
theorem Rv (s:Table):rd (bZ s) 1 32=aY s.ck.root:=(rQ (by rw[bO];decide)).trans (tO _)
theorem Bg (s:Table):(bZ s)[33]? = some (s.iA):=(aK rfl (bO _)).trans (rfl)
theorem IT (s:Table) (x:AV):dP (bZ s) 33 ([x]) 34=bZ { s with iA:=x }:=(aC rfl rfl (bO _)).trans (bJ (eJ rfl))
def iT:Table:=⟨iB,(.v (.slice none 0 0))⟩
def Yx:List Value:=Cf++([.slice none 0 0])
theorem Yy:Yx.map AV.v=bZ iT:=by simp only[Yx,List.map_append,List.map_cons,List.map_nil,jG,jH,Ai];rfl
theorem sO (st:St) (s:Table):ET st (bZ s)=cH (dA st s.iA) fun aAd=>some (bZ { s with iA:=aAd }):=by
 simp only[bZ,vI,kS (cT _),xK,oC,cN]
theorem IU (s:Table):rd (bZ s) 0 34=bZ s:=iW (fO _)
theorem IV (s x:Table):dP (bZ s) 0 (bZ x) 34=bZ x:=eJ (fO _)
structure Request where
 tagged:wT
 block:bX
 tries:Int
 due:Int
def cX (s:Request):List AV:=mA s.tagged++(aY s.block++(oZ s.tries++(sD s.due)))
@[simp] theorem gH (s:Request):(cX s).length=35:=by simp[cX]
theorem jL (s:Request):∀x∈cX s,Flat x:=by
 intro x hx;simp only[cX,List.mem_append,List.mem_singleton] at hx;rcases hx with hx|hx|hx|hx
 ·(exact Pc _ _ hx)
 ·(exact dH _ _ hx)
 ·(exact lR _ _ hx)
 ·(exact eM _ _ hx)
theorem Pp (s:Request) (x:wT):dP (cX s) 0 (mA x) 1=cX { s with tagged:=x }:=cA (gO _)
theorem Et (s:Request):(cX s)[0]? = some (.v (.int .u64 s.tagged.tag)):=(eK (by rw[gO];decide)).trans (zG _)
theorem Rw (s:Request):rd (cX s) 1 32=aY s.block:=(bB rfl (gO _)).trans (gF (aO _))
theorem Rx (s:Request) (x:bX):dP (cX s) 1 (aY x) 33=cX { s with block:=x }:=(aC rfl rfl (gO _)).trans (bJ (cA (aO _)))
theorem Pq (s:Request):(cX s)[33]? = some (.v (.int .i64 s.tries)):=(aK rfl (gO _)).trans ((aK rfl (aO _)).trans (rfl))
theorem Ry (s:Request) (x:Int):dP (cX s) 33 ([.v (.int .i64 x)]) 34=cX { s with tries:=x }:=(aC rfl rfl (gO _)).trans (bJ ((aC rfl rfl (aO _)).trans (bJ (cA (bC _)))))
theorem Ue (s:Request):(cX s)[34]? = some (.v (.int .u64 s.due)):=(aK rfl (gO _)).trans ((aK rfl (aO _)).trans ((aK rfl (bC _)).trans (rfl)))
theorem Yz (s:Request) (x:Int):dP (cX s) 34 ([.v (.int .u64 x)]) 35=cX { s with due:=x }:=(aC rfl rfl (gO _)).trans (bJ ((aC rfl rfl (aO _)).trans (bJ ((aC rfl rfl (bC _)).trans (bJ (eJ (aW _)))))))
def cP:Request:=⟨Vb,dT,0,0⟩
def Ps:List Value:=Jg++(tL++([.int .i64 0]++([.int .u64 0])))
theorem Za:Ps.map AV.v=cX cP:=by simp only[Ps,List.map_append,List.map_cons,List.map_nil,jG,jH,Jh];rfl
theorem Zb (s:Request):rd (cX s) 0 35=cX s:=iW (gH _)
theorem Zc (s x:Request):dP (cX s) 0 (cX x) 35=cX x:=eJ (gH _)
structure Command where
 head:bX
 safe:bX
 fin:bX
def eI (s:Command):List AV:=aY s.head++(aY s.safe++(aY s.fin))
@[simp] theorem mN (s:Command):(eI s).length=96:=by simp[eI]
theorem rM (s:Command):∀x∈eI s,Flat x:=by
 intro x hx;simp only[eI,List.mem_append,List.mem_singleton] at hx;rcases hx with hx|hx|hx
 ·(exact dH _ _ hx)
 ·(exact dH _ _ hx)
 ·(exact dH _ _ hx)
theorem Uf (s:Command) (x:bX):dP (eI s) 0 (aY x) 32=eI { s with head:=x }:=cA (aO _)
theorem Ug (s:Command) (x:bX):dP (eI s) 32 (aY x) 64=eI { s with safe:=x }:=(aC rfl rfl (aO _)).trans (bJ (cA (aO _)))
theorem Zd (s:Command) (x:bX):dP (eI s) 64 (aY x) 96=eI { s with fin:=x }:=(aC rfl rfl (aO _)).trans (bJ ((aC rfl rfl (aO _)).trans (bJ (eJ (aO _)))))
def Ze:Command:=⟨dT,dT,dT⟩
def Hy:List Value:=tL++(tL++(tL))
theorem Mb:Hy.map AV.v=eI Ze:=by simp only[Hy,List.map_append,List.map_cons,List.map_nil,jG,jH];rfl
def QD:List Bool:=Hq++(Hq++(Hq))
theorem CI (a b:Command):iI QD (eI a) (eI b):=(fP (mU _ _) (fP (mU _ _) (mU _ _)))
theorem IW (a b:Command):eI a=eI b↔a=b:=by
 refine⟨fun h=>?_,fun h=>by rw[h]⟩
 cases a;cases b
 simp only[eI] at h;obtain⟨h0,h⟩:=List.append_inj h (by simp)
 obtain⟨h1,h⟩:=List.append_inj h (by simp)
 have e0:=(pJ _ _).1 h0
 have e1:=(pJ _ _).1 h1
 have e2:=(pJ _ _).1 h
 subst e0 e1 e2;rfl
theorem Zf (s:Command):rd (eI s) 0 96=eI s:=iW (mN _)
theorem Zg (s x:Command):dP (eI s) 0 (eI x) 96=eI x:=eJ (mN _)
structure tW where
 dR:AV
 gT:AV
def eW (s:tW):List AV:=[s.dR]++([s.gT])
@[simp] theorem dD (s:tW):(eW s).length=2:=by simp[eW]
theorem pZ (s:tW) (h0:Flat s.dR) (h1:Flat s.gT):∀x∈eW s,Flat x:=by
 intro x hx;simp only[eW,List.mem_append,List.mem_singleton] at hx;rcases hx with hx|hx
 ·(subst hx;assumption)
 ·(subst hx;assumption)
theorem uL (s:tW):(eW s)[0]? = some (s.dR):=rfl
theorem Fk (s:tW) (x:AV):dP (eW s) 0 ([x]) 1=eW { s with dR:=x }:=cA rfl
theorem wL (s:tW):(eW s)[1]? = some (s.gT):=(aK rfl rfl).trans (rfl)
theorem Hz (s:tW) (x:AV):dP (eW s) 1 ([x]) 2=eW { s with gT:=x }:=(aC rfl rfl rfl).trans (bJ (eJ rfl))
def Kz:tW:=⟨(.v (.slice none 0 0)),(.v (.slice none 0 0))⟩
def Zh:List Value:=[.slice none 0 0]++([.slice none 0 0])
theorem Zi:Zh.map AV.v=eW Kz:=by simp only[Zh,List.map_append,List.map_cons,List.map_nil,jG,jH];rfl
theorem D7 (st:St) (s:tW):ET st (eW s)=cH (dA st s.dR) fun x_latest=>cH (dA st s.gT) fun x_equiv=>some (eW { s with dR:=x_latest,gT:=x_equiv }):=by
 simp only[eW,vI,xK,oC,cN]
theorem IX (s:tW):rd (eW s) 0 2=eW s:=iW (dD _)
theorem IY (s x:tW):dP (eW s) 0 (eW x) 2=eW x:=eJ (dD _)
structure jZ where
 dS:fB
 fin:fB
def eP (s:jZ):List AV:=bV s.dS++(bV s.fin)
@[simp] theorem cU (s:jZ):(eP s).length=66:=by simp[eP]
theorem kO (s:jZ):∀x∈eP s,Flat x:=by
 intro x hx;simp only[eP,List.mem_append,List.mem_singleton] at hx;rcases hx with hx|hx
 ·(exact cT _ _ hx)
 ·(exact cT _ _ hx)
theorem Dc (s:jZ):rd (eP s) 0 33=bV s.dS:=gF (bO _)
theorem Dd (s:jZ) (x:fB):dP (eP s) 0 (bV x) 33=eP { s with dS:=x }:=cA (bO _)
theorem sS (s:jZ):(eP s)[0]? = some (.v (.int .u64 s.dS.aI)):=(eK (by rw[bO];decide)).trans (jR _)
theorem uD (s:jZ):rd (eP s) 1 32=aY s.dS.root:=(rQ (by rw[bO];decide)).trans (tO _)
theorem Fl (s:jZ):rd (eP s) 33 33=bV s.fin:=(bB rfl (bO _)).trans (iW (bO _))
theorem Fm (s:jZ) (x:fB):dP (eP s) 33 (bV x) 66=eP { s with fin:=x }:=(aC rfl rfl (bO _)).trans (bJ (eJ (bO _)))
theorem tR (s:jZ):(eP s)[33]? = some (.v (.int .u64 s.fin.aI)):=(aK rfl (bO _)).trans (jR _)
theorem wE (s:jZ):rd (eP s) 34 32=aY s.fin.root:=(bB rfl (bO _)).trans (tO _)
def Rz:jZ:=⟨iB,iB⟩
def De:List Value:=Cf++(Cf)
theorem Ia:De.map AV.v=eP Rz:=by simp only[De,List.map_append,List.map_cons,List.map_nil,jG,jH,Ai];rfl
def EU:List Bool:=Th++(Th)
theorem Zj (a b:jZ):iI EU (eP a) (eP b):=(fP (sH _ _) (sH _ _))
theorem CJ (a b:jZ):eP a=eP b↔a=b:=by
 refine⟨fun h=>?_,fun h=>by rw[h]⟩
 cases a;cases b
 simp only[eP] at h;obtain⟨h0,h⟩:=List.append_inj h (by simp)
 have e0:=(mF _ _).1 h0
 have e1:=(mF _ _).1 h
 subst e0 e1;rfl
structure yJ where
 early:AV
 bS:AV
def jQ (s:yJ):List AV:=[s.early]++([s.bS])
@[simp] theorem gX (s:yJ):(jQ s).length=2:=by simp[jQ]
theorem My (s:yJ) (h0:Flat s.early) (h1:Flat s.bS):∀x∈jQ s,Flat x:=by
 intro x hx;simp only[jQ,List.mem_append,List.mem_singleton] at hx;rcases hx with hx|hx
 ·(subst hx;assumption)
 ·(subst hx;assumption)
theorem uM (s:yJ):(jQ s)[0]? = some (s.early):=rfl
theorem Fo (s:yJ) (x:AV):dP (jQ s) 0 ([x]) 1=jQ { s with early:=x }:=cA rfl
theorem rZ (s:yJ):(jQ s)[1]? = some (s.bS):=(aK rfl rfl).trans (rfl)
theorem Ba (s:yJ) (x:AV):dP (jQ s) 1 ([x]) 2=jQ { s with bS:=x }:=(aC rfl rfl rfl).trans (bJ (eJ rfl))
def Ea:yJ:=⟨(.v (.slice none 0 0)),(.v (.slice none 0 0))⟩
def Vc:List Value:=[.slice none 0 0]++([.slice none 0 0])
theorem EW:Vc.map AV.v=jQ Ea:=by simp only[Vc,List.map_append,List.map_cons,List.map_nil,jG,jH];rfl
theorem WA (st:St) (s:yJ):ET st (jQ s)=cH (dA st s.early) fun x_early=>cH (dA st s.bS) fun x_orphans=>some (jQ { s with early:=x_early,bS:=x_orphans }):=by
 simp only[jQ,vI,xK,oC,cN]
structure Fc where
 nodes:AV
def mD (s:Fc):List AV:=[s.nodes]
@[simp] theorem lY (s:Fc):(mD s).length=1:=by simp[mD]
theorem vP (s:Fc) (h0:Flat s.nodes):∀x∈mD s,Flat x:=by
 intro x hx;simp only[mD,List.mem_append,List.mem_singleton] at hx;(subst hx;assumption)
theorem wM (s:Fc):(mD s)[0]? = some (s.nodes):=rfl
theorem Ib (s:Fc) (x:AV):dP (mD s) 0 ([x]) 1=mD { s with nodes:=x }:=eJ rfl
def Qj:Fc:=⟨(.v (.slice none 0 0))⟩
def WB:List Value:=[.slice none 0 0]
theorem QE:WB.map AV.v=mD Qj:=by simp only[WB,List.map_append,List.map_cons,List.map_nil,jG,jH];rfl
theorem D8 (st:St) (s:Fc):ET st (mD s)=cH (dA st s.nodes) fun x_nodes=>some (mD { s with nodes:=x_nodes }):=by
 simp only[mD,vI,xK,oC,cN]
structure aM where
 cFg:Config
 eZ:tW
 aG:jZ
 dZ:yJ
 tree:Fc
 now:Int
 iK:bX
 tables:AV
def aA (s:aM):List AV:=bQ s.cFg++(eW s.eZ++(eP s.aG++(jQ s.dZ++(mD s.tree++(sD s.now++(aY s.iK++([s.tables])))))))
@[simp] theorem cZ (s:aM):(aA s).length=150:=by simp[aA]
theorem Sk (s:aM) (h0:Flat s.cFg.iA) (h1:Flat s.eZ.dR) (h2:Flat s.eZ.gT) (h3:Flat s.dZ.early) (h4:Flat s.dZ.bS) (h5:Flat s.tree.nodes) (h6:Flat s.tables):∀x∈aA s,Flat x:=by
 intro x hx;simp only[aA,List.mem_append,List.mem_singleton] at hx;rcases hx with hx|hx|hx|hx|hx|hx|hx|hx
 ·(exact tD _ (by assumption) _ hx)
 ·(exact pZ _ (by assumption) (by assumption) _ hx)
 ·(exact kO _ _ hx)
 ·(exact My _ (by assumption) (by assumption) _ hx)
 ·(exact vP _ (by assumption) _ hx)
 ·(exact eM _ _ hx)
 ·(exact dH _ _ hx)
 ·(subst hx;assumption)
theorem Uh (s:aM):rd (aA s) 0 45=bQ s.cFg:=gF (bL _)
theorem Ui (s:aM) (x:Config):dP (aA s) 0 (bQ x) 45=aA { s with cFg:=x }:=cA (bL _)
theorem zK (s:aM):(aA s)[0]? = some (.v (.int .i64 s.cFg.lS.rL)):=(eK (by rw[bL];decide)).trans (wC _)
theorem zL (s:aM):(aA s)[1]? = some (.v (.int .i64 s.cFg.lS.vQ)):=(eK (by rw[bL];decide)).trans (wD _)
theorem xL (s:aM):(aA s)[2]? = some (.v (.int .i64 s.cFg.lS.pM)):=(eK (by rw[bL];decide)).trans (uA _)
theorem xM (s:aM):(aA s)[3]? = some (.v (.int .i64 s.cFg.lS.qH)):=(eK (by rw[bL];decide)).trans (uB _)
theorem pS (s:aM):(aA s)[4]? = some (.v (.int .i64 s.cFg.lS.nK)):=(eK (by rw[bL];decide)).trans (uC _)
theorem pG (s:aM):(aA s)[5]? = some (.v (.int .u64 s.cFg.lS.qQ)):=(eK (by rw[bL];decide)).trans (tQ _)
theorem Ic (s:aM):(aA s)[6]? = some (.v (.int .u64 s.cFg.jK)):=(eK (by rw[bL];decide)).trans (Hv _)
theorem Jp (s:aM):rd (aA s) 8 4=fY s.cFg.AK:=(rQ (by rw[bL];decide)).trans (Kg _)
theorem qA (s:aM):(aA s)[44]? = some (s.cFg.iA):=(eK (by rw[bL];decide)).trans (yI _)
theorem Jq (s:aM) (x:AV):dP (aA s) 44 ([x]) 45=aA { s with cFg:={ s.cFg with iA:=x }}:=(tZ (by rw[bL];decide)).trans (Fw (Kh _ x))
theorem Zk (s:aM):rd (aA s) 45 2=eW s.eZ:=(bB rfl (bL _)).trans (gF (dD _))
theorem Zl (s:aM) (x:tW):dP (aA s) 45 (eW x) 47=aA { s with eZ:=x }:=(aC rfl rfl (bL _)).trans (bJ (cA (dD _)))
theorem oP (s:aM):(aA s)[45]? = some (s.eZ.dR):=(aK rfl (bL _)).trans ((eK (by rw[dD];decide)).trans (uL _))
theorem Fz (s:aM) (x:AV):dP (aA s) 45 ([x]) 46=aA { s with eZ:={ s.eZ with dR:=x }}:=(aC rfl rfl (bL _)).trans (bJ ((tZ (by rw[dD];decide)).trans (Fw (Fk _ x))))
theorem pL (s:aM):(aA s)[46]? = some (s.eZ.gT):=(aK rfl (bL _)).trans ((eK (by rw[dD];decide)).trans (wL _))
theorem Ie (s:aM) (x:AV):dP (aA s) 46 ([x]) 47=aA { s with eZ:={ s.eZ with gT:=x }}:=(aC rfl rfl (bL _)).trans (bJ ((tZ (by rw[dD];decide)).trans (Fw (Hz _ x))))
theorem Pt (s:aM):rd (aA s) 47 66=eP s.aG:=(bB rfl (bL _)).trans ((bB rfl (dD _)).trans (gF (cU _)))
theorem Pu (s:aM) (x:jZ):dP (aA s) 47 (eP x) 113=aA { s with aG:=x }:=(aC rfl rfl (bL _)).trans (bJ ((aC rfl rfl (dD _)).trans (bJ (cA (cU _)))))
theorem Eu (s:aM):rd (aA s) 47 33=bV s.aG.dS:=(bB rfl (bL _)).trans ((bB rfl (dD _)).trans ((rQ (by rw[cU];decide)).trans (Dc _)))
theorem Ev (s:aM) (x:fB):dP (aA s) 47 (bV x) 80=aA { s with aG:={ s.aG with dS:=x }}:=(aC rfl rfl (bL _)).trans (bJ ((aC rfl rfl (dD _)).trans (bJ ((tZ (by rw[cU];decide)).trans (Fw (Dd _ x))))))
theorem wF (s:aM):(aA s)[47]? = some (.v (.int .u64 s.aG.dS.aI)):=(aK rfl (bL _)).trans ((aK rfl (dD _)).trans ((eK (by rw[cU];decide)).trans (sS _)))
theorem pT (s:aM):rd (aA s) 48 32=aY s.aG.dS.root:=(bB rfl (bL _)).trans ((bB rfl (dD _)).trans ((rQ (by rw[cU];decide)).trans (uD _)))
theorem Ga (s:aM):rd (aA s) 80 33=bV s.aG.fin:=(bB rfl (bL _)).trans ((bB rfl (dD _)).trans ((rQ (by rw[cU];decide)).trans (Fl _)))
theorem Gb (s:aM) (x:fB):dP (aA s) 80 (bV x) 113=aA { s with aG:={ s.aG with fin:=x }}:=(aC rfl rfl (bL _)).trans (bJ ((aC rfl rfl (dD _)).trans (bJ ((tZ (by rw[cU];decide)).trans (Fw (Fm _ x))))))
theorem wU (s:aM):(aA s)[80]? = some (.v (.int .u64 s.aG.fin.aI)):=(aK rfl (bL _)).trans ((aK rfl (dD _)).trans ((eK (by rw[cU];decide)).trans (tR _)))
theorem qL (s:aM):rd (aA s) 81 32=aY s.aG.fin.root:=(bB rfl (bL _)).trans ((bB rfl (dD _)).trans ((rQ (by rw[cU];decide)).trans (wE _)))
theorem oQ (s:aM):(aA s)[113]? = some (s.dZ.early):=(aK rfl (bL _)).trans ((aK rfl (dD _)).trans ((aK rfl (cU _)).trans ((eK (by rw[gX];decide)).trans (uM _))))
theorem Gc (s:aM) (x:AV):dP (aA s) 113 ([x]) 114=aA { s with dZ:={ s.dZ with early:=x }}:=(aC rfl rfl (bL _)).trans (bJ ((aC rfl rfl (dD _)).trans (bJ ((aC rfl rfl (cU _)).trans (bJ ((tZ (by rw[gX];decide)).trans (Fw (Fo _ x))))))))
theorem mR (s:aM):(aA s)[114]? = some (s.dZ.bS):=(aK rfl (bL _)).trans ((aK rfl (dD _)).trans ((aK rfl (cU _)).trans ((eK (by rw[gX];decide)).trans (rZ _))))
theorem Df (s:aM) (x:AV):dP (aA s) 114 ([x]) 115=aA { s with dZ:={ s.dZ with bS:=x }}:=(aC rfl rfl (bL _)).trans (bJ ((aC rfl rfl (dD _)).trans (bJ ((aC rfl rfl (cU _)).trans (bJ ((tZ (by rw[gX];decide)).trans (Fw (Ba _ x))))))))
theorem Kj (s:aM):rd (aA s) 115 1=mD s.tree:=(bB rfl (bL _)).trans ((bB rfl (dD _)).trans ((bB rfl (cU _)).trans ((bB rfl (gX _)).trans (gF (lY _)))))
theorem Bt (s:aM) (x:Fc):dP (aA s) 115 (mD x) 116=aA { s with tree:=x }:=(aC rfl rfl (bL _)).trans (bJ ((aC rfl rfl (dD _)).trans (bJ ((aC rfl rfl (cU _)).trans (bJ ((aC rfl rfl (gX _)).trans (bJ (cA (lY _)))))))))
theorem qB (s:aM):(aA s)[115]? = some (s.tree.nodes):=(aK rfl (bL _)).trans ((aK rfl (dD _)).trans ((aK rfl (cU _)).trans ((aK rfl (gX _)).trans ((eK (by rw[lY];decide)).trans (wM _)))))
theorem Jr (s:aM) (x:AV):dP (aA s) 115 ([x]) 116=aA { s with tree:={ s.tree with nodes:=x }}:=(aC rfl rfl (bL _)).trans (bJ ((aC rfl rfl (dD _)).trans (bJ ((aC rfl rfl (cU _)).trans (bJ ((aC rfl rfl (gX _)).trans (bJ ((tZ (by rw[lY];decide)).trans (Fw (Ib _ x))))))))))
theorem Kk (s:aM):(aA s)[116]? = some (.v (.int .u64 s.now)):=(aK rfl (bL _)).trans ((aK rfl (dD _)).trans ((aK rfl (cU _)).trans ((aK rfl (gX _)).trans ((aK rfl (lY _)).trans (rfl)))))
theorem IZ (s:aM) (x:Int):dP (aA s) 116 ([.v (.int .u64 x)]) 117=aA { s with now:=x }:=(aC rfl rfl (bL _)).trans (bJ ((aC rfl rfl (dD _)).trans (bJ ((aC rfl rfl (cU _)).trans (bJ ((aC rfl rfl (gX _)).trans (bJ ((aC rfl rfl (lY _)).trans (bJ (cA (aW _)))))))))))
theorem Ig (s:aM):rd (aA s) 117 32=aY s.iK:=(bB rfl (bL _)).trans ((bB rfl (dD _)).trans ((bB rfl (cU _)).trans ((bB rfl (gX _)).trans ((bB rfl (lY _)).trans ((bB rfl (aW _)).trans (gF (aO _)))))))
theorem Ih (s:aM) (x:bX):dP (aA s) 117 (aY x) 149=aA { s with iK:=x }:=(aC rfl rfl (bL _)).trans (bJ ((aC rfl rfl (dD _)).trans (bJ ((aC rfl rfl (cU _)).trans (bJ ((aC rfl rfl (gX _)).trans (bJ ((aC rfl rfl (lY _)).trans (bJ ((aC rfl rfl (aW _)).trans (bJ (cA (aO _)))))))))))))
theorem uN (s:aM):(aA s)[149]? = some (s.tables):=(aK rfl (bL _)).trans ((aK rfl (dD _)).trans ((aK rfl (cU _)).trans ((aK rfl (gX _)).trans ((aK rfl (lY _)).trans ((aK rfl (aW _)).trans ((aK rfl (aO _)).trans (rfl)))))))
theorem Uj (s:aM) (x:AV):dP (aA s) 149 ([x]) 150=aA { s with tables:=x }:=(aC rfl rfl (bL _)).trans (bJ ((aC rfl rfl (dD _)).trans (bJ ((aC rfl rfl (cU _)).trans (bJ ((aC rfl rfl (gX _)).trans (bJ ((aC rfl rfl (lY _)).trans (bJ ((aC rfl rfl (aW _)).trans (bJ ((aC rfl rfl (aO _)).trans (bJ (eJ rfl))))))))))))))
def gC:aM:=⟨nC,Kz,Rz,Ea,Qj,0,dT,(.v (.slice none 0 0))⟩
def Zm:List Value:=Pm++(Zh++(De++(Vc++(WB++([.int .u64 0]++(tL++([.slice none 0 0])))))))
theorem Zn:Zm.map AV.v=aA gC:=by simp only[Zm,List.map_append,List.map_cons,List.map_nil,jG,jH,Rs,Zi,Ia,EW,QE];rfl
theorem gD (st:St) (s:aM):ET st (aA s)=cH (dA st s.cFg.iA) fun x_config_bal=>cH (dA st s.eZ.dR) fun x_votes_latest=>cH (dA st s.eZ.gT) fun x_votes_equiv=>cH (dA st s.dZ.early) fun x_queues_early=>cH (dA st s.dZ.bS) fun x_queues_orphans=>cH (dA st s.tree.nodes) fun x_tree_nodes=>cH (dA st s.tables) fun x_tables=>some (aA { s with cFg:={ s.cFg with iA:=x_config_bal },eZ:={ s.eZ with dR:=x_votes_latest,gT:=x_votes_equiv },dZ:={ s.dZ with early:=x_queues_early,bS:=x_queues_orphans },tree:={ s.tree with nodes:=x_tree_nodes },tables:=x_tables }):=by
 simp only[aA,vI,Wz,D7,kS (kO _),WA,D8,kS (eM _),kS (dH _),xK,oC,cN]
theorem JA (s:aM):rd (aA s) 0 150=aA s:=iW (cZ _)
theorem JB (s x:aM):dP (aA s) 0 (aA x) 150=aA x:=eJ (cZ _)
structure State where
 store:aM
 iR:AV
 qN:AV
 cV:Int
 Lb:Bool
 last:Command
 overflow:Bool
 halted:Bool
def aP (s:State):List AV:=aA s.store++([s.iR]++([s.qN]++(sD s.cV++(tY s.Lb++(eI s.last++(tY s.overflow++(tY s.halted)))))))
@[simp] theorem Mc (s:State):(aP s).length=252:=by simp[aP]
theorem KY (s:State) (h0:Flat s.store.cFg.iA) (h1:Flat s.store.eZ.dR) (h2:Flat s.store.eZ.gT) (h3:Flat s.store.dZ.early) (h4:Flat s.store.dZ.bS) (h5:Flat s.store.tree.nodes) (h6:Flat s.store.tables) (h7:Flat s.iR) (h8:Flat s.qN):∀x∈aP s,Flat x:=by
 intro x hx;simp only[aP,List.mem_append,List.mem_singleton] at hx;rcases hx with hx|hx|hx|hx|hx|hx|hx|hx
 ·(exact Sk _ (by assumption) (by assumption) (by assumption) (by assumption) (by assumption) (by assumption) (by assumption) _ hx)
 ·(subst hx;assumption)
 ·(subst hx;assumption)
 ·(exact eM _ _ hx)
 ·(exact sG _ _ hx)
 ·(exact rM _ _ hx)
 ·(exact sG _ _ hx)
 ·(exact sG _ _ hx)
theorem Zo (s:State):rd (aP s) 0 150=aA s.store:=gF (cZ _)
theorem Zp (s:State) (x:aM):dP (aP s) 0 (aA x) 150=aP { s with store:=x }:=cA (cZ _)
theorem sV (s:State):(aP s)[4]? = some (.v (.int .i64 s.store.cFg.lS.nK)):=(eK (by rw[cZ];decide)).trans (pS _)
theorem sI (s:State):(aP s)[5]? = some (.v (.int .u64 s.store.cFg.lS.qQ)):=(eK (by rw[cZ];decide)).trans (pG _)
theorem qC (s:State):(aP s)[44]? = some (s.store.cFg.iA):=(eK (by rw[cZ];decide)).trans (qA _)
theorem pA (s:State):(aP s)[45]? = some (s.store.eZ.dR):=(eK (by rw[cZ];decide)).trans (oP _)
theorem pR (s:State):(aP s)[46]? = some (s.store.eZ.gT):=(eK (by rw[cZ];decide)).trans (pL _)
theorem sW (s:State):rd (aP s) 48 32=aY s.store.aG.dS.root:=(rQ (by rw[cZ];decide)).trans (pT _)
theorem tS (s:State):rd (aP s) 81 32=aY s.store.aG.fin.root:=(rQ (by rw[cZ];decide)).trans (qL _)
theorem pB (s:State):(aP s)[113]? = some (s.store.dZ.early):=(eK (by rw[cZ];decide)).trans (oQ _)
theorem nI (s:State):(aP s)[114]? = some (s.store.dZ.bS):=(eK (by rw[cZ];decide)).trans (mR _)
theorem Js (s:State):rd (aP s) 115 1=mD s.store.tree:=(rQ (by rw[cZ];decide)).trans (Kj _)
theorem xB (s:State) (x:Fc):dP (aP s) 115 (mD x) 116=aP { s with store:={ s.store with tree:=x }}:=(tZ (by rw[cZ];decide)).trans (Fw (Bt _ x))
theorem qD (s:State):(aP s)[115]? = some (s.store.tree.nodes):=(eK (by rw[cZ];decide)).trans (qB _)
theorem Jt (s:State):(aP s)[116]? = some (.v (.int .u64 s.store.now)):=(eK (by rw[cZ];decide)).trans (Kk _)
theorem Ii (s:State):rd (aP s) 117 32=aY s.store.iK:=(rQ (by rw[cZ];decide)).trans (Ig _)
theorem Ij (s:State) (x:bX):dP (aP s) 117 (aY x) 149=aP { s with store:={ s.store with iK:=x }}:=(tZ (by rw[cZ];decide)).trans (Fw (Ih _ x))
theorem tF (s:State):(aP s)[149]? = some (s.store.tables):=(eK (by rw[cZ];decide)).trans (uN _)
theorem yK (s:State):(aP s)[150]? = some (s.iR):=(aK rfl (cZ _)).trans (rfl)
theorem Pv (s:State) (x:AV):dP (aP s) 150 ([x]) 151=aP { s with iR:=x }:=(aC rfl rfl (cZ _)).trans (bJ (cA rfl))
theorem Af (s:State):(aP s)[151]? = some (s.qN):=(aK rfl (cZ _)).trans ((aK rfl rfl).trans (rfl))
theorem Sa (s:State) (x:AV):dP (aP s) 151 ([x]) 152=aP { s with qN:=x }:=(aC rfl rfl (cZ _)).trans (bJ ((aC rfl rfl rfl).trans (bJ (cA rfl))))
theorem Pw (s:State):(aP s)[152]? = some (.v (.int .u64 s.cV)):=(aK rfl (cZ _)).trans ((aK rfl rfl).trans ((aK rfl rfl).trans (rfl)))
theorem Sb (s:State) (x:Int):dP (aP s) 152 ([.v (.int .u64 x)]) 153=aP { s with cV:=x }:=(aC rfl rfl (cZ _)).trans (bJ ((aC rfl rfl rfl).trans (bJ ((aC rfl rfl rfl).trans (bJ (cA (aW _)))))))
theorem Zq (s:State):(aP s)[153]? = some (.v (.bool s.Lb)):=(aK rfl (cZ _)).trans ((aK rfl rfl).trans ((aK rfl rfl).trans ((aK rfl (aW _)).trans (rfl))))
theorem CK (s:State) (x:Bool):dP (aP s) 153 ([.v (.bool x)]) 154=aP { s with Lb:=x }:=(aC rfl rfl (cZ _)).trans (bJ ((aC rfl rfl rfl).trans (bJ ((aC rfl rfl rfl).trans (bJ ((aC rfl rfl (aW _)).trans (bJ (cA (gS _)))))))))
theorem CL (s:State):rd (aP s) 154 96=eI s.last:=(bB rfl (cZ _)).trans ((bB rfl rfl).trans ((bB rfl rfl).trans ((bB rfl (aW _)).trans ((bB rfl (gS _)).trans (gF (mN _))))))
theorem CM (s:State) (x:Command):dP (aP s) 154 (eI x) 250=aP { s with last:=x }:=(aC rfl rfl (cZ _)).trans (bJ ((aC rfl rfl rfl).trans (bJ ((aC rfl rfl rfl).trans (bJ ((aC rfl rfl (aW _)).trans (bJ ((aC rfl rfl (gS _)).trans (bJ (cA (mN _)))))))))))
theorem Px (s:State) (x:Bool):dP (aP s) 250 ([.v (.bool x)]) 251=aP { s with overflow:=x }:=(aC rfl rfl (cZ _)).trans (bJ ((aC rfl rfl rfl).trans (bJ ((aC rfl rfl rfl).trans (bJ ((aC rfl rfl (aW _)).trans (bJ ((aC rfl rfl (gS _)).trans (bJ ((aC rfl rfl (mN _)).trans (bJ (cA (gS _)))))))))))))
theorem Sc (s:State):(aP s)[251]? = some (.v (.bool s.halted)):=(aK rfl (cZ _)).trans ((aK rfl rfl).trans ((aK rfl rfl).trans ((aK rfl (aW _)).trans ((aK rfl (gS _)).trans ((aK rfl (mN _)).trans ((aK rfl (gS _)).trans (rfl)))))))
theorem Uk (s:State) (x:Bool):dP (aP s) 251 ([.v (.bool x)]) 252=aP { s with halted:=x }:=(aC rfl rfl (cZ _)).trans (bJ ((aC rfl rfl rfl).trans (bJ ((aC rfl rfl rfl).trans (bJ ((aC rfl rfl (aW _)).trans (bJ ((aC rfl rfl (gS _)).trans (bJ ((aC rfl rfl (mN _)).trans (bJ ((aC rfl rfl (gS _)).trans (bJ (eJ (gS _)))))))))))))))
def lH:State:=⟨gC,(.v (.slice none 0 0)),(.v (.slice none 0 0)),0,false,Ze,false,false⟩
def JC:List Value:=Zm++([.slice none 0 0]++([.slice none 0 0]++([.int .u64 0]++([.bool false]++(Hy++([.bool false]++([.bool false])))))))
theorem QF:JC.map AV.v=aP lH:=by simp only[JC,List.map_append,List.map_cons,List.map_nil,jG,jH,Zn,Mb];rfl
theorem uV (st:St) (s:State):ET st (aP s)=cH (dA st s.store.cFg.iA) fun x_store_config_bal=>cH (dA st s.store.eZ.dR) fun x_store_votes_latest=>cH (dA st s.store.eZ.gT) fun x_store_votes_equiv=>cH (dA st s.store.dZ.early) fun x_store_queues_early=>cH (dA st s.store.dZ.bS) fun x_store_queues_orphans=>cH (dA st s.store.tree.nodes) fun x_store_tree_nodes=>cH (dA st s.store.tables) fun x_store_tables=>cH (dA st s.iR) fun x_requests=>cH (dA st s.qN) fun x_retries=>some (aP { s with store:={ s.store with cFg:={ s.store.cFg with iA:=x_store_config_bal },eZ:={ s.store.eZ with dR:=x_store_votes_latest,gT:=x_store_votes_equiv },dZ:={ s.store.dZ with early:=x_store_queues_early,bS:=x_store_queues_orphans },tree:={ s.store.tree with nodes:=x_store_tree_nodes },tables:=x_store_tables },iR:=x_requests,qN:=x_retries }):=by
 simp only[aP,vI,gD,xK,kS (eM _),kS (sG _),kS (rM _),oC,cN]
theorem JD (s:State):rd (aP s) 0 252=aP s:=iW (Mc _)
theorem JE (s x:State):dP (aP s) 0 (aP x) 252=aP x:=eJ (Mc _)
structure wH where
 kind:Int
 block:Block
 Ft:oY
 oG:fQ
 table:Table
 verdict:gN
 write:Int
 pW:Int
def kI (s:wH):List AV:=oZ s.kind++(aU s.block++(eH s.Ft++(bT s.oG++(bZ s.table++(dG s.verdict++(oZ s.write++(oZ s.pW)))))))
@[simp] theorem Zr (s:wH):(kI s).length=446:=by simp[kI]
theorem l8 (s:wH) (h0:Flat s.Ft.dX) (h1:Flat s.oG.first.dX) (h2:Flat s.oG.second.dX) (h3:Flat s.table.iA):∀x∈kI s,Flat x:=by
 intro x hx;simp only[kI,List.mem_append,List.mem_singleton] at hx;rcases hx with hx|hx|hx|hx|hx|hx|hx|hx
 ·(exact lR _ _ hx)
 ·(exact Aw _ _ hx)
 ·(exact Qe _ (by assumption) _ hx)
 ·(exact Gt _ (by assumption) (by assumption) _ hx)
 ·(exact Gu _ (by assumption) _ hx)
 ·(exact jM _ _ hx)
 ·(exact lR _ _ hx)
 ·(exact lR _ _ hx)
theorem JF (s:wH):(kI s)[0]? = some (.v (.int .i64 s.kind)):=rfl
theorem QG (s:wH) (x:Int):dP (kI s) 0 ([.v (.int .i64 x)]) 1=kI { s with kind:=x }:=cA (bC _)
theorem JG (s:wH):rd (kI s) 1 238=aU s.block:=(bB rfl (bC _)).trans (gF (bN _))
theorem JH (s:wH) (x:Block):dP (kI s) 1 (aU x) 239=kI { s with block:=x }:=(aC rfl rfl (bC _)).trans (bJ (cA (bN _)))
theorem WC (s:wH):rd (kI s) 239 67=eH s.Ft:=(bB rfl (bC _)).trans ((bB rfl (bN _)).trans (gF (gW _)))
theorem WD (s:wH) (x:oY):dP (kI s) 239 (eH x) 306=kI { s with Ft:=x }:=(aC rfl rfl (bC _)).trans (bJ ((aC rfl rfl (bN _)).trans (bJ (cA (gW _)))))
theorem Cd (s:wH):(kI s)[305]? = some (s.Ft.dX):=(aK rfl (bC _)).trans ((aK rfl (bN _)).trans ((eK (by rw[gW];decide)).trans (Ds _)))
theorem JI (s:wH):rd (kI s) 306 70=bT s.oG:=(bB rfl (bC _)).trans ((bB rfl (bN _)).trans ((bB rfl (gW _)).trans (gF (fJ _))))
theorem JJ (s:wH) (x:fQ):dP (kI s) 306 (bT x) 376=kI { s with oG:=x }:=(aC rfl rfl (bC _)).trans (bJ ((aC rfl rfl (bN _)).trans (bJ ((aC rfl rfl (gW _)).trans (bJ (cA (fJ _)))))))
theorem rI (s:wH):(kI s)[340]? = some (s.oG.first.dX):=(aK rfl (bC _)).trans ((aK rfl (bN _)).trans ((aK rfl (gW _)).trans ((eK (by rw[fJ];decide)).trans (nJ _))))
theorem qX (s:wH):(kI s)[375]? = some (s.oG.second.dX):=(aK rfl (bC _)).trans ((aK rfl (bN _)).trans ((aK rfl (gW _)).trans ((eK (by rw[fJ];decide)).trans (mS _))))
theorem JK (s:wH):rd (kI s) 376 34=bZ s.table:=(bB rfl (bC _)).trans ((bB rfl (bN _)).trans ((bB rfl (gW _)).trans ((bB rfl (fJ _)).trans (gF (fO _)))))
theorem JL (s:wH) (x:Table):dP (kI s) 376 (bZ x) 410=kI { s with table:=x }:=(aC rfl rfl (bC _)).trans (bJ ((aC rfl rfl (bN _)).trans (bJ ((aC rfl rfl (gW _)).trans (bJ ((aC rfl rfl (fJ _)).trans (bJ (cA (fO _)))))))))
theorem Ag (s:wH):(kI s)[409]? = some (s.table.iA):=(aK rfl (bC _)).trans ((aK rfl (bN _)).trans ((aK rfl (gW _)).trans ((aK rfl (fJ _)).trans ((eK (by rw[fO];decide)).trans (Bg _)))))
theorem Zs (s:wH):rd (kI s) 410 34=dG s.verdict:=(bB rfl (bC _)).trans ((bB rfl (bN _)).trans ((bB rfl (gW _)).trans ((bB rfl (fJ _)).trans ((bB rfl (fO _)).trans (gF (lM _))))))
theorem Zt (s:wH) (x:gN):dP (kI s) 410 (dG x) 444=kI { s with verdict:=x }:=(aC rfl rfl (bC _)).trans (bJ ((aC rfl rfl (bN _)).trans (bJ ((aC rfl rfl (gW _)).trans (bJ ((aC rfl rfl (fJ _)).trans (bJ ((aC rfl rfl (fO _)).trans (bJ (cA (lM _)))))))))))
theorem CN (s:wH):(kI s)[444]? = some (.v (.int .i64 s.write)):=(aK rfl (bC _)).trans ((aK rfl (bN _)).trans ((aK rfl (gW _)).trans ((aK rfl (fJ _)).trans ((aK rfl (fO _)).trans ((aK rfl (lM _)).trans (rfl))))))
theorem JM (s:wH) (x:Int):dP (kI s) 444 ([.v (.int .i64 x)]) 445=kI { s with write:=x }:=(aC rfl rfl (bC _)).trans (bJ ((aC rfl rfl (bN _)).trans (bJ ((aC rfl rfl (gW _)).trans (bJ ((aC rfl rfl (fJ _)).trans (bJ ((aC rfl rfl (fO _)).trans (bJ ((aC rfl rfl (lM _)).trans (bJ (cA (bC _)))))))))))))
theorem JN (s:wH):(kI s)[445]? = some (.v (.int .i64 s.pW)):=(aK rfl (bC _)).trans ((aK rfl (bN _)).trans ((aK rfl (gW _)).trans ((aK rfl (fJ _)).trans ((aK rfl (fO _)).trans ((aK rfl (lM _)).trans ((aK rfl (bC _)).trans (rfl)))))))
theorem QH (s:wH) (x:Int):dP (kI s) 445 ([.v (.int .i64 x)]) 446=kI { s with pW:=x }:=(aC rfl rfl (bC _)).trans (bJ ((aC rfl rfl (bN _)).trans (bJ ((aC rfl rfl (gW _)).trans (bJ ((aC rfl rfl (fJ _)).trans (bJ ((aC rfl rfl (fO _)).trans (bJ ((aC rfl rfl (lM _)).trans (bJ ((aC rfl rfl (bC _)).trans (bJ (eJ (bC _)))))))))))))))
def yU:wH:=⟨0,fM,Hc,Ru,iT,Ys,0,0⟩
def aCT:List Value:=[.int .i64 0]++(Rk++(D6++(Db++(Yx++(Hu++([.int .i64 0]++([.int .i64 0])))))))
theorem aAe:aCT.map AV.v=kI yU:=by simp only[aCT,List.map_append,List.map_cons,List.map_nil,jG,jH,Oz,VW,Hx,Yy,Lv];rfl
theorem WE (s:wH):rd (kI s) 0 446=kI s:=iW (Zr _)
theorem WG (s x:wH):dP (kI s) 0 (kI x) 446=kI x:=eJ (Zr _)
def bW (l:List iV):List AV:=l.flatMap jC
@[simp] theorem WH (l:List (iV)):(bW l).length=l.length * 34:=by
 induction l with
 | nil=>rfl
 | cons x l ih=>simp only[bW,List.flatMap_cons,List.length_append,qV,List.length_cons] at *;omega
theorem qG (l:List (iV)):∀x∈bW l,Flat x:=by
 intro x hx;obtain⟨y,_,hy⟩:=List.mem_flatMap.1 hx
 exact VU y x hy
def dO (l:List oY):List AV:=l.flatMap eH
@[simp] theorem aIz (l:List (oY)):(dO l).length=l.length * 67:=by
 induction l with
 | nil=>rfl
 | cons x l ih=>simp only[dO,List.flatMap_cons,List.length_append,gW,List.length_cons] at *;omega
theorem uS (l:List (oY)) (h:∀y∈l,Flat y.dX):∀x∈dO l,Flat x:=by
 intro x hx;obtain⟨y,hm,hy⟩:=List.mem_flatMap.1 hx
 exact Qe y (h y hm) x hy
def aR (l:List Table):List AV:=l.flatMap bZ
@[simp] theorem aEO (l:List (Table)):(aR l).length=l.length * 34:=by
 induction l with
 | nil=>rfl
 | cons x l ih=>simp only[aR,List.flatMap_cons,List.length_append,fO,List.length_cons] at *;omega
theorem mK (l:List (Table)) (h:∀y∈l,Flat y.iA):∀x∈aR l,Flat x:=by
 intro x hx;obtain⟨y,hm,hy⟩:=List.mem_flatMap.1 hx
 exact Gu y (h y hm) x hy
def aD (l:List Request):List AV:=l.flatMap cX
@[simp] theorem CO (l:List (Request)):(aD l).length=l.length * 35:=by
 induction l with
 | nil=>rfl
 | cons x l ih=>simp only[aD,List.flatMap_cons,List.length_append,gH,List.length_cons] at *;omega
theorem tH (l:List (Request)):∀x∈aD l,Flat x:=by
 intro x hx;obtain⟨y,_,hy⟩:=List.mem_flatMap.1 hx
 exact jL y x hy
end Go.Ab
end
