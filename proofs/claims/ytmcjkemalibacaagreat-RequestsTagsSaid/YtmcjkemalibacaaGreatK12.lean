/-
  Part 12 of the proof: an evaluator of programs, its soundness, and what functions of this program compute.
-/
import Derived.Test.YtmcjkemalibacaaGreatK11
import Derived.Test.YtmcjkemalibacaaGreatK10
import Derived.Test.YtmcjkemalibacaaGreatK9
set_option linter.all false
set_option maxRecDepth 20000
set_option maxHeartbeats 40000000
namespace Go.Ab.Tryz
open Classical Go.Proofs Go.Ab
theorem Af {α:Type} (s g:Nat) (cs:List α→List AV) (o:Option (List α)):fM (.own s g) (ov cs o)=True:=by cases o<;>rfl
theorem Ag {α:Type} (s g:Nat) (cs:List α→List AV) (o:Option (List α)):fM (ov cs o) (.own s g)=True:=by cases o<;>rfl
theorem Ew {α:Type} (s g n:Nat) (cs:List α→List AV) (o:Option (List α)):fM (.ptr s g n) (ov cs o)=True:=by cases o<;>rfl
theorem Ey {α:Type} (s g n:Nat) (cs:List α→List AV) (o:Option (List α)):fM (ov cs o) (.ptr s g n)=True:=by cases o<;>rfl
theorem aJa (t:Table) (b:Option (List Int)) (hb:t.jH=ov bD b) (hl:((ol b).length:Int)<1000000):aD Tryz.prog 158 [.agg (cN t)]=some (.agg (cN ⟨t.ck,ov bD (some (ol b))⟩)):=by
 rw[cL Tryz.func158 rfl aJb rfl];refine lM ?_
 simp only[Z8,seval,hb,Dx _ hl];exact⟨_,by apply dY;rfl;all_goals simp only[aI,Z8,seval,bO,sR,bC,uS]<;>rfl,rfl⟩
def aN2 (o:Option (List Table)) (t':Table) (L:List Table):Prop:=L.length=(ol o).length+1∧(∀x∈L,x∈ol o∨x=t')∧∀x∈ol o,x∈L
theorem aN3 (o:Option (List Table)) (hn:((ol o).length:Int)<999999) (hT:∀x∈ol o,Flat x.jH) (t:Table) (b:Option (List Int)) (hb:t.jH=ov bD b) (hl:((ol b).length:Int)<1000000) :
 ∃r,aD Tryz.prog 195 [ov aR o,.agg (cN t)]=some r∧∃L,aN2 o ⟨t.ck,ov bD (some (ol b))⟩ L∧r=.uniq 118 34 L.length (aR L):=by
 have hfT:Flat (.agg (cN t)):=(kL t).2 (by rw[hb];exact dX b)
 have hf2:Flat (.agg (cN ⟨t.ck,ov bD (some (ol b))⟩)):=(kL _).2 (dX (some (ol b)))
 have hto:=oQ o hT
 have aEQ:=kx (aJa t b hb hl) (cO hfT) hf2
 rw[cG Tryz.func195 rfl aJd (by kernel_rfl) (by cases o<;>rfl)]
 simp only[ZG,seval,Bool.false_and,Prod.mk.injEq,KU];refine nJ (fun m st=>∃k:Nat,(st.env 0=ov aR o∧st.env 3=.ptr 3 0 0∧st.heap 3 0=some (.cells (cN t))∧st.env 5=.v (.int .i64 k))∧k≤(ol o).length∧m=(ol o).length-k)
  (fun e st=>e=.exit 0∧∃k:Nat,(st.env 0=ov aR o∧st.env 3=.ptr 3 0 0∧st.heap 3 0=some (.cells (cN t))∧st.env 5=.v (.int .i64 k))∧k≤(ol o).length) (ol o).length ?step ?start ?rest
 case step =>
  rintro m st ⟨k,hI,hk,hm⟩
  by_cases bA:(k:Int)<(ol o).length
  ·have q0:(0:Int)≤k:=by omega
   have hw:IntKind.i64.wrap ((k:Int)+1)=((k+1:Nat):Int):=by rw[pV _ (by omega) (by omega)];omega
   by_cases h1:aI5 (gx iS (ol o) (k:Int)).ck t.ck<0
   ·apply Fl ((ol o).length-(k+1))
    ·simp only[ZG,seval,Bool.false_and,Prod.mk.injEq,KU,hI,bA,q0,aI6,h1,hw];rfl
    ·exact⟨k+1,by simp only[E8,seval,hI],by omega,rfl⟩
   ·apply QN (.exit 0)
    ·simp only[ZG,seval,Bool.false_and,Prod.mk.injEq,KU,hI,bA,q0,aI6,h1];rfl
    ·exact⟨rfl,k,by simp only[E8,seval,hI],hk⟩
  ·apply QN (.exit 0)
   ·simp only[ZG,seval,Bool.false_and,Prod.mk.injEq,KU,hI,bA];rfl
   ·exact⟨rfl,k,by simp only[E8,seval,hI],hk⟩
 case start=>exact⟨0,by simp only[E8,seval]<;>rfl,by omega,by omega⟩
 case rest =>
  rintro e st ⟨rfl,k,hI,hk⟩
  have e1:ol (o.map (·.take k))=(ol o).take k:=by cases o<;>simp[ol]
  have e2:ol (o.map (·.drop k))=(ol o).drop k:=by cases o<;>simp[ol]
  have n1:(((ol (o.map (·.take k))).length:Nat):Int)<1000000:=by rw[e1,List.length_take];omega
  have n2:(((ol (o.map (·.drop k))).length:Nat):Int)<1000000:=by rw[e2,List.length_drop];omega
  have n3:(((ol (o.map (·.take k))++[(⟨t.ck,ov bD (some (ol b))⟩:Table)]).length:Nat):Int)<1000000:=by rw[List.length_append,e1,List.length_take];simp;omega
  have q0:(0:Int)≤k:=by omega
  have q1:(k:Int)≤((ol o).length:Int):=by omega
  have hr:∀x∈aR (ol (o.map (·.take k))++[(⟨t.ck,ov bD (some (ol b))⟩:Table)]++ol (o.map (·.drop k))),Flat x:=by
   refine lF _ fun x m=>?_
   rw[e1,e2] at m;rcases List.mem_append.1 m with m|m
   ·rcases List.mem_append.1 m with m|m
    ·exact hT x (List.mem_of_mem_take m)
    ·rw[List.mem_singleton.1 m];exact dX (some (ol b))
   ·exact hT x (List.mem_of_mem_drop m)
  simp only[ZG,seval,Bool.false_and,Prod.mk.injEq,KU,Af,Ag,and_self,hI,q0,q1,Int.toNat_natCast,aEQ,DC _ n1,Px _ _ _ _ n1,DD _ _ _ _ n3 n2];refine⟨_,rP rfl (by simp only[E8,seval]<;>rfl) (by simp only[E8,seval]<;>rfl) hr,_,⟨?_,fun x m=>?_,fun x m=>?_⟩,rfl⟩
  ·rw[e1,e2,List.length_append,List.length_append,List.length_take,List.length_drop];simp;omega
  ·rw[e1,e2] at m;rcases List.mem_append.1 m with m|m
   ·rcases List.mem_append.1 m with m|m
    ·exact .inl (List.mem_of_mem_take m)
    ·exact .inr (List.mem_singleton.1 m)
   ·exact .inl (List.mem_of_mem_drop m)
  ·rw[e1,e2];rw[← List.take_append_drop k (ol o)] at m;rcases List.mem_append.1 m with m|m
   ·exact List.mem_append_left _ (List.mem_append_left _ m)
   ·exact List.mem_append_right _ m
theorem aN5 (o:Option (List Table)) (hn:((ol o).length:Int)<999999) (hT:∀x∈ol o,uB x) (t:Table) (ht:uB t) (n lT:Int) :
 ∃r,aD Tryz.prog 172 [ov aR o,.agg (cN t),.v (.int .i64 n),.v (.int .i64 lT)]=some r∧∃o' e,r=.eB [ov aR o',.v (.int .i64 e)]∧e≠21∧((ol o').length:Int)≤max ((ol o).length:Int) lT∧(∀x∈ol o',uB x)∧(ol o ⊆ ol o')∧(e=0→o'≠some []∧∀x∈ol o',x∈ol o∨∃B,x.jH=ov bD (some B)∧(B.length:Int)=n):=by
 obtain⟨b,hb,hl⟩:=id ht
 have hfT:Flat (.agg (cN t)):=(kL t).2 ht.fl
 have hto:=oQ o fun x m=>(hT x m).fl
 obtain⟨r,hr,e,rfl,he,hlen⟩:=aDE t b hb hl n
 have EZ:=kx hr (bI hfT (.v _)) (.v _)
 have Hz:((ol o).length:Int)<1000000:=by omega
 have aER:=WZ o Hz hto
 rw[cL Tryz.func172 rfl aJe (by cases o<;>rfl)]
 by_cases g1:e=0
 case neg =>
  simp only[Z8,seval,EZ,bf g1,mN _ _ fun x m=>(hT x m).fl]
  exact⟨_,dM rfl rfl rfl (by simp only[E8,seval,mN _ _ fun x m=>(hT x m).fl]<;>rfl) (by simp only[E8,seval,mN _ _ fun x m=>(hT x m).fl]<;>rfl),o,e,rfl,he,by omega,hT,fun x m=>m,fun h=>absurd h g1⟩
 by_cases g2:0≤F0 (ol o) t.ck
 ·simp only[Z8,seval,EZ,bt g1,aER,g2];exact⟨_,dM rfl rfl rfl (by simp only[E8,seval,mN _ _ fun x m=>(hT x m).fl]<;>rfl) (by simp only[E8,seval,mN _ _ fun x m=>(hT x m).fl]<;>rfl),o,9,rfl,by decide,by omega,hT,fun x m=>m,fun h=>by cases h⟩
 by_cases g3:lT≤((ol o).length:Int)
 ·simp only[Z8,seval,EZ,bt g1,aER,g2,g3];exact⟨_,dM rfl rfl rfl (by simp only[E8,seval,mN _ _ fun x m=>(hT x m).fl]<;>rfl) (by simp only[E8,seval,mN _ _ fun x m=>(hT x m).fl]<;>rfl),o,11,rfl,by decide,by omega,hT,fun x m=>m,fun h=>by cases h⟩
 obtain⟨r2,hr2,L,⟨Zv,hL2,hL3⟩,rfl⟩:=aN3 o hn (fun x m=>(hT x m).fl) t b hb hl
 have hTL:∀x∈L,uB x:=fun x m=>(hL2 x m).elim (hT x) fun e=>by rw[e];exact⟨some (ol b),rfl,hl⟩
 have k195:∀(st:St),aP (aD Tryz.prog) 195 [ov aR o,.agg (cN t)] st (some 31)=_:=fun st=>iW (st:=st) (d:=31) (bI hto hfT) hr2
 have hex:=Mz L.length L fun x m=>(hTL x m).fl
 simp only[Z8,seval,EZ,bt g1,aER,g2,g3,k195];exact⟨_,dM rfl rfl rfl (by simp only[E8,seval,hex]<;>rfl) (by simp only[E8,seval,hex]<;>rfl),some L,0,rfl,by decide,by show ((L.length:Nat):Int)≤_;omega,hTL,hL3,fun _=>⟨fun e=>by injection e with e;rw[e] at Zv;simp at Zv,fun x m=>(hL2 x m).imp id fun e=>by rw[e];exact⟨ol b,rfl,hlen g1⟩⟩⟩
theorem aN6 {s:aN} {v:SV} (hs:SD s v) (hn:((ol v.T).length:Int)<999999) (t:Table) (ht:uB t) :
 ∃r,aD Tryz.prog 117 [.agg (aB s),.agg (cN t)]=some r∧∃s' e,r=.eB [.agg (aB s'),.v (.int .i64 e)]∧Flat (.agg (aB s'))∧e≠21∧(e=0→∃o',s'={ s with tables:=ov aR o' }∧((ol o').length:Int)≤max ((ol v.T).length:Int) s.cFg.lT.qJ∧(∀x∈ol o',uB x)∧(ol v.T ⊆ ol o')∧o'≠some []∧∀x∈ol o',x∈ol v.T∨∃B,x.jH=ov bD (some B)∧(B.length:Int)=(ol v.B).length):=by
 have hf:=hs.flat
 have lO:=hs.fl
 have hfT:Flat (.agg (cN t)):=(kL t).2 ht.fl
 have hz:Flat (.agg (aB gE)):=by simp only[dU,gE,mO,Gn,Ah,Km,and_self]
 obtain⟨r,hr,e,rfl,he⟩:=aNS t ht (ol v.B).length
 have EZ:=kx hr (bI hfT (.v _)) (.v _)
 obtain⟨r2,hr2,o',e2,rfl,he2,WK,hT2,hsub,hne2⟩:=aN5 v.T hn hs.tB t ht (ol v.B).length s.cFg.lT.qJ
 have hf2:Flat (ov aR o'):=oQ o' fun x m=>(hT2 x m).fl
 have k172:=kx hr2 (by simp only[List.mem_cons,List.not_mem_nil,or_false,forall_eq_or_imp,forall_eq,aEH,and_true];exact⟨hs.fT,hfT⟩) (.eB _ (bI hf2 (.v _)))
 rw[cL Tryz.func117 rfl aJf rfl];by_cases g1:e=0
 case neg =>
  simp only[Z8,seval,Vu hs,EZ,bf g1];exact⟨_,by apply dM;rfl;all_goals simp only[aI,bS,Z8,seval,hz]<;>rfl,gE,e,rfl,hz,he,fun h=>absurd h g1⟩
 by_cases g2:t.ck.aK<s.bH.gP.aK
 ·simp only[Z8,seval,Vu hs,EZ,bt g1,g2];exact⟨_,by apply dM;rfl;all_goals simp only[aI,bS,Z8,seval,hz]<;>rfl,gE,13,rfl,hz,by decide,fun h=>by cases h⟩
 by_cases g3:e2=0
 case neg =>
  simp only[Z8,seval,Vu hs,EZ,bt g1,g2,hs.tables,k172,dT,bf g3];exact⟨_,by apply dM;rfl;all_goals simp only[aI,bS,Z8,seval,hz]<;>rfl,gE,e2,rfl,hz,he2,fun h=>absurd h g3⟩
 ·have hf3:Flat (.agg (aB { s with tables:=ov aR o' })):=by simp only[dU,lO,hf2,and_self]
  simp only[Z8,seval,Vu hs,EZ,bt g1,g2,hs.tables,k172,dT,bt g3];exact⟨_,by apply dM;rfl;all_goals simp only[aI,bS,Z8,seval,hf3]<;>rfl,_,0,rfl,hf3,by decide,fun _=>⟨o',rfl,WK,hT2,hsub,hne2 g3⟩⟩
noncomputable def AE (v:SV):Int:=Bc (fun k=>0≤aM v.ns (gx eQ (ol v.O) k).parent) (ol v.O).length
theorem aJg {s:aN} {v:SV} (hs:SD s v):aD Tryz.prog 218 [.agg (aB s)]=some (.v (.int .i64 (AE v))):=by
 have hn:=hs.nO
 rw[cL Tryz.func218 rfl aJh rfl];refine lM ?_
 simp only[Z8,seval,hs.bY];refine cM (fun m st=>∃k:Nat,(st.env 1=.ptr 1 0 0∧st.heap 1 0=some (.cells (aB s))∧st.env 3=.v (.int .i64 k))∧(∀j:Nat,j<k→¬(0≤aM v.ns (gx eQ (ol v.O) (j:Int)).parent))∧k≤(ol v.O).length∧m=(ol v.O).length-k)
  (fun e st=>(e=.ret∧∃k:Nat,k<(ol v.O).length∧(0≤aM v.ns (gx eQ (ol v.O) (k:Int)).parent)∧(∀j:Nat,j<k→¬(0≤aM v.ns (gx eQ (ol v.O) (j:Int)).parent))∧st.env 2=.v (.int .i64 (k:Nat)))∨(e=.exit 0∧(∀j:Nat,j<(ol v.O).length→¬(0≤aM v.ns (gx eQ (ol v.O) (j:Int)).parent))∧st.env 1=.ptr 1 0 0∧st.heap 1 0=some (.cells (aB s)))) ((ol v.O).length) ?step ?start ?rest
 case step =>
  rintro m st ⟨k,hI,hj,hk,hm⟩
  by_cases bA:(k:Int)<(ol v.O).length
  ·have q0:(0:Int)≤k:=by omega
   have hw:IntKind.i64.wrap ((k:Int)+1)=((k+1:Nat):Int):=by rw[pV _ (by omega) (by omega)];omega
   by_cases hh:0≤aM v.ns (gx eQ (ol v.O) (k:Int)).parent
   ·apply oT (.ret)
    ·simp only[Z8,seval,hI,bA,q0,hs.bY,hs.tree,mA _ _ hs.nn,hh];rfl
    ·exact .inl ⟨rfl,k,by omega,hh,hj,by simp only[E8,seval,hs.bY,hs.tree,mA _ _ hs.nn]⟩
   ·apply oN ((ol v.O).length-(k+1))
    ·simp only[Z8,seval,hI,bA,q0,hs.bY,hs.tree,mA _ _ hs.nn,hh,hw];rfl
    ·exact⟨k+1,by simp only[E8,seval,hI],fun j h=>(Nat.lt_succ_iff_lt_or_eq.1 h).elim (hj j) fun e=>by subst e;exact hh,by omega,rfl⟩
  ·apply oT (.exit 0)
   ·simp only[Z8,seval,hI,bA,hs.bY,hs.tree,mA _ _ hs.nn];rfl
   ·exact .inr ⟨rfl,fun j h=>hj j (by omega),by simp only[E8,seval,hI]⟩
 case start=>exact⟨0,by simp only[E8,seval]<;>rfl,fun j h=>by omega,by omega,by omega⟩
 case rest =>
  rintro e st (⟨rfl,k,hk,hh,hj,h⟩|⟨rfl,hj,hI⟩)
  ·have hv:AE v=k:=Ig hh hj _ hk
   simp only[Z8,seval];exact⟨_,bX rfl (by simp only[E8,seval,h]<;>rfl) (by first|exact .v _|simp only[dU,h]),by rw[hv]⟩
  ·have hv:AE v=-1:=sP _ hj
   simp only[Z8,seval];exact⟨_,bX rfl (by simp only[E8,seval]<;>rfl) (by first|exact .v _|simp only[dU]),by rw[hv]⟩
theorem KV {s:aN} {v:SV} (hs:SD s v) (st:St) (d:Option Nat):aP (aD Tryz.prog) 218 [.agg (aB s)] st d=some { dst:=d,val:=.v (.int .i64 (AE v))}:=bT (cO hs.flat) (aJg hs) (.v _)
noncomputable def DE (e:Int) (r:cC) (a:List lE × Int) (x:Int):List lE × Int :=
 if (gx rT a.1 x).has=false∨(gx rT a.1 x).aK<e then (a.1.set x.toNat ⟨true,e,r⟩,IntKind.i64.wrap (a.2+1)) else a
noncomputable def tL (L:List lE) (e:Int) (r:cC) (V:List Int):List lE × Int:=V.foldl (DE e r) (L,0)
theorem ZX (e:Int) (r:cC) (a:List lE × Int) (x:Int):(DE e r a x).1.length=a.1.length:=by unfold DE;split<;>simp
theorem Py (L:List lE) (e:Int) (r:cC) (V:List Int):(tL L e r V).1.length=L.length:=by
 unfold tL;suffices h:∀(V:List Int) (a:List lE × Int),(V.foldl (DE e r) a).1.length=a.1.length from h V _
 intro V;induction V with
 | nil=>intro a;rfl
 | cons x V ih=>intro a;rw[List.foldl_cons,ih,ZX]
theorem RY (L:List lE) (e:Int) (r:cC) (V:List Int) (k:Nat) (h:k<V.length):tL L e r (V.take (k+1))=DE e r (tL L e r (V.take k)) (gx (0:Int) V k):=by
 unfold tL;rw[List.take_succ_eq_append_getElem h,List.foldl_append];simp[gx,h]
theorem aN7 (o:Option (List lE)) (hn:((ol o).length:Int)<1000000) (e:Int) (r:cC) (V:Option (List Int)) (hV:((ol V).length:Int)<1000000) (hr:∀x∈ol V,0≤x∧x<(ol o).length) :
 aD Tryz.prog 110 [ov cV o,.v (.int .u64 e),.agg (aV r),ov aJ V]=some (.eB [.sl (ol o).length (cV (tL (ol o) e r (ol V)).1),.v (.int .i64 (tL (ol o) e r (ol V)).2)]):=by
 rw[cL Tryz.func110 rfl aJi (by cases o<;>cases V<;>rfl)]
 refine lM ?_
 simp only[Z8,seval,KW _ hn];refine cM (fun m st=>∃(k:Nat) (l:List lE) (c:Int),(st.env 1=.v (.int .u64 e)∧st.env 6=.ptr 6 0 0∧st.heap 6 0=some (.cells (aV r))∧st.env 3=ov aJ V∧st.env 10=.own 15 0∧st.heap 15 0=some (.row 100 34 l.length (cV l))∧st.env 11=.v (.int .i64 c)∧st.env 12=.v (.int .i64 k))∧tL (ol o) e r ((ol V).take k)=(l,c)∧l.length=(ol o).length∧k≤(ol V).length∧m=(ol V).length-k)
  (fun ex st=>ex=.exit 0∧∃(l:List lE) (c:Int),(st.env 10=.own 15 0∧st.heap 15 0=some (.row 100 34 l.length (cV l))∧st.env 11=.v (.int .i64 c))∧tL (ol o) e r (ol V)=(l,c)∧l.length=(ol o).length) (ol V).length ?step ?start ?rest
 case step =>
  rintro m st ⟨k,l,c,hI,hc,hl,hk,hm⟩
  by_cases bA:(k:Int)<(ol V).length
  ·have q0:(0:Int)≤k:=by omega
   have hw:IntKind.i64.wrap ((k:Int)+1)=((k+1:Nat):Int):=by rw[pV _ (by omega) (by omega)];omega
   have tX:=RY (ol o) e r (ol V) k (by omega)
   rw[hc] at tX;unfold DE at tX;have hx:=hr _ (yI (z:=(0:Int)) q0 bA)
   obtain⟨x,ex⟩:∃x,gx (0:Int) (ol V) (k:Int)=x:=⟨_,rfl⟩
   rw[ex] at hx tX;have x0:0≤x:=hx.1
   have x1:x<(l.length:Int):=by rw[hl];exact hx.2
   have x2:x.toNat<l.length:=by omega
   have x3:x.toNat * 34+34≤l.length * 34:=by omega
   have ld:=XC (T:=100) (n:=l.length) (k:=34) x0 x1 aDJ (by decide) (by decide)
   by_cases h1:(gx rT l x).has=true
   ·by_cases h2:(gx rT l x).aK<e
    ·rw[if_pos (.inr h2)] at tX;apply oN ((ol V).length-(k+1))
     ·simp only[Z8,seval,hI,bA,q0,ex,x0,x1,x2,x3,ld,h1,h2,FB _ _ _ x2,hw];rfl
     ·exact⟨k+1,_,_,by simp only[E8,seval,hI,List.length_set]<;>exact⟨rfl,rfl⟩,tX,by rw[List.length_set,hl],by omega,rfl⟩
    ·rw[if_neg (by simp only[h1,h2,Bool.true_eq_false,or_self,not_false_eq_true])] at tX
     apply oN ((ol V).length-(k+1))
     ·simp only[Z8,seval,hI,bA,q0,ex,x0,x1,x2,x3,ld,h1,h2,hw];rfl
     ·exact⟨k+1,l,c,by simp only[E8,seval,hI],tX,hl,by omega,rfl⟩
   ·have CI:(gx rT l x).has=false:=by simpa using h1
    rw[if_pos (.inl CI)] at tX;apply oN ((ol V).length-(k+1))
    ·simp only[Z8,seval,hI,bA,q0,ex,x0,x1,x2,x3,ld,CI,FB _ _ _ x2,hw];rfl
    ·exact⟨k+1,_,_,by simp only[E8,seval,hI,List.length_set]<;>exact⟨rfl,rfl⟩,tX,by rw[List.length_set,hl],by omega,rfl⟩
  ·have De:k=(ol V).length:=by omega
   rw[De,List.take_length] at hc;apply oT (.exit 0)
   ·simp only[Z8,seval,hI,bA];rfl
   ·exact⟨rfl,l,c,by simp only[E8,seval,hI],hc,hl⟩
 case start=>exact⟨0,ol o,0,by simp only[E8,seval]<;>rfl,rfl,rfl,by omega,by omega⟩
 case rest =>
  rintro ex st ⟨rfl,l,c,hI,hc,hl⟩
  rw[hc];simp only[Z8,seval,hI];exact⟨_,dM rfl rfl rfl (by simp only[E8,seval,hI,Uf]<;>rfl) (by simp only[E8,seval,hI,Uf]<;>rfl),by rw[hl]⟩
theorem aJj (o:Option (List lE)) (hn:((ol o).length:Int)<1000000) (e:Int) (r:cC) (V:Option (List Int)) (hV:((ol V).length:Int)<1000000) (hr:∀x∈ol V,0≤x∧x<(ol o).length) (st:St) (d:Option Nat) :
 aP (aD Tryz.prog) 110 [ov cV o,.v (.int .u64 e),.agg (aV r),ov aJ V] st d=some { dst:=d,val:=.eB [.sl (ol o).length (cV (tL (ol o) e r (ol V)).1),.v (.int .i64 (tL (ol o) e r (ol V)).2)]} :=
 bT (by simp only[List.mem_cons,List.not_mem_nil,or_false,forall_eq_or_imp,forall_eq,dU,and_self,and_true,true_and]) (aN7 o hn e r V hV hr) (.eB _ (bI (.sl _ _ (mM _)) (.v _)))
noncomputable def Pz (s:aN) (v:SV) (a:rQ) (V:List Int):aN:={ s with fY:={ s.fY with dR:=ov cV (some (tL (ol v.L) a.target.aK a.root V).1)} }
theorem c44 {s:aN} {v:SV} (hs:SD s v) (a:rQ) (V:Option (List Int)) (ha:a.eK=ov aJ V) (hV:((ol V).length:Int)<1000000) (hr:∀x∈ol V,0≤x∧x<(ol v.L).length) :
 aD Tryz.prog 44 [.agg (aB s),.agg (iF a)]=some (.agg (aB (Pz s v a (ol V)))):=by
 have lO:=hs.fl
 rw[cL Tryz.func44 rfl aN8 rfl];refine lM ?_
 simp only[Z8,seval,hs.dR,ha,aJj v.L hs.nL _ _ V hV hr,dT];exact⟨_,eU rfl (by simp only[E8,seval,lO,and_self]<;>rfl) (by simp only[Z8,seval,lO,and_self]<;>rfl) (by simp only[dU,and_self,lO,and_self]),by unfold Pz;simp only[ov,Py]⟩
theorem Wc (ns:List Node) (r:cC) (h:0≤aM ns r):(nd ns (aM ns r)).block.root=r:=by
 unfold aM at h ⊢
 cases hf:ns.findIdx? (fun n=>decide (n.block.root=r)) with
 | none=>rw[hf] at h;simp only at h;omega
 | some k =>
   obtain⟨hk,hp,_⟩:=List.findIdx?_eq_some_iff_getElem.1 hf
   simp only
   have:nd ns (k:Int)=ns[k]:=by simp[nd,hk]
   rw[this];exact of_decide_eq_true hp
theorem Na {ns:List Node} {r:cC} {j:Int} (h0:0≤j) (h1:j<ns.length) (hr:(nd ns j).block.root=r):0≤aM ns r:=by
 unfold aM;cases hf:ns.findIdx? (fun n=>decide (n.block.root=r)) with
 | none =>
   obtain⟨hj,e⟩:=Ge h0 h1
   have:=List.findIdx?_eq_none_iff.1 hf ns[j.toNat] (List.getElem_mem hj)
   rw[← e] at this;simp[hr] at this
 | some k=>simp only;omega
structure GI (s:aN) (v:SV) (q:Int):Prop where
 sd:SD s v
 up:gU v.ns
 KC:(nd v.ns 0).up=-1
 pos:0<v.ns.length
 nl:(v.ns.length:Int)≤s.cFg.lT.rD
 KX:s.cFg.lT.rD≤4096
 qG:1≤s.cFg.qG∧s.cFg.qG≤64
 KY:(ol v.L).length=(ol v.B).length
 nB:((ol v.B).length:Int)≤1024
 nO:((ol v.O).length:Int)≤s.cFg.lT.vQ
 KZ:s.cFg.lT.vQ≤64
 nE:((ol v.E).length:Int)≤s.cFg.lT.pM
 QP:s.cFg.lT.pM≤256
 nT:((ol v.T).length:Int)≤s.cFg.lT.qJ
 RZ:s.cFg.lT.qJ≤64
 nQ:((ol v.Q).length:Int)≤q
 I3:q≤900000
 gP:0≤aM v.ns s.bH.gP.root
theorem GI.sp {s:aN} {v:SV} {q:Int} (h:GI s v q):s.cFg.qG≠0:=by have:=h.qG.1;omega
theorem vR (s:aN) (v:SV) (c1 c2:fK):(wL s v c1 c2).cFg=s.cFg:=by unfold wL;split;rfl;split<;>rfl
theorem Nb (s:aN) (v:SV) (c1 c2:fK):(wL s v c1 c2).now=s.now:=by unfold wL;split;rfl;split<;>rfl
theorem GI.dJ {s:aN} {v:SV} {q:Int} (h:GI s v q) (c1 c2:fK):GI (wL s v c1 c2) (Gm s v c1 c2) q:=by
 have hsd:=h.sd.dJ h.up c1 c2
 by_cases b:mD s v (Fw s c1) (Di s c2)
 ·rw[show wL s v c1 c2=s from if_pos b,show Gm s v c1 c2=v from if_pos b];exact h
 have hJ:0≤aM v.ns (Fw s c1).root:=by rcases Int.lt_or_le (aM v.ns (Fw s c1).root) 0 with g|g;exact absurd (.inl g) b;exact g
 have hF:0≤aM v.ns (Di s c2).root:=by rcases Int.lt_or_le (aM v.ns (Di s c2).root) 0 with g|g;exact absurd (.inr (.inl g)) b;exact g
 have hA:zY v.ns (aM v.ns (Di s c2).root) (aM v.ns (Fw s c1).root)=true:=by
  cases g:zY v.ns (aM v.ns (Di s c2).root) (aM v.ns (Fw s c1).root)
  ·exact absurd (.inr (.inr (.inr (.inr (.inr (.inr (.inl g))))))) b
  ·rfl
 have hT:((ol (nz (xR (ol v.T) (Fw s c1).aK))).length:Int)≤s.cFg.lT.qJ:=by
  rw[oE];have:=List.length_filter_le (fun t:Table=>decide ((Fw s c1).aK≤t.ck.aK)) (ol v.T);have:=h.nT;unfold xR;omega
 by_cases e:Di s c2=s.bH.fin
 ·have hS:wL s v c1 c2=_:=(if_neg b).trans (if_pos e)
  have hW:Gm s v c1 c2=_:=(if_neg b).trans (if_pos e)
  rw[hS,hW] at hsd ⊢;exact⟨hsd,h.up,h.KC,h.pos,h.nl,h.KX,h.qG,h.KY,h.nB,h.nO,h.KZ,h.nE,h.QP,hT,h.RZ,h.nQ,h.I3,hJ⟩
 ·have hS:wL s v c1 c2=_:=(if_neg b).trans (if_neg e)
  have hW:Gm s v c1 c2=_:=(if_neg b).trans (if_neg e)
  rw[hS,hW] at hsd ⊢;have rF:=fB v.ns (Di s c2).root
  have rJ:=fB v.ns (Fw s c1).root
  have CT:=JZ h.up hF rF.2
  have h1:=KB h.up CT
  have h2:=KB h.up hA
  have hz:=WN h.up CT
  have hlen:=EW (ns:=v.ns) (aM v.ns (Di s c2).root)
  have QQ:=h.nl
  refine⟨hsd,aAV h.up CT, ?_, ?_, ?_,h.KX,h.qG,h.KY,h.nB, ?_,h.KZ,h.nE,h.QP,hT,h.RZ,h.nQ,h.I3, ?_⟩
  ·rw[hz] at h1;show (nd (oA v.ns (aM v.ns (Di s c2).root) v.ns.length).1 0).up=-1
   rw[h1.2.2,if_pos rfl]
  ·have:=h1.2.1;have:=h1.1
   show 0<(oA v.ns (aM v.ns (Di s c2).root) v.ns.length).1.length
   omega
  ·show (((oA v.ns (aM v.ns (Di s c2).root) v.ns.length).1.length:Nat):Int)≤s.cFg.lT.rD
   omega
  ·show ((ol (nz _)).length:Int)≤s.cFg.lT.vQ
   rw[oE];have:=List.length_filter_le (fun b:Block=>decide ((Dh s (Di s c2).aK).1<b.slot)) (ol v.O);have:=h.nO;omega
  ·refine Na h2.1 h2.2.1 ?_
   rw[h2.2.2];exact Wc _ _ hJ
noncomputable def zL (v:SV) (b:Block):List Node:=v.ns++[⟨b,aM v.ns b.parent,Mw b⟩]
noncomputable def Iy (s:aN) (v:SV) (b:Block):aN:={ s with tree:=⟨.sl (zL v b).length (bZ (zL v b))⟩}
noncomputable def Gp (v:SV) (b:Block):SV:={ v with ns:=zL v b }
noncomputable def I4 (s:aN) (v:SV) (b:Block):aN:=wL (Iy s v b) (Gp v b) b.gP b.fin
noncomputable def I5 (s:aN) (v:SV) (b:Block):SV:=Gm (Iy s v b) (Gp v b) b.gP b.fin
noncomputable def sH (s:aN) (v:SV) (b:Block):aN:=if Dg s b.slot<Dg s s.now then wL (I4 s v b) (I5 s v b) b.dN.pj b.dN.pf else I4 s v b
noncomputable def kP (s:aN) (v:SV) (b:Block):SV:=if Dg s b.slot<Dg s s.now then Gm (I4 s v b) (I5 s v b) b.dN.pj b.dN.pf else I5 s v b
theorem ZY (b:Block):RC (Mw b)=true:=by unfold Mw;split<;>rfl
theorem XD {s:aN} {v:SV} {q:Int} (h:GI s v q) {b:Block} (hb:Jl s v b=0):Sy v.ns b (Mw b)=0∧(v.ns.length:Int)<s.cFg.lT.rD∧0≤aM v.ns b.parent:=by
 unfold Jl at hb;by_cases g1:b.root=dI
 ·rw[if_pos g1] at hb;omega
 rw[if_neg g1] at hb;by_cases g2:KnB v b.root
 ·rw[if_pos g2] at hb;omega
 rw[if_neg g2] at hb;by_cases g3:s.now<b.slot
 ·rw[if_pos g3] at hb;omega
 rw[if_neg g3] at hb;by_cases g4:b.slot≤(Dh s s.bH.fin.aK).1
 ·rw[if_pos g4] at hb;omega
 rw[if_neg g4] at hb;by_cases g5:aM v.ns b.parent<0
 ·rw[if_pos g5] at hb;omega
 rw[if_neg g5] at hb;by_cases g6:b.slot≤(nd v.ns (aM v.ns b.parent)).block.slot
 ·rw[if_pos g6] at hb;omega
 rw[if_neg g6] at hb;by_cases g7:(nd v.ns (aM v.ns b.parent)).status=2
 ·rw[if_pos g7] at hb;omega
 rw[if_neg g7] at hb;by_cases g8:¬ET s v b
 ·rw[if_pos g8] at hb;omega
 rw[if_neg g8] at hb;by_cases g9:¬ZR s.cFg.AD (nd v.ns (aM v.ns b.parent)).block b
 ·rw[if_pos g9] at hb;omega
 rw[if_neg g9] at hb;by_cases I2:s.cFg.lT.rD≤(v.ns.length:Int)
 ·rw[if_pos I2] at hb;omega
 have:=h.KX
 refine⟨?_,by omega,by omega⟩
 unfold Sy;rw[ZY,if_neg (by simp),if_neg (fun h=>g2 (.inr h)),if_neg g5,if_neg g6,if_neg (by omega)]
theorem GI.Iy {s:aN} {v:SV} {q:Int} (h:GI s v q) {b:Block} (hb:(v.ns.length:Int)<s.cFg.lT.rD) (hp:0≤aM v.ns b.parent):GI (Iy s v b) (Gp v b) q:=by
 have hlen:(zL v b).length=v.ns.length+1:=by unfold zL;simp
 have hnB:=h.KX
 have hsd:SD (Tryz.Iy s v b) (Gp v b):=⟨h.sd.jH,h.sd.dR,h.sd.gZ,h.sd.early,h.sd.bY,rfl,h.sd.tables,h.sd.eV,h.sd.tB,h.sd.nB,h.sd.nL,h.sd.nQ,h.sd.nE,h.sd.nO,h.sd.nT,by show ((zL v b).length:Int)<1000000;omega⟩
 have rp:=fB v.ns b.parent
 refine⟨hsd,fun i h0 h1=>?_, ?_, ?_, ?_,h.KX,h.qG,h.KY,h.nB,h.nO,h.KZ,h.nE,h.QP,h.nT,h.RZ,h.nQ,h.I3, ?_⟩
 ·have h1:i<((zL v b).length:Int):=h1
  show 0≤(nd (zL v b) i).up∧(nd (zL v b) i).up<i
  by_cases hi:i<(v.ns.length:Int)
  ·unfold zL;rw[Ib (by omega) hi];exact h.up i h0 hi
  ·unfold zL;rw[CL (by omega)];exact⟨hp,by show aM v.ns b.parent<i;omega⟩
 ·show (nd (zL v b) 0).up=-1
  unfold zL;rw[Ib (by omega) (by have:=h.pos;omega)];exact h.KC
 ·show 0<(zL v b).length;omega
 ·show ((zL v b).length:Int)≤s.cFg.lT.rD;omega
 ·show 0≤aM (zL v b) s.bH.gP.root
  have rj:=fB v.ns s.bH.gP.root
  refine Na h.gP (by omega) ?_
  unfold zL;rw[Ib h.gP rj.2];exact Wc _ _ h.gP
theorem GI.ins {s:aN} {v:SV} {q:Int} (h:GI s v q) {b:Block} (hb:Jl s v b=0):GI (sH s v b) (kP s v b) q:=by
 obtain⟨_,h2,h3⟩:=XD h hb
 have g1:=h.Iy h2 h3
 have g2:=g1.dJ b.gP b.fin
 unfold sH kP;split
 ·exact g2.dJ _ _
 ·exact g2
theorem Ai (s:aN) (v:SV) (b:Block):(sH s v b).cFg=s.cFg∧(sH s v b).now=s.now:=by
 unfold sH;split
 ·rw[vR,Nb];unfold I4;rw[vR,Nb];exact⟨rfl,rfl⟩
 ·unfold I4;rw[vR,Nb];exact⟨rfl,rfl⟩
theorem aJk {s:aN} {v:SV} {q:Int} (h:GI s v q) {b:Block} (hb:Jl s v b=0):aD Tryz.prog 217 [.agg (aB s),.agg (aT b)]=some (.agg (aB (sH s v b))):=by
 obtain⟨h1,h2,h3⟩:=XD h hb
 have g1:=h.Iy h2 h3
 have g2:=g1.dJ b.gP b.fin
 have hi:Dm v.ns b (Mw b)=.eB [.agg (cP ⟨zL v b⟩),.v (.int .i64 0)]:=if_pos h1
 have I6:=aId v.ns h.sd.nn b (Mw b)
 rw[hi] at I6
 have k61a:=k61 g1.sd g1.up g1.sp b.gP b.fin
 have k61b:=k61 g2.sd g2.up g2.sp b.dN.pj b.dN.pf
 have I7:(wL (Tryz.Iy s v b) (Gp v b) b.gP b.fin).cFg.qG=s.cFg.qG:=by rw[vR];rfl
 have hnow:(wL (Tryz.Iy s v b) (Gp v b) b.gP b.fin).now=s.now:=by rw[Nb];rfl
 have hep:∀x,Dg (wL (Tryz.Iy s v b) (Gp v b) b.gP b.fin) x=Dg s x:=fun x=>by unfold Dg;rw[I7]
 have k98':=Ly (wL (Tryz.Iy s v b) (Gp v b) b.gP b.fin) g2.sp g2.sd.flat
 have e1:({ cFg:=s.cFg,fY:=s.fY,bH:=s.bH,dQ:=s.dQ,tree:=⟨.sl (zL v b).length (bZ (zL v b))⟩,now:=s.now,hU:=s.hU,tables:=s.tables }:aN)=Tryz.Iy s v b:=rfl
 rw[cL Tryz.func217 rfl aJl rfl];refine lM ?_
 by_cases c:Dg s b.slot<Dg s s.now
 ·have hv:sH s v b=_:=if_pos c
  have FC:=(g2.dJ b.dN.pj b.dN.pf).sd.flat
  simp only[Z8,seval,h.sd.tree,aI2,I6,dT,e1,k61a,k98',hep,hnow,c,k61b];exact⟨_,eU rfl (by simp only[E8,seval,FC]<;>rfl) (by simp only[Z8,seval,FC]<;>rfl) (by simp only[dU,and_self,FC]),by rw[hv];rfl⟩
 ·have hv:sH s v b=_:=if_neg c
  have FC:=g2.sd.flat
  simp only[Z8,seval,h.sd.tree,aI2,I6,dT,e1,k61a,k98',hep,hnow,c];exact⟨_,eU rfl (by simp only[E8,seval,FC]<;>rfl) (by simp only[Z8,seval,FC]<;>rfl) (by simp only[dU,and_self,FC]),by rw[hv];rfl⟩
theorem Qa {L:List Block} {k:Nat} (hk:k≤L.length) (a g:Nat):∃X,(∀(st:St) (hi:Operand),st.ev hi=.v (.int .i64 k)→st.heap a g=some (.row 74 238 L.length (aH L))→cU Tryz.prog st 45 (.own a g) none (some hi)=some X) ∧
 (∀st:St,st.heap a g=some (.row 74 238 L.length (aH L))→aQ st X=some ((L.take k).length,aH (L.take k))):=by
 have hl:(L.take k).length=k:=by simp;omega
 by_cases h0:k=0∧L.length=0
 ·obtain⟨rfl,h1⟩:=h0
  refine⟨.sl 0 [],fun st hi he hh=>?_,fun st hh=>by simp[aQ,aH]⟩
  simp[cU,oB,hh,he,h1]
 ·refine⟨.vw a g 0 k,fun st hi he hh=>?_,fun st hh=>?_⟩
  ·have:¬((0:Int)=k∧¬((0:Int)=0∧0<L.length)):=by omega
   have h2:(0:Int)≤k∧(k:Int)≤L.length:=by omega
   simp only[cU,oB,hh,he,if_neg this,h2,Int.le_refl,and_self,if_true];simp
   intro h3 h4;rw[h4] at h0;simp at h0
   omega
  ·have hb:k * 238≤(aH L).length:=by rw[Aj];exact Nat.mul_le_mul_right _ hk
   have:=wZ (c:=aT) (sz:=238) bN L k
   simp only[aQ,hh,Nat.zero_add,hb,if_true,List.drop_zero,hl];exact congrArg (fun z=>some (k,z)) this
theorem Cd {L:List Block} {k:Nat} (hk:k≤L.length) (a g:Nat):∃X,(∀(st:St) (lo:Operand),st.ev lo=.v (.int .i64 k)→st.heap a g=some (.row 74 238 L.length (aH L))→cU Tryz.prog st 45 (.own a g) (some lo) none=some X) ∧
 (∀st:St,st.heap a g=some (.row 74 238 L.length (aH L))→aQ st X=some ((L.drop k).length,aH (L.drop k))):=by
 have hl:(L.drop k).length=L.length-k:=by simp
 by_cases h0:k=L.length
 ·by_cases hz:0<k
  ·refine⟨.sl 0 [],fun st lo he hh=>?_,fun st hh=>by rw[h0];simp[aQ,aH]⟩
   have:(k:Int)=L.length∧¬((k:Int)=0∧0<L.length):=by omega
   have h2:(0:Int)≤k∧(k:Int)≤L.length:=by omega
   simp only[cU,oB,hh,he,if_pos this,h2,Int.le_refl,and_self,if_true]
  ·refine⟨.sl 0 [],fun st lo he hh=>?_,fun st hh=>by rw[h0];simp[aQ,aH]⟩
   have:(k:Int)=L.length∧¬((k:Int)=0∧0<L.length):=by omega
   have h2:(0:Int)≤k∧(k:Int)≤L.length:=by omega
   simp only[cU,oB,hh,he,if_pos this,h2,Int.le_refl,and_self,if_true]
 ·refine⟨.vw a g (k * 238) (L.length-k),fun st lo he hh=>?_,fun st hh=>?_⟩
  ·have h1:¬((k:Int)=L.length∧¬((k:Int)=0∧0<L.length)):=by omega
   have h2:((L.length:Int)-(k:Int)).toNat=L.length-k:=by omega
   have h3:(0:Int)≤k∧(k:Int)≤L.length:=by omega
   simp only[cU,oB,hh,he,if_neg h1,h3,Int.le_refl,and_self,if_true,h2,Int.toNat_natCast]
  ·have hb:k * 238+(L.length-k) * 238≤(aH L).length:=by rw[Aj,← Nat.add_mul];exact Nat.mul_le_mul_right _ (by omega)
   have:=xA (c:=aT) (sz:=238) bN L k
   have h3:((aH L).drop (k * 238)).length=(L.length-k) * 238:=by rw[List.length_drop,Aj,Nat.sub_mul]
   simp only[aQ,hh,hb,if_true,hl];rw[List.take_of_length_le (by omega)]
   exact congrArg (fun z=>some (L.length-k,z)) this
theorem GI.hU {s:aN} {v:SV} {q:Int} (h:GI s v q) (r:cC):GI { s with hU:=r } v q :=
 ⟨⟨h.sd.jH,h.sd.dR,h.sd.gZ,h.sd.early,h.sd.bY,h.sd.tree,h.sd.tables,h.sd.eV,h.sd.tB,h.sd.nB,h.sd.nL,h.sd.nQ,h.sd.nE,h.sd.nO,h.sd.nT,h.sd.nn⟩,h.up,h.KC,h.pos,h.nl,h.KX,h.qG,h.KY,h.nB,h.nO,h.KZ,h.nE,h.QP,h.nT,h.RZ,h.nQ,h.I3,h.gP⟩
def mE (s:aN) (x:AV):aN:={ s with dQ:={ s.dQ with bY:=x }}
theorem GI.SA {s:aN} {v:SV} {q:Int} (h:GI s v q) (O:Option (List Block)) (hO:((ol O).length:Int)≤s.cFg.lT.vQ):GI (mE s (ov aH O)) { v with O:=O } q :=
 ⟨⟨h.sd.jH,h.sd.dR,h.sd.gZ,h.sd.early,rfl,h.sd.tree,h.sd.tables,h.sd.eV,h.sd.tB,h.sd.nB,h.sd.nL,h.sd.nQ,h.sd.nE,by have:=h.KZ;show ((ol O).length:Int)<1000000;omega,h.sd.nT,h.sd.nn⟩,h.up,h.KC,h.pos,h.nl,h.KX,h.qG,h.KY,h.nB,hO,h.KZ,h.nE,h.QP,h.nT,h.RZ,h.nQ,h.I3,h.gP⟩
theorem SC (s:aN) (v:SV) (c1 c2:fK):(ol (Gm s v c1 c2).O).length≤(ol v.O).length:=by
 unfold Gm;split
 ·exact Nat.le_refl _
 split
 ·exact Nat.le_refl _
 ·show (ol (nz _)).length≤_
  rw[oE];exact List.length_filter_le _ _
theorem SE (s:aN) (v:SV) (b:Block):(ol (kP s v b).O).length≤(ol v.O).length:=by
 unfold kP;split
 ·exact Nat.le_trans (SC _ _ _ _) (SC _ _ _ _)
 ·exact SC _ _ _ _
theorem yK {s:aN} {v:SV} (h:SD s v) {O:List Block} {a g:Nat} (st:St) (hh:st.heap a g=some (.row 74 238 O.length (aH O))):eT st (.agg (aB (mE s (.own a g))))=some (.agg (aB (mE s (ov aH (some O))))):=by
 have lO:=h.fl
 unfold mE;simp only[bO,gB,bC,hh,tK,cE,dU,lO,cT];rfl
def Rg (x:Int):Prop:=0≤x∧x<18446744073709551616
structure RB (b:Block):Prop where
 sl:Rg b.slot
 j:Rg b.gP.aK
 f:Rg b.fin.aK
 pj:Rg b.dN.pj.aK
 pf:Rg b.dN.pf.aK
def Pr (r:cC):Prop:=r≠dI∧r≠mkRoot 99
theorem Wd {α:Type} (l:List α):nz l≠some []:=by
 unfold nz;split
 ·nofun
 ·rename_i h;intro e;injection e with e;exact h e
structure NEv (v:SV):Prop where
 q:v.Q≠some []
 e:v.E≠some []
 o:v.O≠some []
 t:v.T≠some []
 ea:∀a∈ol v.E,∃V,a.eK=ov aJ (some V)∧V≠[]
 tb:∀t∈ol v.T,∃B,t.jH=ov bD (some B)∧B≠[]
structure RG (s:aN) (v:SV):Prop where
 now:0≤s.now∧s.now≤1099511627776
 j:Rg s.bH.gP.aK
 f:Rg s.bH.fin.aK
 nd:∀n∈v.ns,RB n.block∧n.block.slot≤s.now
 or:∀b∈ol v.O,RB b∧Pr b.root
 rt:∀n∈v.ns,Pr n.block.root
 fe:s.bH.fin.aK≤s.bH.gP.aK∧s.bH.gP.aK≤Dg s s.now
 ds:(v.ns.map fun n=>n.block.root).Nodup
 tb:∃t∈ol v.T,t.ck=s.bH.gP
 ne:NEv v
theorem FD {ns:List Node} {i:Int} (h0:0≤i) (h1:i<ns.length):nd ns i∈ns:=by
 obtain⟨h,e⟩:=Ge h0 h1
 rw[e];exact List.getElem_mem h
theorem Ug (ns:List Node) (i:Int):∀k:Nat,k≤ns.length→∀n∈(oA ns i k).1,∃a∈ns,n.block=a.block∧n.status=a.status
 | 0,_,n,hn=>by simp[oA] at hn
 | k+1,hk,n,hn=>by
   unfold oA at hn;simp only at hn
   split at hn
   ·rcases List.mem_append.1 hn with hn|hn
    ·exact Ug ns i k (by omega) n hn
    ·rw[List.mem_singleton] at hn;subst hn;exact⟨nd ns k,FD (by omega) (by omega),rfl,rfl⟩
   ·exact Ug ns i k (by omega) n hn
theorem XE (ns:List Node) (i:Int):∀k:Nat,k≤ns.length→((oA ns i k).1.map (·.block)).Sublist ((ns.take k).map (·.block))
 | 0,_=>by simp[oA]
 | k+1,hk=>by
   have ih:=XE ns i k (by omega)
   have e:ns.take (k+1)=ns.take k++[nd ns k]:=by
    rw[List.take_succ_eq_append_getElem (by omega)]
    have h:k<ns.length:=by omega
    simp[Go.Ab.nd,h]
   unfold oA;simp only
   rw[e,List.map_append];split
   ·rw[List.map_append];exact ih.append (by simp)
   ·exact ih.trans (List.sublist_append_left ..)
theorem j8 {ns:List Node} (h:(ns.map fun n=>n.block.root).Nodup) (i:Int):((oA ns i ns.length).1.map fun n=>n.block.root).Nodup:=by
 have h1:=(XE ns i ns.length (Nat.le_refl _)).map (·.root)
 rw[List.take_length] at h1;simp only[List.map_map] at h1;exact h.sublist h1
theorem RG.dJ {s:aN} {v:SV} (r:RG s v) {c1 c2:fK} (r1:Rg c1.aK) (r2:Rg c2.aK):RG (wL s v c1 c2) (Gm s v c1 c2):=by
 have hJ:Rg (Fw s c1).aK:=by unfold Fw;split;exact r1;exact r.j
 have hF:Rg (Di s c2).aK:=by unfold Di;split;exact r2;exact r.f
 by_cases b:mD s v (Fw s c1) (Di s c2)
 ·rw[show wL s v c1 c2=s from if_pos b,show Gm s v c1 c2=v from if_pos b];exact r
 have fe:(Di s c2).aK≤(Fw s c1).aK∧(Fw s c1).aK≤Dg s s.now:=by
  unfold mD at b;simp only[not_or] at b;obtain⟨_,_,_,_,_,_,_,b8,b9,_⟩:=b
  omega
 have tb:∃t∈ol (nz (xR (ol v.T) (Fw s c1).aK)),t.ck=Fw s c1:=by
  unfold mD at b;simp only[not_or] at b;obtain⟨_,_,_,_,_,_,_,_,_,b10⟩:=b
  unfold F0 at b10;rcases yH (fun k=>(gx iS (ol v.T) k).ck=Fw s c1) (ol v.T).length with ⟨e,_⟩|⟨k,h1,h2,_,h3⟩
  ·rw[e] at b10;omega
  ·refine⟨gx iS (ol v.T) k, ?_,h2⟩
   rw[oE];refine List.mem_filter.2 ⟨yI (by omega) (by omega),decide_eq_true ?_⟩
   rw[h2];exact Int.le_refl _
 by_cases e:Di s c2=s.bH.fin
 ·rw[show wL s v c1 c2=_ from (if_neg b).trans (if_pos e),show Gm s v c1 c2=_ from (if_neg b).trans (if_pos e)];exact⟨r.now,hJ,hF,r.nd,r.or,r.rt,fe,r.ds,tb,⟨r.ne.q,r.ne.e,r.ne.o,Wd _,r.ne.ea,fun t ht=>r.ne.tb t (by have ht:t∈ol (nz (xR (ol v.T) (Fw s c1).aK)):=ht;rw[oE] at ht;exact (List.mem_filter.1 ht).1)⟩⟩
 ·rw[show wL s v c1 c2=_ from (if_neg b).trans (if_neg e),show Gm s v c1 c2=_ from (if_neg b).trans (if_neg e)];refine⟨r.now,hJ,hF,fun n hn=>?_,fun o ho=>?_,fun n hn=>?_,fe,j8 r.ds _,tb,⟨r.ne.q,r.ne.e,Wd _,Wd _,r.ne.ea,fun t ht=>r.ne.tb t (by have ht:t∈ol (nz (xR (ol v.T) (Fw s c1).aK)):=ht;rw[oE] at ht;exact (List.mem_filter.1 ht).1)⟩⟩
  ·obtain⟨a,ha,e1,_⟩:=Ug _ _ _ (Nat.le_refl _) n hn
   rw[e1];exact r.nd a ha
  ·have ho:o∈ol (nz ((ol v.O).filter fun b=>decide ((Dh s (Di s c2).aK).1<b.slot))):=ho
   rw[oE] at ho;exact r.or o (List.mem_filter.1 ho).1
  ·obtain⟨a,ha,e1,_⟩:=Ug _ _ _ (Nat.le_refl _) n hn
   rw[e1];exact r.rt a ha
theorem I8 {s:aN} {v:SV} {b:Block} (hb:Jl s v b=0∨Jl s v b=10):b.slot≤s.now:=by
 unfold Jl at hb;by_cases g1:b.root=dI
 ·rw[if_pos g1] at hb;omega
 rw[if_neg g1] at hb;by_cases g2:KnB v b.root
 ·rw[if_pos g2] at hb;omega
 rw[if_neg g2] at hb;by_cases g3:s.now<b.slot
 ·rw[if_pos g3] at hb;omega
 ·omega
theorem aA9 {s:aN} {v:SV} {b:Block} (hb:Jl s v b=0):aM v.ns b.root<0:=by
 rcases Int.lt_or_le (aM v.ns b.root) 0 with h|h
 ·exact h
 ·unfold Jl at hb;by_cases g1:b.root=dI
  ·rw[if_pos g1] at hb;omega
  ·rw[if_neg g1,if_pos (.inr h)] at hb;omega
theorem j9 {ns:List Node} {r:cC} (h:aM ns r<0):r ∉ ns.map fun n=>n.block.root:=by
 intro hm;obtain⟨n,hn,e⟩:=List.mem_map.1 hm
 obtain⟨k,hk,rfl⟩:=List.getElem_of_mem hn
 have:0≤aM ns r:=Na (j:=(k:Int)) (by omega) (by omega) (by
  have:Go.Ab.nd ns (k:Int)=ns[k]:=by simp[Go.Ab.nd,hk]
  rw[this];exact e)
 omega
theorem RG.ins {s:aN} {v:SV} (r:RG s v) {b:Block} (rb:RB b∧Pr b.root) (hc:Jl s v b=0):RG (sH s v b) (kP s v b):=by
 have hs:=I8 (.inl hc)
 have g1:RG (Tryz.Iy s v b) (Gp v b):=⟨r.now,r.j,r.f,fun n hn=>by
  rcases List.mem_append.1 (show n∈v.ns++[⟨b,aM v.ns b.parent,Mw b⟩] from hn) with hn|hn
  ·exact r.nd n hn
  ·rw[List.mem_singleton] at hn;subst hn;exact⟨rb.1,hs⟩,r.or,fun n hn=>by
  rcases List.mem_append.1 (show n∈v.ns++[⟨b,aM v.ns b.parent,Mw b⟩] from hn) with hn|hn
  ·exact r.rt n hn
  ·rw[List.mem_singleton] at hn;subst hn;exact rb.2,r.fe,by
  show ((v.ns++[(⟨b,aM v.ns b.parent,Mw b⟩:Node)]).map fun n:Node=>n.block.root).Nodup
  rw[List.map_append];refine List.nodup_append.2 ⟨r.ds,by simp,fun x hx y hy=>?_⟩
  simp only[List.map_cons,List.map_nil,List.mem_singleton] at hy;rintro rfl
  exact j9 (aA9 hc) (hy ▸ hx),r.tb,⟨r.ne.q,r.ne.e,r.ne.o,r.ne.t,r.ne.ea,r.ne.tb⟩⟩
 have g2:=g1.dJ rb.1.j rb.1.f
 unfold sH kP;split
 ·exact RG.dJ g2 rb.1.pj rb.1.pf
 ·exact g2
theorem RG.SA {s:aN} {v:SV} (r:RG s v) (O:Option (List Block)) (x:AV) (h:∀b∈ol O,RB b∧Pr b.root) (hO:O≠some []):RG (mE s x) { v with O:=O }:=⟨r.now,r.j,r.f,r.nd,h,r.rt,r.fe,r.ds,r.tb,⟨r.ne.q,r.ne.e,hO,r.ne.t,r.ne.ea,r.ne.tb⟩⟩
theorem RG.hU {s:aN} {v:SV} (r:RG s v) (x:cC):RG { s with hU:=x } v:=⟨r.now,r.j,r.f,r.nd,r.or,r.rt,r.fe,r.ds,r.tb,r.ne⟩
theorem GI.mono {s:aN} {v:SV} {q q':Int} (h:GI s v q) (h1:q≤q') (h2:q'≤900000):GI s v q' :=
 ⟨h.sd,h.up,h.KC,h.pos,h.nl,h.KX,h.qG,h.KY,h.nB,h.nO,h.KZ,h.nE,h.QP,h.nT,h.RZ,by have:=h.nQ;omega,h2,h.gP⟩
theorem Ih:Flat (.agg (aB gE)):=by simp only[dU,gE,mO,Gn,Ah,Km,and_self]
def StR (s:aN) (q:Int) (r:AV):Prop:=∃(s':aN) (e:Int),r=.eB [.agg (aB s'),.v (.int .i64 e)]∧Flat (.agg (aB s'))∧e≠21∧(e=0→∃v',GI s' v' q∧RG s' v'∧s'.cFg=s.cFg)
def StN (s:aN) (v:SV) (q:Int) (r:AV):Prop:=∃(s':aN) (e:Int),r=.eB [.agg (aB s'),.v (.int .i64 e)]∧Flat (.agg (aB s'))∧e≠21∧(e=0→∃v',GI s' v' q∧RG s' v'∧s'.cFg=s.cFg∧v'.ns=v.ns)
theorem aES (s:aN) (v:SV) (b:Block):Jl s v b≠21:=by
 unfold Jl;repeat (split;simp)
 simp
theorem aJm (x:Int) (h1:0≤x) (h2:x<18446744073709551616):IntKind.u64.wrap x=x:=by
 unfold IntKind.wrap;simp[IntKind.signed,IntKind.bits]
 omega
theorem aBa (o:Option (List cC)) (hn:((ol o).length:Int)<1000000) (r:cC):∃x,aD Tryz.prog 250 [ov eH o,.agg (aV r)]=some x∧∃b:Bool,x=.v (.bool b):=by
 rw[cL Tryz.func250 rfl aJn (by cases o<;>rfl)]
 simp only[Z8,seval];refine cM (fun m st=>∃k:Nat,(st.env 0=ov eH o∧st.env 3=.ptr 3 0 0∧st.heap 3 0=some (.cells (aV r))∧st.env 5=.v (.int .i64 k))∧(∀j:Nat,j<k→¬(gx dI (ol o) (j:Int)=r))∧k≤(ol o).length∧m=(ol o).length-k)
  (fun e st=>(e=.ret∧∃k:Nat,k<(ol o).length∧(gx dI (ol o) (k:Int)=r)∧(∀j:Nat,j<k→¬(gx dI (ol o) (j:Int)=r))∧st.env 4=.v (.bool true))∨(e=.exit 0∧(∀j:Nat,j<(ol o).length→¬(gx dI (ol o) (j:Int)=r))∧st.env 0=ov eH o∧st.env 3=.ptr 3 0 0∧st.heap 3 0=some (.cells (aV r)))) ((ol o).length) ?step ?start ?rest
 case step =>
  rintro m st ⟨k,hI,hj,hk,hm⟩
  by_cases bA:(k:Int)<(ol o).length
  ·have q0:(0:Int)≤k:=by omega
   have hw:IntKind.i64.wrap ((k:Int)+1)=((k+1:Nat):Int):=by rw[pV _ (by omega) (by omega)];omega
   by_cases hh:gx dI (ol o) (k:Int)=r
   ·apply oT (.ret)
    ·simp only[Z8,seval,hI,bA,q0,hh];rfl
    ·exact .inl ⟨rfl,k,by omega,hh,hj,by simp only[E8,seval]⟩
   ·apply oN ((ol o).length-(k+1))
    ·simp only[Z8,seval,hI,bA,q0,hh,hw];rfl
    ·exact⟨k+1,by simp only[E8,seval,hI],fun j h=>(Nat.lt_succ_iff_lt_or_eq.1 h).elim (hj j) fun e=>by subst e;exact hh,by omega,rfl⟩
  ·apply oT (.exit 0)
   ·simp only[Z8,seval,hI,bA];rfl
   ·exact .inr ⟨rfl,fun j h=>hj j (by omega),by simp only[E8,seval,hI]⟩
 case start=>exact⟨0,by simp only[E8,seval]<;>rfl,fun j h=>by omega,by omega,by omega⟩
 case rest =>
  rintro e st (⟨rfl,k,hk,hh,hj,h⟩|⟨rfl,hj,hI⟩)
  ·simp only[Z8,seval];exact⟨_,bX rfl (by simp only[E8,seval,h]<;>rfl) (by first|exact .v _|simp only[dU,h]),_,rfl⟩
  ·simp only[Z8,seval];exact⟨_,bX rfl (by simp only[E8,seval]<;>rfl) (by first|exact .v _|simp only[dU]),_,rfl⟩
theorem l4 (l:List Table) (c:fK):-1≤F0 l c∧F0 l c<l.length:=RS _ _
theorem aOa {s:aN} {v:SV} (hs:SD s v):∃x,aD Tryz.prog 239 [.agg (aB s)]=some x∧∃o:Option (List Int),x=ov bD o∧((ol o).length:Int)<1000000:=by
 have JL:=hs.fT
 rw[cL Tryz.func239 rfl aJo rfl];have r1:=l4 (ol v.T) s.bH.gP
 by_cases g1:F0 (ol v.T) s.bH.gP<0
 ·simp only[Z8,seval,hs.tables,WZ _ hs.nT JL,g1];exact⟨_,bX rfl (by simp only[E8,seval]<;>rfl) (by first|exact .v _|simp only[dU]),none,rfl,by simp[ol]⟩
 have q0:0≤F0 (ol v.T) s.bH.gP:=by omega
 obtain⟨b,hb,hl⟩:=hs.tB _ (yI (z:=iS) q0 r1.2)
 simp only[Z8,seval,hs.tables,WZ _ hs.nT JL,g1,q0,r1,hb];exact⟨_,bX rfl (by simp only[E8,seval,hb]<;>rfl) (dX b),b,rfl,hl⟩
theorem aOb (a b:Claim) (ha:Flat a.eK) (hb:Flat b.eK):∃x,aD Tryz.prog 234 [.agg (gL a),.agg (gL b)]=some x∧∃c:Bool,x=.v (.bool c):=by
 rw[cL Tryz.func234 rfl aJp rfl];by_cases g1:a.target=b.target
 ·by_cases g2:a.source=b.source
  ·by_cases g3:a.root=b.root
   all_goals
    have g4:¬a.source<b.source:=by omega
    have g5:¬b.source<a.source:=by omega
    simp only[Z8,seval,bt g1,bt g2,g3,g4,g5];exact⟨_,bX rfl (by simp only[E8,seval]<;>rfl) (by first|exact .v _|simp only[dU]),_,rfl⟩
  ·by_cases g4:a.source<b.source
   all_goals
    by_cases g5:b.source<a.source
    all_goals
     by_cases g6:b.target<a.target
     all_goals
      by_cases g7:a.target<b.target
      all_goals
       simp only[Z8,seval,bt g1,bf g2,g4,g5,g6,g7];exact⟨_,bX rfl (by simp only[E8,seval]<;>rfl) (by first|exact .v _|simp only[dU]),_,rfl⟩
 ·by_cases g4:a.source<b.source
  all_goals
   by_cases g5:b.source<a.source
   all_goals
    by_cases g6:b.target<a.target
    all_goals
     by_cases g7:a.target<b.target
     all_goals
      simp only[Z8,seval,bf g1,g4,g5,g6,g7];exact⟨_,bX rfl (by simp only[E8,seval]<;>rfl) (by first|exact .v _|simp only[dU]),_,rfl⟩
theorem aOc {s:aN} {v:SV} (hs:SD s v):∃x,aD Tryz.prog 209 [.agg (aB s)]=some x∧∃r:cC,x=.agg (aV r):=by
 rw[cL Tryz.func209 rfl aJq rfl];have r1:=fB v.ns s.bH.gP.root
 by_cases g1:0≤aM v.ns s.bH.gP.root
 ·by_cases g2:(nd v.ns (aM v.ns s.bH.gP.root)).status=1
  ·simp only[Z8,seval,hs.tree,mA _ _ hs.nn,g1,r1,bt g2];exact⟨_,eU rfl (by simp only[E8,seval]<;>rfl) (by simp only[Z8,seval]<;>rfl) (by simp only[dU,and_self]),_,rfl⟩
  ·simp only[Z8,seval,hs.tree,mA _ _ hs.nn,g1,r1,bf g2];exact⟨_,eU rfl (by simp only[E8,seval]<;>rfl) (by simp only[Z8,seval]<;>rfl) (by simp only[dU,and_self]),_,rfl⟩
 ·simp only[Z8,seval,hs.tree,mA _ _ hs.nn,g1];exact⟨_,eU rfl (by simp only[E8,seval]<;>rfl) (by simp only[Z8,seval]<;>rfl) (by simp only[dU,and_self]),_,rfl⟩
theorem aOd (c:Config) (hc:Flat c.jH) (x:Int):∃r,aD Tryz.prog 240 [.agg (bR c),.v (.int .u64 x)]=some r∧∃a e:Int,r=.eB [.v (.int .u64 a),.v (.int .i64 e)]:=by
 rw[cL Tryz.func240 rfl aJr rfl];by_cases g1:c.qG<1
 ·simp only[Z8,seval,g1];exact⟨_,dM rfl rfl rfl (by simp only[E8,seval]<;>rfl) (by simp only[E8,seval]<;>rfl),_,_,rfl⟩
 by_cases g2:64<c.qG
 ·simp only[Z8,seval,g1,g2];exact⟨_,dM rfl rfl rfl (by simp only[E8,seval]<;>rfl) (by simp only[E8,seval]<;>rfl),_,_,rfl⟩
 by_cases g3:100<c.Gq
 ·simp only[Z8,seval,g1,g2,g3];exact⟨_,dM rfl rfl rfl (by simp only[E8,seval]<;>rfl) (by simp only[E8,seval]<;>rfl),_,_,rfl⟩
 by_cases g4:4611686018427387904<x
 ·simp only[Z8,seval,g1,g2,g3,g4];exact⟨_,dM rfl rfl rfl (by simp only[E8,seval]<;>rfl) (by simp only[E8,seval]<;>rfl),_,_,rfl⟩
 have g5:(c.qG=0)=False:=eq_false (by omega)
 simp only[Z8,seval,g1,g2,g3,g4,g5];exact⟨_,dM rfl rfl rfl (by simp only[E8,seval]<;>rfl) (by simp only[E8,seval]<;>rfl),_,_,rfl⟩
noncomputable def aET (o:Option (List cC)) (r:cC):Bool:=if h:((ol o).length:Int)<1000000 then Classical.choose (Classical.choose_spec (aBa o h r)).2 else false
theorem aOe (o:Option (List cC)) (hn:((ol o).length:Int)<1000000) (r:cC) (st:St) (d:Option Nat):aP (aD Tryz.prog) 250 [ov eH o,.agg (aV r)] st d=some { dst:=d,val:=.v (.bool (aET o r))}:=by
 have h:=(Classical.choose_spec (aBa o hn r)).1
 rw[Classical.choose_spec (Classical.choose_spec (aBa o hn r)).2] at h;rw[show aET o r=Classical.choose (Classical.choose_spec (aBa o hn r)).2 from dif_pos hn];exact bT (bI (Gr o) (pZ r)) h (.v _)
theorem aOf (o:Option (List Int)) (hn:((ol o).length:Int)<999999) (x:Int):∃r,aD Tryz.prog 235 [ov aJ o,.v (.int .i64 x)]=some r∧(r=ov aJ o∨∃L:List Int,r=.uniq 3 1 L.length (aJ L)∧L.length=(ol o).length+1):=by
 rw[cG Tryz.func235 rfl aJs (by kernel_rfl) (by cases o<;>rfl)]
 simp only[ZG,seval,Bool.false_and,Prod.mk.injEq,We];refine nJ (fun m st=>∃k:Nat,(st.env 0=ov aJ o∧st.env 1=.v (.int .i64 x)∧st.env 5=.v (.int .i64 k))∧k≤(ol o).length∧m=(ol o).length-k)
  (fun e st=>e=.exit 0∧∃k:Nat,(st.env 0=ov aJ o∧st.env 1=.v (.int .i64 x)∧st.env 5=.v (.int .i64 k))∧k≤(ol o).length) (ol o).length ?step ?start ?rest
 case step =>
  rintro m st ⟨k,hI,hk,hm⟩
  by_cases bA:(k:Int)<(ol o).length
  ·have q0:(0:Int)≤k:=by omega
   have hw:IntKind.i64.wrap ((k:Int)+1)=((k+1:Nat):Int):=by rw[pV _ (by omega) (by omega)];omega
   by_cases h1:gx (0:Int) (ol o) (k:Int)<x
   ·apply Fl ((ol o).length-(k+1))
    ·simp only[ZG,seval,Bool.false_and,Prod.mk.injEq,We,hI,bA,q0,h1,hw];rfl
    ·exact⟨k+1,by simp only[E8,seval,hI],by omega,rfl⟩
   ·apply QN (.exit 0)
    ·simp only[ZG,seval,Bool.false_and,Prod.mk.injEq,We,hI,bA,q0,h1];rfl
    ·exact⟨rfl,k,by simp only[E8,seval,hI],hk⟩
  ·apply QN (.exit 0)
   ·simp only[ZG,seval,Bool.false_and,Prod.mk.injEq,We,hI,bA];rfl
   ·exact⟨rfl,k,by simp only[E8,seval,hI],hk⟩
 case start=>exact⟨0,by simp only[E8,seval]<;>rfl,by omega,by omega⟩
 case rest =>
  rintro e st ⟨rfl,k,hI,hk⟩
  have e1:ol (o.map (·.take k))=(ol o).take k:=by cases o<;>simp[ol]
  have e2:ol (o.map (·.drop k))=(ol o).drop k:=by cases o<;>simp[ol]
  have n1:((((ol o).take k).length:Nat):Int)<1000000:=by rw[List.length_take];omega
  have n2:((((ol o).drop k).length:Nat):Int)<1000000:=by rw[List.length_drop];omega
  have n3:((((ol o).take k++[x]).length:Nat):Int)<1000000:=by rw[List.length_append,List.length_take];simp;omega
  have q0:(0:Int)≤k:=by omega
  have q1:(k:Int)≤((ol o).length:Int):=by omega
  have go:∃r,some (AV.uniq 3 1 ((ol o).take k++[x]++(ol o).drop k).length (aJ ((ol o).take k++[x]++(ol o).drop k)))=some r∧(r=ov aJ o∨∃L:List Int,r=.uniq 3 1 L.length (aJ L)∧L.length=(ol o).length+1) :=
   ⟨_,rfl,.inr ⟨_,rfl,by simp;omega⟩⟩
  by_cases bA:(k:Int)<(ol o).length
  ·by_cases h2:gx (0:Int) (ol o) (k:Int)=x
   ·simp only[ZG,seval,Bool.false_and,Prod.mk.injEq,We,hI,bA,q0,bt h2];exact⟨_,bX rfl (by simp only[E8,seval,hI]<;>rfl) (bQ o),.inl rfl⟩
   ·simp only[ZG,seval,Bool.false_and,Prod.mk.injEq,We,Af,Ag,and_self,hI,bA,q0,q1,bf h2,Int.toNat_natCast,e1,e2,Nc _ n1,Dy _ _ _ _ n1,FE _ _ _ _ n3 n2];refine⟨_,rP rfl (by simp only[E8,seval]<;>rfl) (by simp only[E8,seval]<;>rfl) (fG _),.inr ⟨_,rfl,by simp;omega⟩⟩
  ·simp only[ZG,seval,Bool.false_and,Prod.mk.injEq,We,Af,Ag,and_self,hI,bA,q0,q1,Int.toNat_natCast,e1,e2,Nc _ n1,Dy _ _ _ _ n1,FE _ _ _ _ n3 n2];refine⟨_,rP rfl (by simp only[E8,seval]<;>rfl) (by simp only[E8,seval]<;>rfl) (fG _),.inr ⟨_,rfl,by simp;omega⟩⟩
theorem aOg (o:Option (List Int)) (hn:((ol o).length:Int)<1000000) (a:Int):aD Tryz.prog 49 [ov aJ o,.v (.int .i64 a)]=some (.v (.bool (decide (a∈ol o)))):=by
 cases o with
 | none=>rw[show ol (none:Option (List Int))=[] from rfl];simp only[List.not_mem_nil,decide_false];exact aJt a
 | some l=>exact c49 l a hn
theorem aEU (o:Option (List Int)) (hn:((ol o).length:Int)<1000000) (a:Int) (st:St) (d:Option Nat):aP (aD Tryz.prog) 49 [ov aJ o,.v (.int .i64 a)] st d=some { dst:=d,val:=.v (.bool (decide (a∈ol o)))}:=bT (bI (bQ o) (.v _)) (aOg o hn a) (.v _)
theorem aOh (t:uA) (L:Option (List lE)) (Q:Option (List Int)) (hL:t.dR=ov cV L) (hQ:t.gZ=ov aJ Q) (nL:((ol L).length:Int)<1000000) (nQ:((ol Q).length:Int)<1000000)
 (B:Option (List Int)) (nB:((ol B).length:Int)<1000000) (R:Option (List cC)) (nR:((ol R).length:Int)<1000000) :
 ∃r,aD Tryz.prog 248 [.agg (eP t),ov bD B,ov eH R]=some r∧∃a:Int,r=.v (.int .u64 a):=by
 rw[cL Tryz.func248 rfl aJu (by cases B<;>cases R<;>rfl)]
 simp only[Z8,seval];refine cM (fun m st=>∃(k:Nat) (a:Int),(st.env 1=ov bD B∧st.env 2=ov eH R∧st.env 3=.ptr 3 0 0∧st.heap 3 0=some (.cells (eP t))∧st.env 7=.v (.int .u64 a)∧st.env 8=.v (.int .i64 k))∧k≤(ol B).length∧m=(ol B).length-k)
  (fun e st=>e=.exit 0∧∃a:Int,st.env 7=.v (.int .u64 a)) (ol B).length ?step ?start ?rest
 case step =>
  rintro m st ⟨k,a,hI,hk,hm⟩
  by_cases bA:(k:Int)<(ol B).length
  ·have q0:(0:Int)≤k:=by omega
   have hw:IntKind.i64.wrap ((k:Int)+1)=((k+1:Nat):Int):=by rw[pV _ (by omega) (by omega)];omega
   by_cases h1:(k:Int)<(ol L).length
   ·cases h2:(gx rT (ol L) (k:Int)).has
    ·apply oN ((ol B).length-(k+1))
     ·simp only[Z8,seval,hI,bA,q0,hL,hQ,h1,h2,hw];rfl
     ·exact⟨k+1,_,by simp only[E8,seval,hI]<;>rfl,by omega,rfl⟩
    ·by_cases h3:(k:Int)∈ol Q
     ·apply oN ((ol B).length-(k+1))
      ·simp only[Z8,seval,hI,bA,q0,hL,hQ,h1,h2,aEU Q nQ,h3,decide_true,hw];rfl
      ·exact⟨k+1,_,by simp only[E8,seval,hI]<;>rfl,by omega,rfl⟩
     ·cases h4:aET R (gx rT (ol L) (k:Int)).root
      all_goals
       refine oF (st':=?_) ?_ ((ol B).length-(k+1)) (by omega) ?_
       rotate_left
       ·simp only[Z8,seval,hI,bA,q0,hL,hQ,h1,h2,aEU Q nQ,h3,decide_false,aOe R nR,h4,hw];rfl
       ·exact⟨k+1,_,by simp only[E8,seval,hI]<;>rfl,by omega,rfl⟩
   ·apply oT (.exit 0)
    ·simp only[Z8,seval,hI,bA,q0,hL,h1];rfl
    ·exact⟨rfl,a,by simp only[E8,seval,hI]⟩
  ·apply oT (.exit 0)
   ·simp only[Z8,seval,hI,bA];rfl
   ·exact⟨rfl,a,by simp only[E8,seval,hI]⟩
 case start=>exact⟨0,0,by simp only[E8,seval]<;>rfl,by omega,by omega⟩
 case rest =>
  rintro e st ⟨rfl,a,h⟩
  simp only[Z8,seval,h];exact⟨_,bX rfl (by simp only[E8,seval,h]<;>rfl) (by first|exact .v _|simp only[dU,h]),_,rfl⟩
theorem aOi (ns:List Node) (hn:(ns.length:Int)<1000000) (l:List Int) (hl:l.length=ns.length) (r:cC) (a:Int):∃x,aD Tryz.prog 243 [.agg (cP ⟨ns⟩),.sl l.length (bD l),.agg (aV r),.v (.int .u64 a)]=some x∧∃m:List Int,x=.uniq 23 1 m.length (bD m)∧m.length=ns.length:=by
 have Df:(l.length:Int)<1000000:=by omega
 have rr:=fB ns r
 rw[cL Tryz.func243 rfl aJv rfl];by_cases g1:0≤aM ns r
 case neg =>
  simp only[Z8,seval,Dx _ Df,mA _ _ hn,g1];exact⟨_,rP rfl (by simp only[E8,seval]<;>rfl) (by simp only[E8,seval]<;>rfl) (gV _),l,rfl,hl⟩
 by_cases g2:(nd ns (aM ns r)).status=2
 ·simp only[Z8,seval,Dx _ Df,mA _ _ hn,g1,rr,bt g2];exact⟨_,rP rfl (by simp only[E8,seval]<;>rfl) (by simp only[E8,seval]<;>rfl) (gV _),l,rfl,hl⟩
 by_cases g3:r=dI
 ·subst g3;simp only[Z8,seval,Dx _ Df,mA _ _ hn,g1,rr,bf g2];exact⟨_,rP rfl (by simp only[E8,seval]<;>rfl) (by simp only[E8,seval]<;>rfl) (gV _),l,rfl,hl⟩
 have q1:aM ns r<(l.length:Int):=by omega
 have q2:(aM ns r).toNat<l.length:=by omega
 have q3:(aM ns r).toNat+1≤l.length:=by omega
 have hy:=l5 g1 q1
 have Vh:∀z:Int,dJ (bD l) (aM ns r).toNat [.v (.int .u64 z)] ((aM ns r).toNat+1)=bD (l.set (aM ns r).toNat z):=fun z=>by
  have:=I9 l (aM ns r) z q2
  simpa using this
 have ld:=J0 (T:=23) (n:=l.length) (k:=1) g1 q1 RX (by decide) (by decide)
 rw[Nat.mul_one] at ld;simp only[Z8,seval,Dx _ Df,mA ns r hn,g1,rr,bf g2,g3,q1,q2,q3,hy,Vh,ld,Nat.mul_one];exact⟨_,rP rfl (by simp only[E8,seval]<;>rfl) (by simp only[E8,seval]<;>rfl) (gV _),_,by rw[List.length_set],by rw[List.length_set];exact hl⟩
theorem aBb (r:cC):eH [r]=aV r:=by simp[eH]
theorem J1 (r:cC):iX (some (.row 27 32 1 (aV r)))=some (.sl 1 (eH [r])):=by rw[← aBb];exact vG 1 [r]
noncomputable def aJw (t:uA) (B:Option (List Int)) (r:cC):Int:=if h:∃a:Int,aD Tryz.prog 248 [.agg (eP t),ov bD B,ov eH (some [r])]=some (.v (.int .u64 a)) then Classical.choose h else 0
theorem aJx (t:uA) (L:Option (List lE)) (Q:Option (List Int)) (hL:t.dR=ov cV L) (hQ:t.gZ=ov aJ Q) (nL:((ol L).length:Int)<1000000) (nQ:((ol Q).length:Int)<1000000)
 (B:Option (List Int)) (nB:((ol B).length:Int)<1000000) (r:cC) (s g:Nat) (st:St) (d:Option Nat) (hh:st.heap s g=some (.row 27 32 1 (aV r))) :
 aP (aD Tryz.prog) 248 [.agg (eP t),ov bD B,.own s g] st d=some { dst:=d,val:=.v (.int .u64 (aJw t B r))}:=by
 obtain⟨x,hx,a,rfl⟩:=aOh t L Q hL hQ nL nQ B nB (some [r]) (by simp[ol])
 have he:∃a:Int,aD Tryz.prog 248 [.agg (eP t),ov bD B,ov eH (some [r])]=some (.v (.int .u64 a)):=⟨a,hx⟩
 have hf:Flat (.agg (eP t)):=(Mr t).2 ⟨by rw[hL];exact vP L,by rw[hQ];exact bQ Q⟩
 rw[show aJw t B r=Classical.choose he from dif_pos he];rw[lC,List.map_cons,List.map_cons,List.map_cons,List.map_nil,dL hf,dL (dX B),uT,hh,J1,bK,bK,bK,gC];exact Vl (Classical.choose_spec he)
theorem aOj (ns:List Node) (hn:(ns.length:Int)<1000000) (h0:0<ns.length) (t:uA) (L:Option (List lE)) (Q:Option (List Int)) (hL:t.dR=ov cV L) (hQ:t.gZ=ov aJ Q) (nL:((ol L).length:Int)<1000000) (nQ:((ol Q).length:Int)<1000000)
 (B:Option (List Int)) (nB:((ol B).length:Int)<1000000) :
 ∃x,aD Tryz.prog 241 [.agg (cP ⟨ns⟩),.agg (eP t),ov bD B]=some x∧∃m:List Int,x=.uniq 23 1 m.length (bD m)∧m.length=ns.length:=by
 have kw:=fun r g=>aJx t L Q hL hQ nL nQ B nB r 33 g
 rw[cL Tryz.func241 rfl aJy (by cases B<;>rfl)]
 simp only[Z8,seval];refine cM (fun m st=>∃k:Nat,(st.env 3=.ptr 3 0 0∧st.heap 3 0=some (.cells (cP ⟨ns⟩))∧st.env 4=.ptr 4 0 0∧st.heap 4 0=some (.cells (eP t))∧st.env 2=ov bD B∧st.env 8=.v (.int .i64 k))∧((k=0∧st.env 7=.v (.slice none 0 0))∨∃(l:List Int) (g:Nat),st.env 7=.own 38 g∧g<st.aO 38∧st.heap 38 g=some (.row 23 1 l.length (bD l))∧l.length=k)∧k≤ns.length∧m=ns.length-k)
  (fun e st=>e=.exit 0∧∃(l:List Int) (g:Nat),st.env 7=.own 38 g∧st.heap 38 g=some (.row 23 1 l.length (bD l))∧l.length=ns.length) ns.length ?step ?start ?rest
 case step =>
  rintro m st ⟨k,hI,h7,hk,hm⟩
  by_cases bA:(k:Int)<ns.length
  ·have q0:(0:Int)≤k:=by omega
   have hw:IntKind.i64.wrap ((k:Int)+1)=((k+1:Nat):Int):=by rw[pV _ (by omega) (by omega)];omega
   by_cases h1:(nd ns k).status=2
   ·rcases h7 with ⟨vM,h7⟩|⟨l,g,h7,hg,Fi,hl⟩
    ·apply oN (ns.length-(k+1))
     ·simp only[Z8,seval,hI,h7,bA,q0,bt h1,hw];rfl
     ·exact⟨k+1,by simp only[E8,seval,hI],.inr ⟨[0],st.aO 38,by simp only[E8,seval]<;>rfl,by simp only[E8,seval]<;>omega,by simp only[E8,seval]<;>rfl,by simp;omega⟩,by omega,rfl⟩
    ·have nl:(l.length:Int)<1000000:=by omega
     apply oN (ns.length-(k+1))
     ·simp only[Z8,seval,hI,h7,Fi,bA,q0,bt h1,hw,xB _ _ _ _ nl];rfl
     ·exact⟨k+1,by simp only[E8,seval,hI],.inr ⟨_,st.aO 38,by simp only[E8,seval]<;>rfl,by simp only[E8,seval]<;>omega,by simp only[E8,seval]<;>rfl,by rw[List.length_append];simp;omega⟩,by omega,rfl⟩
   ·rcases h7 with ⟨vM,h7⟩|⟨l,g,h7,hg,Fi,hl⟩
    ·apply oN (ns.length-(k+1))
     ·simp only[Z8,seval,hI,h7,bA,q0,bf h1,kw (nd ns k).block.root,hw];rfl
     ·exact⟨k+1,by simp only[E8,seval,hI],.inr ⟨[_],st.aO 38,by simp only[E8,seval]<;>rfl,by simp only[E8,seval]<;>omega,by simp only[E8,seval]<;>rfl,by simp;omega⟩,by omega,rfl⟩
    ·have nl:(l.length:Int)<1000000:=by omega
     apply oN (ns.length-(k+1))
     ·simp only[Z8,seval,hI,h7,Fi,bA,q0,bf h1,kw (nd ns k).block.root,hw,xB _ _ _ _ nl];rfl
     ·exact⟨k+1,by simp only[E8,seval,hI],.inr ⟨_,st.aO 38,by simp only[E8,seval]<;>rfl,by simp only[E8,seval]<;>omega,by simp only[E8,seval]<;>rfl,by rw[List.length_append];simp;omega⟩,by omega,rfl⟩
  ·have De:k=ns.length:=by omega
   rcases h7 with ⟨vM,h7⟩|⟨l,g,h7,hg,Fi,hl⟩
   ·omega
   ·apply oT (.exit 0)
    ·simp only[Z8,seval,hI,bA];rfl
    ·exact⟨rfl,l,g,by simp only[E8,seval,h7],by simp only[E8,seval,Fi],by omega⟩
 case start=>exact⟨0,by simp only[E8,seval]<;>rfl,.inl ⟨rfl,by simp only[E8,seval]⟩,by omega,by omega⟩
 case rest =>
  rintro e st ⟨rfl,l,g,h7,Fi,hl⟩
  simp only[Z8,seval,h7];exact⟨_,rP rfl (by simp only[E8,seval,h7]<;>rfl) (by simp only[E8,seval,Fi]<;>rfl) (gV _),l,rfl,hl⟩
theorem aOk (ns:List Node) (hu:gU ns) (hn:(ns.length:Int)<1000000) (h0:0<ns.length) (l:List Int) (hl:l.length=ns.length) :
 ∃x,aD Tryz.prog 242 [.agg (cP ⟨ns⟩),.sl l.length (bD l)]=some x∧∃m:List Int,x=.uniq 23 1 m.length (bD m)∧m.length=ns.length:=by
 rw[cL Tryz.func242 rfl aJz rfl];simp only[Z8,seval];refine cM (fun m st=>∃k:Nat,(st.env 2=.ptr 2 0 0∧st.heap 2 0=some (.cells (cP ⟨ns⟩))∧st.env 1=.sl l.length (bD l)∧st.env 6=.v (.int .i64 k))∧((k=0∧st.env 5=.v (.slice none 0 0))∨∃(l:List Int) (g:Nat),st.env 5=.own 38 g∧g<st.aO 38∧st.heap 38 g=some (.row 23 1 l.length (bD l))∧l.length=k)∧k≤ns.length∧m=ns.length-k)
  (fun e st=>e=.exit 0∧∃(l:List Int) (g:Nat),st.env 5=.own 38 g∧st.heap 38 g=some (.row 23 1 l.length (bD l))∧l.length=ns.length) ns.length ?step ?start ?rest
 case step =>
  rintro m st ⟨k,hI,h5,hk,hm⟩
  by_cases bA:(k:Int)<ns.length
  ·have q0:(0:Int)≤k:=by omega
   have hw:IntKind.i64.wrap ((k:Int)+1)=((k+1:Nat):Int):=by rw[pV _ (by omega) (by omega)];omega
   have kd:=k64 ns hu hn k (RE hu q0 bA ns.length bA)
   have hrg:=WU ns k
   have hdl:=Ub ns k ns.length
   obtain⟨D,hD⟩:∃D,Fj ns k ns.length=D:=⟨_,rfl⟩
   rw[hD] at kd hrg hdl;simp only[Z8,seval,hI,bA,q0,kd];refine YW (fun mm st'=>∃(j:Nat) (a:Int),(st'.env 2=.ptr 2 0 0∧st'.heap 2 0=some (.cells (cP ⟨ns⟩))∧st'.env 1=.sl l.length (bD l)∧st'.env 6=.v (.int .i64 k)∧st'.env 5=st.env 5∧st'.aO 38=st.aO 38∧(∀g,st'.heap 38 g=st.heap 38 g)∧st'.env 7=.v (.int .u64 a)∧st'.env 8=.own 19 (st.aO 19)∧st'.heap 19 (st.aO 19)=some (.row 3 1 D.length (aJ D))∧st'.env 9=.v (.int .i64 j))∧j≤D.length∧mm=D.length-j)
    (fun e st'=>e=.exit 2∧∃a:Int,(st'.env 2=.ptr 2 0 0∧st'.heap 2 0=some (.cells (cP ⟨ns⟩))∧st'.env 1=.sl l.length (bD l)∧st'.env 6=.v (.int .i64 k)∧st'.env 5=st.env 5∧st'.aO 38=st.aO 38∧(∀g,st'.heap 38 g=st.heap 38 g)∧st'.env 7=.v (.int .u64 a))) D.length ?J2 ?SF ?LA
   case J2 =>
    rintro mm st' ⟨j,a,hJ,hj,hmm⟩
    by_cases hjl:(j:Int)<D.length
    ·have p0:(0:Int)≤j:=by omega
     have hw2:IntKind.i64.wrap ((j:Int)+1)=((j+1:Nat):Int):=by rw[pV _ (by omega) (by omega)];omega
     obtain⟨hjt,hje⟩:=wI p0 hjl
     have hx:=hrg _ (List.getElem_mem hjt)
     rw[← hje] at hx;have x0:=hx.1
     have x1:it D j<(l.length:Int):=by omega
     have gi:=oR p0 hjl
     apply oN (D.length-(j+1))
     ·simp only[Z8,seval,hJ,hjl,p0,x0,x1,gi,hw2];rfl
     ·exact⟨j+1,IntKind.u64.wrap (a+gx (0:Int) l (it D j)),by simp only[E8,seval,hJ,implies_true,and_self],by omega,rfl⟩
    ·apply oT (.exit 2)
     ·simp only[Z8,seval,hJ,hjl];rfl
     ·exact⟨rfl,a,by simp only[E8,seval,hJ,implies_true,and_self]⟩
   case SF=>exact⟨0,0,by simp only[E8,seval,hI,implies_true,and_self]<;>rfl,by omega,by omega⟩
   case LA =>
    rintro e st' ⟨rfl,a,hJ⟩
    obtain⟨j2,j2',j1,j6,j5,jc,jh,j7⟩:=hJ
    rcases h5 with ⟨vM,h5⟩|⟨l',g,h5,hg,xO,Df⟩
    ·rw[h5] at j5;refine G9 (st':=?s3) ?h3 (ns.length-(k+1)) (by omega) ?q3
     case h3 =>
      simp only[Z8,seval,j2,j2',j1,j6,j5,jc,j7,hw];rfl
     case q3=>exact⟨k+1,by simp only[E8,seval,j2,j2',j1],.inr ⟨[a],st.aO 38,by simp only[E8,seval,jc]<;>rfl,by simp only[E8,seval,jc]<;>omega,by simp only[E8,seval,jc]<;>rfl,by simp;omega⟩,by omega,rfl⟩
    ·rw[h5] at j5;have nl:(l'.length:Int)<1000000:=by omega
     have jhh:=jh g
     rw[xO] at jhh;refine G9 (st':=?s4) ?h4 (ns.length-(k+1)) (by omega) ?q4
     case h4 =>
      simp only[Z8,seval,j2,j2',j1,j6,j5,jc,jhh,j7,hw,xB _ _ _ _ nl];rfl
     case q4=>exact⟨k+1,by simp only[E8,seval,j2,j2',j1],.inr ⟨l'++[a],st.aO 38,by simp only[E8,seval,jc]<;>rfl,by simp only[E8,seval,jc]<;>omega,by simp only[E8,seval,jc]<;>rfl,by rw[List.length_append];simp;omega⟩,by omega,rfl⟩
  ·have De:k=ns.length:=by omega
   rcases h5 with ⟨vM,h5⟩|⟨l,g,h5,hg,xO,hl⟩
   ·omega
   ·apply oT (.exit 0)
    ·simp only[Z8,seval,hI,bA];rfl
    ·exact⟨rfl,l,g,by simp only[E8,seval,h5],by simp only[E8,seval,xO],by omega⟩
 case start=>exact⟨0,by simp only[E8,seval]<;>rfl,.inl ⟨rfl,by simp only[E8,seval]⟩,by omega,by omega⟩
 case rest =>
  rintro e st ⟨rfl,l,g,h5,xO,hl⟩
  simp only[Z8,seval,h5];exact⟨_,rP rfl (by simp only[E8,seval,h5]<;>rfl) (by simp only[E8,seval,xO]<;>rfl) (gV _),l,rfl,hl⟩
theorem aOm {s:aN} {v:SV} {q:Int} (h:GI s v q):∃x,aD Tryz.prog 223 [.agg (aB s)]=some x∧∃m:List Int,x=.uniq 23 1 m.length (bD m)∧m.length=v.ns.length:=by
 have hf:=h.sd.flat
 have hn:=h.sd.nn
 obtain⟨r1,e1,o,rfl,ho⟩:=aOa h.sd
 have k239:=kx e1 (cO hf) (dX o)
 obtain⟨r2,e2,a,c,rfl,_⟩:=aI3 o ho
 have ZS:=kx e2 (cO (dX o)) (.eB _ (bI (.v _) (.v _)))
 have hcb:Flat s.cFg.jH:=h.sd.fl.1
 obtain⟨r3,e3,a3,c3,rfl⟩:=aOd s.cFg hcb a
 have k240:=kx e3 (bI ((xP _).2 hcb) (.v _)) (.eB _ (bI (.v _) (.v _)))
 obtain⟨r4,e4,m1,rfl,hm1⟩:=aOj v.ns hn h.pos s.fY v.L v.Q h.sd.dR h.sd.gZ h.sd.nL h.sd.nQ o ho
 have hfv:Flat (.agg (eP s.fY)):=(Mr _).2 ⟨h.sd.fl.2.1,h.sd.fl.2.2.1⟩
 have k241:∀(st:St),aP (aD Tryz.prog) 241 [.agg (cP ⟨v.ns⟩),.agg (eP s.fY),ov bD o] st (some 28)=_:=fun st=>iW (st:=st) (d:=28) (mC (nG _) hfv (dX o)) e4
 obtain⟨r5,e5,m2,rfl,hm2⟩:=aOi v.ns hn m1 hm1 s.hU a3
 have k243:∀(st:St) (g:Nat),st.heap 28 g=some (.row 23 1 m1.length (bD m1))→aP (aD Tryz.prog) 243 [.agg (cP ⟨v.ns⟩),.own 28 g,.agg (aV s.hU),.v (.int .u64 a3)] st (some 37)=some { dst:=some 37,val:=.own 37 (st.aO 37),new:=some (37,[.row 23 1 m2.length (bD m2)])}:=by
  intro st g hh;rw[lC,List.map_cons,List.map_cons,List.map_cons,List.map_cons,List.map_nil,Ii,uT,hh,uS,Qb,Pw,bK,bK,bK,bK,gC];exact J3 e5 (CK m2)
 obtain⟨r6,e6,m3,rfl,hm3⟩:=aOk v.ns h.up hn h.pos m2 hm2
 have k242:∀(st:St) (g:Nat),st.heap 37 g=some (.row 23 1 m2.length (bD m2))→aP (aD Tryz.prog) 242 [.agg (cP ⟨v.ns⟩),.own 37 g] st (some 38)=some { dst:=some 38,val:=.own 38 (st.aO 38),new:=some (38,[.row 23 1 m3.length (bD m3)])}:=by
  intro st g hh;rw[lC,List.map_cons,List.map_cons,List.map_nil,Ii,uT,hh,uS,bK,bK,gC];exact J3 e6 (CK m3)
 rw[cL Tryz.func223 rfl aJA rfl];simp only[Z8,seval,k239,ZS,dT,k240,h.sd.tree,k241,k243,k242];exact⟨_,rP rfl (by simp only[E8,seval]<;>rfl) (by simp only[E8,seval]<;>rfl) (gV _),m3,rfl,hm3⟩
noncomputable def AF (s:aN) (v:SV) (i:Int):fK:=if 0≤i∧i<v.ns.length then (if Dg s (nd v.ns i).block.slot<Dg s s.now then (nd v.ns i).block.dN.pj else (nd v.ns i).block.gP) else gR
theorem aOn {s:aN} {v:SV} (hs:SD s v) (hp:s.cFg.qG≠0) (i:Int):aD Tryz.prog 252 [.agg (aB s),.v (.int .i64 i)]=some (.agg (bV (AF s v i))):=by
 have hf:=hs.flat
 rw[cL Tryz.func252 rfl aJB rfl];refine lM ?_
 by_cases g1:0≤i
 case neg =>
  have hv:AF s v i=gR:=if_neg (fun h=>g1 h.1)
  simp only[Z8,seval,Vv hs,g1,Bool.false_and];exact⟨_,eU rfl (by simp only[E8,seval]<;>rfl) (by simp only[Z8,seval]<;>rfl) (by simp only[dU,and_self]),by rw[hv]⟩
 by_cases g2:i<(v.ns.length:Int)
 case neg =>
  have hv:AF s v i=gR:=if_neg (fun h=>g2 h.2)
  simp only[Z8,seval,Vv hs,g1,g2,Bool.and_false];exact⟨_,eU rfl (by simp only[E8,seval]<;>rfl) (by simp only[Z8,seval]<;>rfl) (by simp only[dU,and_self]),by rw[hv]⟩
 by_cases g3:Dg s (nd v.ns i).block.slot<Dg s s.now
 ·have hv:AF s v i=(nd v.ns i).block.dN.pj:=by unfold AF;rw[if_pos ⟨g1,g2⟩,if_pos g3]
  simp only[Z8,seval,Vv hs,g1,g2,hs.tree,Ly s hp hf,g3];exact⟨_,eU rfl (by simp only[E8,seval]<;>rfl) (by simp only[Z8,seval]<;>rfl) (by simp only[dU,and_self]),by rw[hv]⟩
 ·have hv:AF s v i=(nd v.ns i).block.gP:=by unfold AF;rw[if_pos ⟨g1,g2⟩,if_neg g3]
  simp only[Z8,seval,Vv hs,g1,g2,hs.tree,Ly s hp hf,g3];exact⟨_,eU rfl (by simp only[E8,seval]<;>rfl) (by simp only[Z8,seval]<;>rfl) (by simp only[dU,and_self]),by rw[hv]⟩
theorem aBd {s:aN} {v:SV} (hs:SD s v) (hp:s.cFg.qG≠0) (i:Int) (st:St) (d:Option Nat):aP (aD Tryz.prog) 252 [.agg (aB s),.v (.int .i64 i)] st d=some { dst:=d,val:=.agg (bV (AF s v i))}:=bT (bI hs.flat (.v _)) (aOn hs hp i) (.agg _ (dA _))
theorem aJC {s:aN} {v:SV} (hs:SD s v) (hp:s.cFg.qG≠0) (i:Int):∃r,aD Tryz.prog 249 [.agg (aB s),.v (.int .i64 i)]=some r∧∃b:Bool,r=.v (.bool b):=by
 have hf:=hs.flat
 rw[cL Tryz.func249 rfl aJD rfl];by_cases g1:0≤i
 case neg =>
  simp only[Z8,seval,Vv hs,g1,Bool.false_and];exact⟨_,bX rfl (by simp only[E8,seval]<;>rfl) (by first|exact .v _|simp only[dU]),_,rfl⟩
 by_cases g2:i<(v.ns.length:Int)
 case neg =>
  simp only[Z8,seval,Vv hs,g1,g2,Bool.and_false];exact⟨_,bX rfl (by simp only[E8,seval]<;>rfl) (by first|exact .v _|simp only[dU]),_,rfl⟩
 by_cases g3:(nd v.ns i).status=2
 ·simp only[Z8,seval,Vv hs,g1,g2,hs.tree,bt g3];exact⟨_,bX rfl (by simp only[E8,seval]<;>rfl) (by first|exact .v _|simp only[dU]),_,rfl⟩
 by_cases g4:s.bH.gP.aK=0
 ·simp only[Z8,seval,Vv hs,g1,g2,hs.tree,bf g3,aBd hs hp,bt g4];exact⟨_,bX rfl (by simp only[E8,seval]<;>rfl) (by first|exact .v _|simp only[dU]),_,rfl⟩
 by_cases g5:(AF s v i).aK=s.bH.gP.aK
 ·simp only[Z8,seval,Vv hs,g1,g2,hs.tree,bf g3,aBd hs hp,bf g4,bt g5];exact⟨_,bX rfl (by simp only[E8,seval]<;>rfl) (by first|exact .v _|simp only[dU]),_,rfl⟩
 by_cases g6:Dg s s.now≤(AF s v i).aK
 ·simp only[Z8,seval,Vv hs,g1,g2,hs.tree,bf g3,aBd hs hp,bf g4,bf g5,Ly s hp hf,g6];exact⟨_,bX rfl (by simp only[E8,seval]<;>rfl) (by first|exact .v _|simp only[dU]),_,rfl⟩
 ·simp only[Z8,seval,Vv hs,g1,g2,hs.tree,bf g3,aBd hs hp,bf g4,bf g5,Ly s hp hf,g6];exact⟨_,bX rfl (by simp only[E8,seval]<;>rfl) (by first|exact .v _|simp only[dU]),_,rfl⟩
theorem aEW (ns:List Node) (i x:Int):∀k:Nat,x∈Rz ns i k→(0≤x∧x<k)∧(nd ns x).up=i:=by
 intro k;induction k with
 | zero=>intro h;simp[Rz] at h
 | succ k ih =>
   intro h;unfold Rz at h;split at h
   ·rename_i hc;rcases List.mem_append.1 h with h|h
    ·have:=ih h;omega
    ·have hx:=List.mem_singleton.1 h
     subst hx;exact⟨by omega,hc⟩
   ·have:=ih h;omega
theorem FF {ns:List Node} (hu:gU ns) (hr:(nd ns 0).up=-1) {i x:Int} (h:x∈vN ns i):i<x∧0≤x∧x<ns.length:=by
 unfold vN at h;split at h
 ·simp at h
 ·rename_i hi;obtain⟨⟨x0,x1⟩,Vh⟩:=aEW ns i x _ h
  by_cases hx:x=0
  ·subst hx;rw[hr] at Vh;omega
  ·have:=(hu x (by omega) x1).2;omega
theorem aJE {s:aN} {v:SV} (hs:SD s v) (hu:gU v.ns) (hr:(nd v.ns 0).up=-1) (hp:s.cFg.qG≠0):∀(n:Nat) (i:Int),((v.ns.length:Int)-i).toNat≤n→∃b:Bool,aD Tryz.prog 244 [.agg (aB s),.v (.int .i64 i)]=some (.v (.bool b)):=by
 have base:∀(i:Int),vN v.ns i=[]→∃b:Bool,aD Tryz.prog 244 [.agg (aB s),.v (.int .i64 i)]=some (.v (.bool b)):=by
  intro i hc;obtain⟨r,hr9,b,rfl⟩:=aJC hs hp i
  have J4:=kx hr9 (bI hs.flat (.v _)) (.v _)
  have kc:=fun st d=>aDy v.ns hu hr hs.nn i hc st d
  suffices h:∃r,aD Tryz.prog 244 [.agg (aB s),.v (.int .i64 i)]=some r∧∃b:Bool,r=.v (.bool b) by
   obtain⟨r,h,b,rfl⟩:=h;exact⟨b,h⟩
  rw[cL Tryz.func244 rfl aDK rfl];cases b
  ·simp only[Z8,seval,J4,hs.tree,kc];refine cM (fun m st=>st.env 5=.v (.slice none 0 0)∧st.env 6=.v (.int .i64 0)∧m=0) (fun e st=>e=.exit 0) 0 ?step ?start ?rest
   case step =>
    rintro m st ⟨h5,h6,_⟩
    apply oT (.exit 0)
    ·simp only[Z8,seval,h5,h6,Int.lt_irrefl];rfl
    ·exact rfl
   case start=>exact⟨by simp only[E8,seval]<;>rfl,by simp only[E8,seval]<;>rfl,rfl⟩
   case rest =>
    rintro e st rfl
    simp only[Z8,seval];exact⟨_,bX rfl (by simp only[E8,seval]<;>rfl) (by first|exact .v _|simp only[dU]),_,rfl⟩
  ·simp only[Z8,seval,J4];exact⟨_,bX rfl (by simp only[E8,seval]<;>rfl) (by first|exact .v _|simp only[dU]),_,rfl⟩
 intro n;induction n with
 | zero =>
   intro i hi;exact base i (KE hu hr (by omega))
 | succ n ih =>
   intro i hi;by_cases hc:vN v.ns i=[]
   ·exact base i hc
   obtain⟨r,hr9,b,rfl⟩:=aJC hs hp i
   have J4:=kx hr9 (bI hs.flat (.v _)) (.v _)
   have kc:=fun st d=>aIw v.ns hu hr hs.nn i hc st d
   have hB:∀x:Int,∃b:Bool,x∈vN v.ns i→aD Tryz.prog 244 [.agg (aB s),.v (.int .i64 x)]=some (.v (.bool b)):=by
    intro x;by_cases hx:x∈vN v.ns i
    ·have:=FF hu hr hx
     obtain⟨b,hb⟩:=ih x (by omega)
     exact⟨b,fun _=>hb⟩
    ·exact⟨false,fun h=>absurd h hx⟩
   obtain⟨B,hB⟩:∃B:Int→Bool,∀x,x∈vN v.ns i→aD Tryz.prog 244 [.agg (aB s),.v (.int .i64 x)]=some (.v (.bool (B x))):=⟨fun x=>Classical.choose (hB x),fun x=>Classical.choose_spec (hB x)⟩
   have hgt:∀x∈vN v.ns i,i<x∧0≤x∧x<v.ns.length:=fun x hx=>FF hu hr hx
   have hin:((vN v.ns i).length:Int)<1000000:=by
    have h1:(vN v.ns i).length≤v.ns.length:=by
     unfold vN;split
     ·simp
     ·exact Uc v.ns i v.ns.length
    have:=hs.nn;omega
   obtain⟨l,el⟩:∃l,vN v.ns i=l:=⟨_,rfl⟩
   rw[el] at kc hB hin;suffices h:∃r,aD Tryz.prog 244 [.agg (aB s),.v (.int .i64 i)]=some r∧∃b:Bool,r=.v (.bool b) by
    obtain⟨r,h,b,rfl⟩:=h;exact⟨b,h⟩
   rw[cL Tryz.func244 rfl aDK rfl];cases b
   case true =>
    simp only[Z8,seval,J4];exact⟨_,bX rfl (by simp only[E8,seval]<;>rfl) (by first|exact .v _|simp only[dU]),_,rfl⟩
   simp only[Z8,seval,J4,hs.tree,kc];refine cM (fun m st=>∃k:Nat,(st.env 2=.ptr 2 0 0∧st.heap 2 0=some (.cells (aB s))∧st.env 5=.own 13 0∧st.heap 13 0=some (.row 3 1 l.length (aJ l))∧st.env 6=.v (.int .i64 k))∧(∀j:Nat,j<k→¬(B (it l (j:Int))=true))∧k≤l.length∧m=l.length-k)
    (fun e st=>(e=.ret∧∃k:Nat,k<l.length∧(B (it l (k:Int))=true)∧(∀j:Nat,j<k→¬(B (it l (j:Int))=true))∧st.env 4=.v (.bool true))∨(e=.exit 0∧(∀j:Nat,j<l.length→¬(B (it l (j:Int))=true))∧st.env 2=.ptr 2 0 0∧st.heap 2 0=some (.cells (aB s))∧st.env 5=.own 13 0∧st.heap 13 0=some (.row 3 1 l.length (aJ l)))) (l.length) ?step ?start ?rest
   case step =>
    rintro m st ⟨k,hI,hj,hk,hm⟩
    by_cases bA:(k:Int)<l.length
    ·have q0:(0:Int)≤k:=by omega
     have hw:IntKind.i64.wrap ((k:Int)+1)=((k+1:Nat):Int):=by rw[pV _ (by omega) (by omega)];omega
     have gi:=oR q0 bA
     have hm2:it l (k:Int)∈l:=by obtain⟨h1,h2⟩:=wI q0 bA;rw[h2];exact List.getElem_mem h1
     have kb:=kx (hB _ hm2) (bI hs.flat (.v _)) (.v _)
     by_cases hh:B (it l (k:Int))=true
     ·apply oT (.ret)
      ·simp only[Z8,seval,hI,bA,q0,kb,gi,hh];rfl
      ·exact .inl ⟨rfl,k,by omega,hh,hj,by simp only[E8,seval,kb,gi]⟩
     ·have hn:B (it l (k:Int))=false:=by simpa using hh
      apply oN (l.length-(k+1))
      ·simp only[Z8,seval,hI,bA,q0,kb,gi,hn,hw];rfl
      ·exact⟨k+1,by simp only[E8,seval,hI],fun j h=>(Nat.lt_succ_iff_lt_or_eq.1 h).elim (hj j) fun e=>by subst e;exact hh,by omega,rfl⟩
    ·apply oT (.exit 0)
     ·simp only[Z8,seval,hI,bA,bA];rfl
     ·exact .inr ⟨rfl,fun j h=>hj j (by omega),by simp only[E8,seval,hI]⟩
   case start=>exact⟨0,by simp only[E8,seval]<;>rfl,fun j h=>by omega,by omega,by omega⟩
   case rest =>
    rintro e st (⟨rfl,k,hk,hh,hj,h⟩|⟨rfl,hj,hI⟩)
    ·simp only[Z8,seval];exact⟨_,bX rfl (by simp only[E8,seval,h]<;>rfl) (by first|exact .v _|simp only[dU,h]),_,rfl⟩
    ·simp only[Z8,seval];exact⟨_,bX rfl (by simp only[E8,seval]<;>rfl) (by first|exact .v _|simp only[dU]),_,rfl⟩
theorem aOq {s:aN} {v:SV} {q:Int} (h:GI s v q):∃x,aD Tryz.prog 224 [.agg (aB s)]=some x∧∃m:List Bool,x=.uniq 4 1 m.length (mG m)∧m.length=v.ns.length:=by
 have hn:=h.sd.nn
 have h0:=h.pos
 obtain⟨B,hB⟩:∃B:Int→Bool,∀x,aD Tryz.prog 244 [.agg (aB s),.v (.int .i64 x)]=some (.v (.bool (B x))):=⟨fun x=>Classical.choose (aJE h.sd h.up h.KC h.sp _ x (Nat.le_refl _)),fun x=>Classical.choose_spec (aJE h.sd h.up h.KC h.sp _ x (Nat.le_refl _))⟩
 have kb:∀(x:Int) (st:St) (d:Option Nat),aP (aD Tryz.prog) 244 [.agg (aB s),.v (.int .i64 x)] st d=some { dst:=d,val:=.v (.bool (B x))}:=fun x=>kx (hB x) (bI h.sd.flat (.v _)) (.v _)
 rw[cL Tryz.func224 rfl aJF rfl];simp only[Z8,seval];refine cM (fun m st=>∃k:Nat,(st.env 1=.ptr 1 0 0∧st.heap 1 0=some (.cells (aB s))∧st.env 4=.v (.int .i64 k))∧((k=0∧st.env 3=.v (.slice none 0 0))∨∃(l:List Bool) (g:Nat),st.env 3=.own 18 g∧g<st.aO 18∧st.heap 18 g=some (.row 4 1 l.length (mG l))∧l.length=k)∧k≤v.ns.length∧m=v.ns.length-k)
  (fun e st=>e=.exit 0∧∃(l:List Bool) (g:Nat),st.env 3=.own 18 g∧st.heap 18 g=some (.row 4 1 l.length (mG l))∧l.length=v.ns.length) v.ns.length ?step ?start ?rest
 case step =>
  rintro m st ⟨k,hI,h5,hk,hm⟩
  by_cases bA:(k:Int)<v.ns.length
  ·have q0:(0:Int)≤k:=by omega
   have hw:IntKind.i64.wrap ((k:Int)+1)=((k+1:Nat):Int):=by rw[pV _ (by omega) (by omega)];omega
   rcases h5 with ⟨vM,h5⟩|⟨l',g,h5,hg,xO,Df⟩
   ·apply oN (v.ns.length-(k+1))
    ·simp only[Z8,seval,hI,h5,bA,q0,h.sd.tree,kb,hw];rfl
    ·exact⟨k+1,by simp only[E8,seval,hI],.inr ⟨[B k],st.aO 18,by simp only[E8,seval]<;>rfl,by simp only[E8,seval]<;>omega,by simp only[E8,seval]<;>rfl,by simp;omega⟩,by omega,rfl⟩
   ·have nl:(l'.length:Int)<1000000:=by omega
    apply oN (v.ns.length-(k+1))
    ·simp only[Z8,seval,hI,h5,xO,bA,q0,h.sd.tree,kb,hw,LB _ _ _ _ nl];rfl
    ·exact⟨k+1,by simp only[E8,seval,hI],.inr ⟨l'++[B k],st.aO 18,by simp only[E8,seval]<;>rfl,by simp only[E8,seval]<;>omega,by simp only[E8,seval]<;>rfl,by rw[List.length_append];simp;omega⟩,by omega,rfl⟩
  ·have De:k=v.ns.length:=by omega
   rcases h5 with ⟨vM,h5⟩|⟨l,g,h5,hg,xO,hl⟩
   ·omega
   ·apply oT (.exit 0)
    ·simp only[Z8,seval,hI,bA,h.sd.tree];rfl
    ·exact⟨rfl,l,g,by simp only[E8,seval,h5],by simp only[E8,seval,xO],by omega⟩
 case start=>exact⟨0,by simp only[E8,seval]<;>rfl,.inl ⟨rfl,by simp only[E8,seval]⟩,by omega,by omega⟩
 case rest =>
  rintro e st ⟨rfl,l,g,h5,xO,hl⟩
  simp only[Z8,seval,h5];exact⟨_,rP rfl (by simp only[E8,seval,h5]<;>rfl) (by simp only[E8,seval,xO]<;>rfl) (Sb _),l,rfl,hl⟩
theorem sS {x:AV} (h:Flat x):iV x=[]:=by
 have one:∀c,Flat c→gA c=[]:=fun c hc=>by cases hc<;>rfl
 cases h with
 | agg cs h =>
   simp only[iV];rw[List.flatMap_eq_nil_iff];exact fun c hc=>one c (h c hc)
 | _=>rfl
theorem SG {args:List AV} (h:∀x∈args,Flat x):args.flatMap iV=[]:=List.flatMap_eq_nil_iff.2 fun x hx=>sS (h x hx)
theorem LC {call:Nat→List AV→Option AV} {g:Nat} {args:List AV} {st:St} {d:Option Nat} (h:∀x∈args,Flat x):eE call g args st d=aP call g args st d:=by
 unfold eE;rw[SG h]
theorem Gs {call:Nat→List AV→Option AV} {g:Nat} {args:List AV} {r:AV} {st:St} {d:Option Nat} (hf:∀x∈args,Flat x) (h:call g args=some r) (hr:Flat r):eE call g args st d=some { dst:=d,val:=r }:=by
 rw[LC hf];exact bT hf h hr
noncomputable def Ko (call:Nat→List AV→Option AV) (g:Nat) (xs:Option (List AV)) (s k:Nat) (st:St) (d:Option Nat):Option qR :=
 cH xs fun xs=>cH (call g xs) fun r=>Dk r st d s k
theorem Dz {call:Nat→List AV→Option AV} {g:Nat} {args:List AV} {st:St} {d:Option Nat} {s k:Nat} (hk:args.flatMap iV=[(s,k)]) (he:∀x∈args,WD x):eE call g args st d=Ko call g (cF (args.map (eT st))) s k st d:=by
 unfold eE Ko;rw[hk];simp only
 rw[if_pos he];cases cF (args.map (eT st))<;>rfl
theorem Wf {call:Nat→List AV→Option AV} {g:Nat} {xs:List AV} {r:AV} {s k:Nat} {st:St} {d:Option Nat} (h:call g xs=some r) (hr:Flat r):Ko call g (some xs) s k st d=some { dst:=d,val:=r,dJ:=some (s,k,none)}:=by
 unfold Ko Dk;simp only[cT,h,if_pos hr]
theorem aBe {call:Nat→List AV→Option AV} {g:Nat} {xs:List AV} {e sz n:Nat} {cs:List AV} {s k:Nat} {st:St} {d:Nat} (h:call g xs=some (.uniq e sz n cs)) (hm:∀c∈cs,fF c):Ko call g (some xs) s k st (some d)=some { dst:=some d,val:=.own d (st.aO d),dJ:=some (s,k,none),new:=some (d,[.row e sz n cs])}:=by
 have hnf:¬Flat (.uniq e sz n cs):=by intro h;cases h
 unfold Ko Dk;simp only[cT,h,if_neg hnf,if_pos hm]
theorem J5 {call:Nat→List AV→Option AV} {g:Nat} {args:List AV} {e sz n:Nat} {cs:List AV} {st:St} {d:Nat} (hf:∀x∈args,Flat x) (h:call g args=some (.uniq e sz n cs)):eE call g args st (some d)=some { dst:=some d,val:=.own d (st.aO d),new:=some (d,[.row e sz n cs])}:=by
 have hnf:¬Flat (.uniq e sz n cs):=by intro h;cases h
 rw[LC hf];unfold aP;rw[if_pos hf,h];simp only[cT];unfold iR;rw[if_neg hnf];rfl
theorem Ij {st:St} {a g:Nat} {L:List Int} (hh:st.heap a g=some (.row 3 1 L.length (aJ L))):eT st (.own a g)=some (ov aJ (some L)):=by
 rw[uT,hh];exact jL L.length L
theorem aJG (o:Option (List Int)) (hn:((ol o).length:Int)<999999) (x:Int) :
 ((∀(st:St) (d:Nat),eE (aD Tryz.prog) 235 [ov aJ o,.v (.int .i64 x)] st (some d)=some { dst:=some d,val:=ov aJ o }) ∧
  ∀(st:St) (d a g:Nat) (L:List Int),o=some L→st.heap a g=some (.row 3 1 L.length (aJ L))→eE (aD Tryz.prog) 235 [.own a g,.v (.int .i64 x)] st (some d)=some { dst:=some d,val:=ov aJ (some L),dJ:=some (a,g,none)}) ∨
 ∃M:List Int,M.length=(ol o).length+1∧(∀(st:St) (d:Nat),eE (aD Tryz.prog) 235 [ov aJ o,.v (.int .i64 x)] st (some d)=some { dst:=some d,val:=.own d (st.aO d),new:=some (d,[.row 3 1 M.length (aJ M)])}) ∧
  ∀(st:St) (d a g:Nat) (L:List Int),o=some L→st.heap a g=some (.row 3 1 L.length (aJ L))→eE (aD Tryz.prog) 235 [.own a g,.v (.int .i64 x)] st (some d)=some { dst:=some d,val:=.own d (st.aO d),dJ:=some (a,g,none),new:=some (d,[.row 3 1 M.length (aJ M)])}:=by
 have one:∀(st:St) (d a g:Nat) (L:List Int),o=some L→st.heap a g=some (.row 3 1 L.length (aJ L))→eE (aD Tryz.prog) 235 [.own a g,.v (.int .i64 x)] st (some d)=Ko (aD Tryz.prog) 235 (some [ov aJ o,.v (.int .i64 x)]) a g st (some d):=by
  rintro st d a g L rfl hh
  rw[Dz (s:=a) (k:=g) rfl (by intro y hy;simp only[List.mem_cons,List.not_mem_nil,or_false] at hy;rcases hy with rfl|rfl;exact .inr (.inl ⟨a,g,rfl⟩);exact .inl (.v _)),
   List.map_cons,List.map_cons,List.map_nil,Ij hh,Pw,bK,bK,gC]
  rfl
 obtain⟨r,hr,h⟩:=aOf o hn x
 rcases h with rfl|⟨M,rfl,hM⟩
 ·refine .inl ⟨fun st d=>Gs (bI (bQ o) (.v _)) hr (bQ o),fun st d a g L ho hh=>?_⟩
  rw[one st d a g L ho hh];subst ho;exact Wf hr (bQ _)
 ·refine .inr ⟨M,hM,fun st d=>J5 (bI (bQ o) (.v _)) hr,fun st d a g L ho hh=>?_⟩
  rw[one st d a g L ho hh];exact aBe hr (l6 M)
theorem aJH (x:fN) (V W:Option (List Int)) (hV:x.first.eK=ov aJ V) (hW:x.second.eK=ov aJ W) (nV:((ol V).length:Int)<99999) (nW:((ol W).length:Int)<99999) :
 ∃r,aD Tryz.prog 221 [.agg (bW x)]=some r∧∃o:Option (List Int),((ol o).length:Int)≤(ol V).length∧(r=ov aJ o∨∃L,o=some L∧r=.uniq 3 1 L.length (aJ L)):=by
 have f1:Flat x.first.eK:=by rw[hV];exact bQ V
 have f2:Flat x.second.eK:=by rw[hW];exact bQ W
 rw[cL Tryz.func221 rfl aJI rfl];simp only[Z8,seval];refine cM (fun m st=>∃k:Nat,(st.env 1=.ptr 1 0 0∧st.heap 1 0=some (.cells (bW x))∧st.env 4=.v (.int .i64 k))∧(∃o:Option (List Int),(ol o).length≤k∧(st.env 3=ov aJ o∨∃g L,o=some L∧st.env 3=.own 30 g∧g<st.aO 30∧st.heap 30 g=some (.row 3 1 L.length (aJ L))))∧k≤(ol V).length∧m=(ol V).length-k)
  (fun e st=>e=.exit 0∧∃o:Option (List Int),(ol o).length≤(ol V).length∧(st.env 3=ov aJ o∨∃g L,o=some L∧st.env 3=.own 30 g∧st.heap 30 g=some (.row 3 1 L.length (aJ L)))) (ol V).length ?step ?start ?rest
 case step =>
  rintro m st ⟨k,hI,⟨o,ho,h3⟩,hk,hm⟩
  by_cases bA:(k:Int)<(ol V).length
  ·have q0:(0:Int)≤k:=by omega
   have hw:IntKind.i64.wrap ((k:Int)+1)=((k+1:Nat):Int):=by rw[pV _ (by omega) (by omega)];omega
   have J6:=aEU W (by omega) (gx (0:Int) (ol V) (k:Int))
   by_cases h1:gx (0:Int) (ol V) (k:Int)∈ol W
   ·have CI:=eq_true h1
    rcases aJG o (by omega) (gx (0:Int) (ol V) (k:Int)) with ⟨ea,eb⟩|⟨M,hM,ea,eb⟩
    ·rcases h3 with h3|⟨g,L,hL,h3,hg,hh⟩
     ·apply oN ((ol V).length-(k+1))
      ·simp only[Z8,seval,hI,h3,bA,q0,hV,hW,J6,CI,ea,hw];rfl
      ·exact⟨k+1,by simp only[E8,seval,hI],⟨o,by omega,.inl (by simp only[E8,seval])⟩,by omega,rfl⟩
     ·have J7:=fun st d a g=>eb st d a g L hL
      have ho':(ol (some L)).length≤k:=by rw[← hL];exact ho
      apply oN ((ol V).length-(k+1))
      ·simp only[Z8,seval,hI,h3,hh,bA,q0,hV,hW,J6,CI,J7,hw];rfl
      ·exact⟨k+1,by simp only[E8,seval,hI],⟨some L,by omega,.inl (by simp only[E8,seval])⟩,by omega,rfl⟩
    ·rcases h3 with h3|⟨g,L,hL,h3,hg,hh⟩
     ·apply oN ((ol V).length-(k+1))
      ·simp only[Z8,seval,hI,h3,bA,q0,hV,hW,J6,CI,ea,hw];rfl
      ·exact⟨k+1,by simp only[E8,seval,hI],⟨some M,by show M.length≤_;omega,.inr ⟨_,M,rfl,by simp only[E8,seval]<;>rfl,by simp only[E8,seval]<;>omega,by simp only[E8,seval]<;>rfl⟩⟩,by omega,rfl⟩
     ·have J7:=fun st d a g=>eb st d a g L hL
      have uD:(g=st.aO 30)=False:=eq_false (by omega)
      apply oN ((ol V).length-(k+1))
      ·simp only[Z8,seval,hI,h3,hh,uD,bA,q0,hV,hW,J6,CI,J7,hw];rfl
      ·exact⟨k+1,by simp only[E8,seval,hI],⟨some M,by show M.length≤_;omega,.inr ⟨_,M,rfl,by simp only[E8,seval]<;>rfl,by simp only[E8,seval]<;>omega,by simp only[E8,seval]<;>rfl⟩⟩,by omega,rfl⟩
   ·have CI:=eq_false h1
    have h3':st.env 3=ov aJ o∨∃g L,o=some L∧st.env 3=.own 30 g∧g<st.aO 30∧st.heap 30 g=some (.row 3 1 L.length (aJ L)):=h3
    apply oN ((ol V).length-(k+1))
    ·simp only[Z8,seval,hI,bA,q0,hV,hW,J6,CI,hw];rfl
    ·exact⟨k+1,by simp only[E8,seval,hI],⟨o,by omega,by simpa only[E8,seval] using h3'⟩,by omega,rfl⟩
  ·have h3':st.env 3=ov aJ o∨∃g L,o=some L∧st.env 3=.own 30 g∧st.heap 30 g=some (.row 3 1 L.length (aJ L)):=h3.imp id fun ⟨g,L,a,b,_,c⟩=>⟨g,L,a,b,c⟩
   apply oT (.exit 0)
   ·simp only[Z8,seval,hI,bA,hV];rfl
   ·exact⟨rfl,o,by omega,by simpa only[E8,seval] using h3'⟩
 case start=>exact⟨0,by simp only[E8,seval]<;>rfl,⟨none,by simp[ol],.inl (by simp only[E8,seval]<;>rfl)⟩,by omega,by omega⟩
 case rest =>
  rintro e st ⟨rfl,o,ho,h3⟩
  rcases h3 with h3|⟨g,L,hL,h3,hh⟩
  ·simp only[Z8,seval,h3];exact⟨_,bX rfl (by simp only[E8,seval,h3]<;>rfl) (bQ o),o,by omega,.inl rfl⟩
  ·simp only[Z8,seval,h3];exact⟨_,rP rfl (by simp only[E8,seval,h3]<;>rfl) (by simp only[E8,seval,hh]<;>rfl) (fG _),o,by omega,.inr ⟨L,hL,rfl⟩⟩
theorem aJJ {o:Option (List Int)} {L:List Int} (h:(ol o).length≤L.length):IntKind.i64.wrap ((L.length:Int)-((ol o).length:Int))≠0→L≠[]:=by
 rintro hn rfl
 have h0:(ol o).length=0:=by simpa using h
 rw[h0] at hn;exact hn (by decide)
theorem aOr (o V:Option (List Int)) (no:((ol o).length:Int)<900000) (nV:((ol V).length:Int)<99999) :
 ∃r,aD Tryz.prog 220 [ov aJ o,ov aJ V]=some r∧∃(L:List Int) (n:Int),r=.eB [ov aJ (some L),.v (.int .i64 n)]∧L.length≤(ol o).length+(ol V).length∧(n≠0→L≠[]):=by
 rw[cL Tryz.func220 rfl aJK (by cases o<;>cases V<;>rfl)]
 have no':((ol o).length:Int)<1000000:=by omega
 simp only[Z8,seval,Nc _ no'];refine cM (fun m st=>∃k:Nat,(st.env 0=ov aJ o∧st.env 1=ov aJ V∧st.env 7=.v (.int .i64 k))∧(∃L:List Int,((ol o).length≤L.length∧L.length≤(ol o).length+k)∧(st.env 6=ov aJ (some L)∨(∃g,st.env 6=.own 21 g∧g<st.aO 21∧st.heap 21 g=some (.row 3 1 L.length (aJ L)))∨(st.env 6=.own 9 0∧st.heap 9 0=some (.row 3 1 L.length (aJ L)))))∧k≤(ol V).length∧m=(ol V).length-k)
  (fun e st=>e=.exit 0∧(st.env 0=ov aJ o)∧∃L:List Int,((ol o).length≤L.length∧L.length≤(ol o).length+(ol V).length)∧(st.env 6=ov aJ (some L)∨∃a g,st.env 6=.own a g∧st.heap a g=some (.row 3 1 L.length (aJ L)))) (ol V).length ?step ?start ?rest
 case step =>
  rintro m st ⟨k,hI,⟨L,hL,h3⟩,hk,hm⟩
  by_cases bA:(k:Int)<(ol V).length
  ·have q0:(0:Int)≤k:=by omega
   have hw:IntKind.i64.wrap ((k:Int)+1)=((k+1:Nat):Int):=by rw[pV _ (by omega) (by omega)];omega
   rcases aJG (some L) (by show (L.length:Int)<_;omega) (gx (0:Int) (ol V) (k:Int)) with ⟨ea,eb⟩|⟨M,hM,ea,eb⟩
   ·rcases h3 with h3|⟨g,h3,hg,hh⟩|⟨h3,hh⟩
    ·apply oN ((ol V).length-(k+1))
     ·simp only[Z8,seval,hI,h3,bA,q0,ea,hw];rfl
     ·exact⟨k+1,by simp only[E8,seval,hI],⟨L,by omega,.inl (by simp only[E8,seval])⟩,by omega,rfl⟩
    ·have J7:=fun st d a g=>eb st d a g L rfl
     apply oN ((ol V).length-(k+1))
     ·simp only[Z8,seval,hI,h3,hh,bA,q0,J7,hw];rfl
     ·exact⟨k+1,by simp only[E8,seval,hI],⟨L,by omega,.inl (by simp only[E8,seval])⟩,by omega,rfl⟩
    ·have J7:=fun st d a g=>eb st d a g L rfl
     apply oN ((ol V).length-(k+1))
     ·simp only[Z8,seval,hI,h3,hh,bA,q0,J7,hw];rfl
     ·exact⟨k+1,by simp only[E8,seval,hI],⟨L,by omega,.inl (by simp only[E8,seval])⟩,by omega,rfl⟩
   ·have hM':M.length=L.length+1:=hM
    rcases h3 with h3|⟨g,h3,hg,hh⟩|⟨h3,hh⟩
    ·apply oN ((ol V).length-(k+1))
     ·simp only[Z8,seval,hI,h3,bA,q0,ea,hw];rfl
     ·exact⟨k+1,by simp only[E8,seval,hI],⟨M,by omega,.inr (.inl ⟨_,by simp only[E8,seval]<;>rfl,by simp only[E8,seval]<;>omega,by simp only[E8,seval]<;>rfl⟩)⟩,by omega,rfl⟩
    ·have J7:=fun st d a g=>eb st d a g L rfl
     have uD:(g=st.aO 21)=False:=eq_false (by omega)
     apply oN ((ol V).length-(k+1))
     ·simp only[Z8,seval,hI,h3,hh,uD,bA,q0,J7,hw];rfl
     ·exact⟨k+1,by simp only[E8,seval,hI],⟨M,by omega,.inr (.inl ⟨_,by simp only[E8,seval]<;>rfl,by simp only[E8,seval]<;>omega,by simp only[E8,seval]<;>rfl⟩)⟩,by omega,rfl⟩
    ·have J7:=fun st d a g=>eb st d a g L rfl
     apply oN ((ol V).length-(k+1))
     ·simp only[Z8,seval,hI,h3,hh,bA,q0,J7,hw];rfl
     ·exact⟨k+1,by simp only[E8,seval,hI],⟨M,by omega,.inr (.inl ⟨_,by simp only[E8,seval]<;>rfl,by simp only[E8,seval]<;>omega,by simp only[E8,seval]<;>rfl⟩)⟩,by omega,rfl⟩
  ·have h3':st.env 6=ov aJ (some L)∨∃a g,st.env 6=.own a g∧st.heap a g=some (.row 3 1 L.length (aJ L)):=by
    rcases h3 with h3|⟨g,h3,hg,hh⟩|⟨h3,hh⟩
    ·exact .inl h3
    ·exact .inr ⟨21,g,h3,hh⟩
    ·exact .inr ⟨9,0,h3,hh⟩
   apply oT (.exit 0)
   ·simp only[Z8,seval,hI,bA];rfl
   ·exact⟨rfl,by simp only[E8,seval,hI],L,by omega,by simpa only[E8,seval] using h3'⟩
 case start=>exact⟨0,by simp only[E8,seval]<;>rfl,⟨ol o,by omega,.inr (.inr ⟨by simp only[E8,seval],by simp only[E8,seval]⟩)⟩,by omega,by omega⟩
 case rest =>
  rintro e st ⟨rfl,h0,L,hL,h3⟩
  rcases h3 with h3|⟨a,g,h3,hh⟩
  ·simp only[Z8,seval,h3,h0];exact⟨_,dM rfl rfl rfl (by simp only[E8,seval,h3,Ea]<;>rfl) (by simp only[E8,seval,h3,Ea]<;>rfl),L,_,rfl,hL.2,aJJ hL.1⟩
  ·simp only[Z8,seval,h3,hh,h0];exact⟨_,dM rfl rfl rfl (by simp only[E8,seval,h3,hh,jL]<;>rfl) (by simp only[E8,seval,h3,hh,jL]<;>rfl),L,_,rfl,hL.2,aJJ hL.1⟩
theorem aOs (x:fN) (V W:Option (List Int)) (hV:x.first.eK=ov aJ V) (hW:x.second.eK=ov aJ W) (nV:((ol V).length:Int)<99999) (nW:((ol W).length:Int)<99999) (n:Int) :
 ∃r,aD Tryz.prog 219 [.agg (bW x),.v (.int .i64 n)]=some r∧∃e:Int,r=.v (.int .i64 e)∧e≠21:=by
 have f1:Flat x.first.eK:=by rw[hV];exact bQ V
 have f2:Flat x.second.eK:=by rw[hW];exact bQ W
 have fx:Flat (.agg (bW x)):=(mL x).2 ⟨f1,f2⟩
 have kV:=kx (c40 V (by omega) n) (bI (bQ V) (.v _)) (.v _)
 have kW:=kx (c40 W (by omega) n) (bI (bQ W) (.v _)) (.v _)
 obtain⟨ev,Zw⟩:∃e,Zu (ol V) n=e:=⟨_,rfl⟩
 obtain⟨ew,hew⟩:∃e,Zu (ol W) n=e:=⟨_,rfl⟩
 rw[Zw] at kV;rw[hew] at kW;obtain⟨r1,F2,c,rfl⟩:=aOb x.first x.second f1 f2
 have J8:=kx F2 (bI ((yG _).2 f1) ((yG _).2 f2)) (.v _)
 obtain⟨r2,hr2,o,ho,hro⟩:=aJH x V W hV hW nV nW
 rw[cL Tryz.func219 rfl aJL rfl];by_cases g1:ev=0
 case neg =>
  simp only[Z8,seval,hV,hW,kV,bf g1];exact⟨_,bX rfl (by simp only[E8,seval]<;>rfl) (by first|exact .v _|simp only[dU]),_,rfl,by rw[← Zw];exact RU _ _⟩
 by_cases g2:ew=0
 case neg =>
  simp only[Z8,seval,hV,hW,kV,kW,bt g1,bf g2];exact⟨_,bX rfl (by simp only[E8,seval]<;>rfl) (by first|exact .v _|simp only[dU]),_,rfl,by rw[← hew];exact RU _ _⟩
 by_cases g3:x.first.target<x.first.source
 ·simp only[Z8,seval,hV,hW,kV,kW,bt g1,bt g2,g3];exact⟨_,bX rfl (by simp only[E8,seval]<;>rfl) (by first|exact .v _|simp only[dU]),_,rfl,by decide⟩
 by_cases g4:x.second.target<x.second.source
 ·simp only[Z8,seval,hV,hW,kV,kW,bt g1,bt g2,g3,g4];exact⟨_,bX rfl (by simp only[E8,seval]<;>rfl) (by first|exact .v _|simp only[dU]),_,rfl,by decide⟩
 cases c
 ·simp only[Z8,seval,hV,hW,kV,kW,bt g1,bt g2,g3,g4,J8];exact⟨_,bX rfl (by simp only[E8,seval]<;>rfl) (by first|exact .v _|simp only[dU]),_,rfl,by decide⟩
 rcases hro with rfl|⟨L,hL,rfl⟩
 ·have Wg:=kx hr2 (cO fx) (bQ o)
  by_cases g5:((ol o).length:Int)=0
  ·simp only[Z8,seval,hV,hW,kV,kW,bt g1,bt g2,g3,g4,J8,Wg,bt g5];exact⟨_,bX rfl (by simp only[E8,seval]<;>rfl) (by first|exact .v _|simp only[dU]),_,rfl,by decide⟩
  ·simp only[Z8,seval,hV,hW,kV,kW,bt g1,bt g2,g3,g4,J8,Wg,bf g5];exact⟨_,bX rfl (by simp only[E8,seval]<;>rfl) (by first|exact .v _|simp only[dU]),_,rfl,by decide⟩
 ·have Wg:∀(st:St) (d:Nat),aP (aD Tryz.prog) 221 [.agg (bW x)] st (some d)=_:=fun st d=>iW (st:=st) (d:=d) (cO fx) hr2
  by_cases g5:(L.length:Int)=0
  ·simp only[Z8,seval,hV,hW,kV,kW,bt g1,bt g2,g3,g4,J8,Wg,bt g5];exact⟨_,bX rfl (by simp only[E8,seval]<;>rfl) (by first|exact .v _|simp only[dU]),_,rfl,by decide⟩
  ·simp only[Z8,seval,hV,hW,kV,kW,bt g1,bt g2,g3,g4,J8,Wg,bf g5];exact⟨_,bX rfl (by simp only[E8,seval]<;>rfl) (by first|exact .v _|simp only[dU]),_,rfl,by decide⟩
theorem aOu {s:aN} {v:SV} {q:Int} (h:GI s v q) (r:RG s v) (x:fN) (V W:Option (List Int)) (hV:x.first.eK=ov aJ V) (hW:x.second.eK=ov aJ W) (nV:((ol V).length:Int)≤1000) (nW:((ol W).length:Int)≤1000) (hq:q+1000≤900000) :
 ∃r,aD Tryz.prog 205 [.agg (aB s),.agg (bW x)]=some r∧StN s v (q+1000) r:=by
 have hf:=h.sd.flat
 have lO:=h.sd.fl
 have hz:=Ih
 have f1:Flat x.first.eK:=by rw[hV];exact bQ V
 have f2:Flat x.second.eK:=by rw[hW];exact bQ W
 have fx:Flat (.agg (bW x)):=(mL x).2 ⟨f1,f2⟩
 obtain⟨r1,F2,e1,rfl,he1⟩:=aOs x V W hV hW (by omega) (by omega) (ol v.B).length
 have J9:=kx F2 (bI fx (.v _)) (.v _)
 obtain⟨r2,hr2,o,ho,hro⟩:=aJH x V W hV hW (by omega) (by omega)
 have nq:=h.nQ
 obtain⟨r3,hr3,L,n,rfl,hL,AG⟩:=aOr v.Q o (by omega) (by omega)
 have fr:Flat (.eB [ov aJ (some L),.v (.int .i64 n)]):=.eB _ (bI (bQ _) (.v _))
 have k220:∀(st:St) (d:Option Nat),eE (aD Tryz.prog) 220 [ov aJ v.Q,ov aJ o] st d=_:=fun st d=>Gs (st:=st) (d:=d) (bI (bQ _) (bQ _)) hr3 fr
 rw[cL Tryz.func205 rfl aJM rfl];by_cases g1:e1=0
 case neg =>
  simp only[Z8,seval,Vu h.sd,J9,bf g1];exact⟨_,by apply dM;rfl;all_goals simp only[aI,bS,Z8,seval,hz]<;>rfl,gE,e1,rfl,hz,he1,fun h=>absurd h g1⟩
 have hQ:((ol (some L)).length:Int)≤q+1000:=by show (L.length:Int)≤_;omega
 have h':GI { s with fY:={ s.fY with gZ:=ov aJ (some L)} } { v with Q:=some L } (q+1000) :=
  ⟨⟨h.sd.jH,h.sd.dR,rfl,h.sd.early,h.sd.bY,h.sd.tree,h.sd.tables,h.sd.eV,h.sd.tB,h.sd.nB,h.sd.nL,by show ((ol (some L)).length:Int)<1000000;omega,h.sd.nE,h.sd.nO,h.sd.nT,h.sd.nn⟩,h.up,h.KC,h.pos,h.nl,h.KX,h.qG,h.KY,h.nB,h.nO,h.KZ,h.nE,h.QP,h.nT,h.RZ,hQ,hq,h.gP⟩
 have l7:=h'.sd.flat
 rcases hro with rfl|⟨M,hM,rfl⟩
 ·have Wg:=kx hr2 (cO fx) (bQ o)
  by_cases g2:n=0
  ·simp only[Z8,seval,Vu h.sd,J9,bt g1,h.sd.gZ,Wg,k220,dT,bt g2];exact⟨_,by apply dM;rfl;all_goals simp only[aI,bS,Z8,seval,hz]<;>rfl,gE,9,rfl,hz,by decide,fun h=>by cases h⟩
  ·simp only[Z8,seval,Vu h.sd,J9,bt g1,h.sd.gZ,Wg,k220,dT,bf g2];exact⟨_,by apply dM;rfl;all_goals simp only[aI,bS,Z8,seval,l7]<;>rfl,_,0,rfl,l7,by decide,fun _=>⟨_,h',⟨r.now,r.j,r.f,r.nd,r.or,r.rt,r.fe,r.ds,r.tb,⟨fun e=>AG g2 (by injection e),r.ne.e,r.ne.o,r.ne.t,r.ne.ea,r.ne.tb⟩⟩,rfl,rfl⟩⟩
 ·have Wg:∀(st:St) (d:Nat),aP (aD Tryz.prog) 221 [.agg (bW x)] st (some d)=_:=fun st d=>iW (st:=st) (d:=d) (cO fx) hr2
  have k220':∀(st:St) (a g:Nat) (d:Option Nat),st.heap a g=some (.row 3 1 M.length (aJ M))→eE (aD Tryz.prog) 220 [ov aJ v.Q,.own a g] st d=some { dst:=d,val:=.eB [ov aJ (some L),.v (.int .i64 n)],dJ:=some (a,g,none)}:=by
   intro st a g d hh;rw[Dz (s:=a) (k:=g) (by rw[List.flatMap_cons,sS (bQ v.Q)];rfl) (by intro y hy;simp only[List.mem_cons,List.not_mem_nil,or_false] at hy;rcases hy with rfl|rfl;exact .inl (bQ _);exact .inr (.inl ⟨a,g,rfl⟩)),
    List.map_cons,List.map_cons,List.map_nil,Ea,Ij hh,bK,bK,gC,← hM]
   exact Wf hr3 fr
  by_cases g2:n=0
  ·simp only[Z8,seval,Vu h.sd,J9,bt g1,h.sd.gZ,Wg,k220',dT,bt g2];exact⟨_,by apply dM;rfl;all_goals simp only[aI,bS,Z8,seval,hz]<;>rfl,gE,9,rfl,hz,by decide,fun h=>by cases h⟩
  ·simp only[Z8,seval,Vu h.sd,J9,bt g1,h.sd.gZ,Wg,k220',dT,bf g2];exact⟨_,by apply dM;rfl;all_goals simp only[aI,bS,Z8,seval,l7]<;>rfl,_,0,rfl,l7,by decide,fun _=>⟨_,h',⟨r.now,r.j,r.f,r.nd,r.or,r.rt,r.fe,r.ds,r.tb,⟨fun e=>AG g2 (by injection e),r.ne.e,r.ne.o,r.ne.t,r.ne.ea,r.ne.tb⟩⟩,rfl,rfl⟩⟩
theorem SH {l:List Int} {n:Int} (h:Zu l n=0):∀x∈l,0≤x∧x<n:=by
 intro x hx;unfold Zu at h;have gN:l≠[]:=fun e=>by subst e;cases hx
 rw[if_neg gN] at h;by_cases g:Bc (Sz l n) l.length<0
 ·rcases yH (Sz l n) l.length with ⟨_,hj⟩|⟨k,h1,_,_,h3⟩
  ·obtain⟨j,hj1,rfl⟩:=List.getElem_of_mem hx
   have hb:=hj j hj1
   have e:gx (0:Int) l j=l[j]:=by simp[gx,hj1]
   unfold Sz at hb;rw[e] at hb;omega
  ·omega
 ·rw[if_neg g] at h;split at h<;>omega
theorem FG {s:aN} {v:SV} {a:rQ} {V:List Int} (h:(Fv s v a V).2=0):Zu V (ol v.B).length=0:=by
 unfold Fv at h;by_cases g:Zu V (ol v.B).length≠0
 ·rw[if_pos g] at h;exact h
 ·exact Classical.not_not.1 g
theorem GI.cast {s:aN} {v:SV} {q:Int} (h:GI s v q) (a:rQ) (V:List Int):GI (Pz s v a V) { v with L:=some (tL (ol v.L) a.target.aK a.root V).1 } q:=by
 have hl:(tL (ol v.L) a.target.aK a.root V).1.length=(ol v.L).length:=Py _ _ _ _
 exact⟨⟨h.sd.jH,rfl,h.sd.gZ,h.sd.early,h.sd.bY,h.sd.tree,h.sd.tables,h.sd.eV,h.sd.tB,h.sd.nB,by show ((tL (ol v.L) a.target.aK a.root V).1.length:Int)<1000000;rw[hl];exact h.sd.nL,h.sd.nQ,h.sd.nE,h.sd.nO,h.sd.nT,h.sd.nn⟩,h.up,h.KC,h.pos,h.nl,h.KX,h.qG,hl.trans h.KY,h.nB,h.nO,h.KZ,h.nE,h.QP,h.nT,h.RZ,h.nQ,h.I3,h.gP⟩
def vS (s:aN) (x:AV):aN:={ s with dQ:={ s.dQ with early:=x }}
theorem SI {e sz n:Nat} {cs:List AV} (h:¬ ∀c∈cs,Flat c):iX (some (.row e sz n cs))=none:=by
 unfold iX;simp only[if_neg h]
theorem aEY {a:rQ} {x g:Nat} (h:a.eK=.own x g) (l:List rQ):¬ ∀c∈dC (l++[a]),Flat c:=by
 intro hf;have hm:AV.own x g∈dC (l++[a]):=by
  unfold dC;rw[List.flatMap_append,List.mem_append];refine .inr ?_
  rw[List.flatMap_cons,List.flatMap_nil,List.append_nil];unfold iF;rw[h];simp
 have:=hf _ hm
 cases this
theorem kZ {α:Type} {a b:List (Option α)} {x y:List α} (ha:cF a=some x) (hb:cF b=some y):cF (a++b)=some (x++y):=by
 induction a generalizing x with
 | nil=>simp only[gC,Option.some.injEq] at ha;subst ha;simpa using hb
 | cons c a ih =>
   cases c with
   | none=>simp[cF] at ha
   | some c =>
     rw[bK] at ha;simp only[Option.map_eq_some_iff] at ha;obtain⟨z,hz,rfl⟩:=ha
     rw[List.cons_append,bK,ih hz];rfl
theorem Ce {cs:List AV} {f:AV→Option AV} (h:∀c∈cs,f c=some c):cF (cs.map f)=some cs:=by
 induction cs with
 | nil=>rfl
 | cons c cs ih=>rw[List.map_cons,h c (List.mem_cons_self ..),bK,ih fun x hx=>h x (List.mem_cons_of_mem _ hx)];rfl
theorem Wh {st:St} {c:AV} (h:Flat c):cI st c=some c:=by unfold cI;rw[if_pos h]
theorem K1 {st:St} {c:AV} (h:Flat c):Bs st c=some c:=by
 unfold Bs;cases h<;>exact Wh (by constructor;try assumption)
theorem l8 {s:aN} {v:SV} (h:SD s v) (st:St) {E:List rQ} (hE:∀x∈E,Flat x.eK) {a:rQ} {V:List Int} {x g x' g' n:Nat}
 (hh:st.heap x g=some (.row 87 67 n (dC (E++[{ a with eK:=.own x' g' }])))) (wF:st.heap x' g'=some (.row 3 1 V.length (aJ V))) :
 Mb st (.agg (aB (vS s (.own x g))))=some (.agg (aB (vS s (.sl n (dC (E++[{ a with eK:=ov aJ (some V)}])))))):=by
 obtain⟨h1,h2,h3,h4,h5,h6,h7⟩:=h.fl
 have fl:∀ {cs:List AV},(∀c∈cs,Flat c)→cF (cs.map (Bs st))=some cs:=fun hc=>Ce fun c m=>K1 (hc c m)
 have fl1:∀ {cs:List AV},(∀c∈cs,Flat c)→cF (cs.map (cI st))=some cs:=fun hc=>Ce fun c m=>Wh (hc c m)
 have hv:cI st (.own x' g')=some (ov aJ (some V)):=by rw[bC,wF];exact jL _ _
 have hatt:cF ((dC (E++[{ a with eK:=.own x' g' }])).map (cI st))=some (dC (E++[{ a with eK:=ov aJ (some V)}])):=by
  unfold dC;rw[List.flatMap_append,List.flatMap_append,List.map_append];refine kZ (fl1 (sI E hE)) ?_
  simp only[List.flatMap_cons,List.flatMap_nil,List.append_nil];unfold iF;rw[List.map_append,List.map_append,List.map_append];refine kZ (fl1 (dW _)) (kZ (fl1 (dD _)) (kZ (fl1 (dA _)) ?_))
  rw[List.map_cons,List.map_nil,hv];rfl
 have hea:Bs st (.own x g)=some (.sl n (dC (E++[{ a with eK:=ov aJ (some V)}]))):=by
  unfold Bs;simp only[hh,hatt];rfl
 unfold Mb;simp only
 have:cF ((aB (vS s (.own x g))).map (Bs st))=some (aB (vS s (.sl n (dC (E++[{ a with eK:=ov aJ (some V)}]))))):=by
  unfold vS aB jK;simp only[List.map_append];refine kZ (fl (tH _ h1)) (kZ (fl (qA _ h2 h3)) (kZ (fl (kM _)) (kZ (kZ ?_ (fl (by simpa using h5))) (kZ (fl (vO _ h6)) (kZ (fl (dW _)) (kZ (fl (dD _)) (fl (by simpa using h7))))))))
  rw[List.map_cons,List.map_nil,hea];rfl
 rw[this];rfl
theorem K2 {s:aN} {v:SV} (h:SD s v) (st:St) {E:List rQ} {a:rQ} {x g x' g' n:Nat} (ha:a.eK=.own x' g')
 (hh:st.heap x g=some (.row 87 67 n (dC (E++[a])))):eT st (.agg (aB (vS s (.own x g))))=none:=by
 have lO:=h.fl
 have hn:=SI (e:=87) (sz:=67) (n:=n) (aEY ha E)
 unfold vS;simp only[bO,gB,bC,hh,hn,cE,dU,lO,cT,LD]
theorem GI.early {s:aN} {v:SV} {q:Int} (h:GI s v q) (E:Option (List rQ)) (hE:∀a∈ol E,Ev a) (hn:((ol E).length:Int)≤s.cFg.lT.pM):GI (vS s (ov dC E)) { v with E:=E } q :=
 ⟨⟨h.sd.jH,h.sd.dR,h.sd.gZ,rfl,h.sd.bY,h.sd.tree,h.sd.tables,hE,h.sd.tB,h.sd.nB,h.sd.nL,h.sd.nQ,by have:=h.QP;show ((ol E).length:Int)<1000000;omega,h.sd.nO,h.sd.nT,h.sd.nn⟩,h.up,h.KC,h.pos,h.nl,h.KX,h.qG,h.KY,h.nB,h.nO,h.KZ,hn,h.QP,h.nT,h.RZ,h.nQ,h.I3,h.gP⟩
theorem aEZ (s:aN) (v:SV) (a:rQ) (V:List Int):(Fv s v a V).2≠21:=by
 unfold Fv;split
 ·exact RU _ _
 repeat (split;simp)
 simp
theorem aOv {s:aN} {v:SV} {q:Int} (h:GI s v q) (r:RG s v) (a:rQ) (V:Option (List Int)) (hV:a.eK=ov aJ V) (nV:((ol V).length:Int)<99999) :
 ∃r,aD Tryz.prog 204 [.agg (aB s),.agg (iF a)]=some r∧StN s v q r:=by
 have hf:=h.sd.flat
 have lO:=h.sd.fl
 have hz:=Ih
 have fa:Flat (.agg (iF a)):=(Ba a).2 (by rw[hV];exact bQ V)
 have k39:=kx (c39 h.sd h.up h.sp a V hV (by omega)) (bI hf fa) (.eB _ (bI (.v _) (.v _)))
 rw[cL Tryz.func204 rfl aJN rfl];by_cases g1:(Fv s v a (ol V)).2=0
 case neg =>
  simp only[Z8,seval,k39,dT,bf g1];exact⟨_,by apply dM;rfl;all_goals simp only[aI,bS,Z8,seval,hz]<;>rfl,gE,_,rfl,hz,aEZ _ _ _ _,fun h=>absurd h g1⟩
 cases g2:(Fv s v a (ol V)).1
 ·have hr:∀x∈ol V,0≤x∧x<(ol v.L).length:=by rw[h.KY];exact SH (FG g1)
  have h':=h.cast a (ol V)
  have l7:=h'.sd.flat
  have k44:=kx (c44 h.sd a V hV (by omega) hr) (bI hf fa) l7
  simp only[Z8,seval,k39,dT,bt g1,g2,k44];exact⟨_,by apply dM;rfl;all_goals simp only[aI,bS,Z8,seval,l7]<;>rfl,_,0,rfl,l7,by decide,fun _=>⟨_,h',⟨r.now,r.j,r.f,r.nd,r.or,r.rt,r.fe,r.ds,r.tb,⟨r.ne.q,r.ne.e,r.ne.o,r.ne.t,r.ne.ea,r.ne.tb⟩⟩,rfl,rfl⟩⟩
 ·by_cases g3:s.cFg.lT.pM≤((ol v.E).length:Int)
  ·simp only[Z8,seval,k39,dT,bt g1,g2,h.sd.early,g3];exact⟨_,by apply dM;rfl;all_goals simp only[aI,bS,Z8,seval,hz]<;>rfl,gE,11,rfl,hz,by decide,fun h=>by cases h⟩
  ·have hE:∀b∈ol (some (ol v.E++[{ a with eK:=ov aJ (some (ol V))}])),Ev b:=by
    intro b hb;rcases List.mem_append.1 (show b∈ol v.E++[{ a with eK:=ov aJ (some (ol V))}] from hb) with hb|hb
    ·exact h.sd.eV b hb
    ·rw[List.mem_singleton] at hb;subst hb;exact⟨some (ol V),rfl,by show ((ol V).length:Int)<_;omega⟩
   have hVne:ol V≠[]:=fun e=>by have h0:=FG g1;rw[e] at h0;simp[Zu] at h0
   have hEa:∀b∈ol (some (ol v.E++[{ a with eK:=ov aJ (some (ol V))}])),∃W,b.eK=ov aJ (some W)∧W≠[]:=by
    intro b hb;rcases List.mem_append.1 (show b∈ol v.E++[{ a with eK:=ov aJ (some (ol V))}] from hb) with hb|hb
    ·exact r.ne.ea b hb
    ·rw[List.mem_singleton] at hb;subst hb;exact⟨ol V,rfl,hVne⟩
   have h':=h.early (some (ol v.E++[{ a with eK:=ov aJ (some (ol V))}])) hE (by show (((ol v.E++[{ a with eK:=ov aJ (some (ol V))}]).length:Nat):Int)≤_;rw[List.length_append,List.length_cons,List.length_nil];omega)
   have l7:=h'.sd.flat
   have nE:=h.sd.nE
   have hEf:∀x∈ol v.E,Flat x.eK:=fun x m=>(h.sd.eV x m).fl
   simp only[Z8,seval,k39,dT,bt g1,g2,h.sd.early,g3,hV,Nc _ (show ((ol V).length:Int)<1000000 by omega),XF _ nE,Uh _ _ _ _ nE]
   have hlen:(ol v.E++[{ a with eK:=.own 35 0 }]).length=(ol v.E++[{ a with eK:=ov aJ (some (ol V))}]).length:=by rw[List.length_append,List.length_append];rfl
   exact⟨_,aJO rfl (by simp only[bS,Z8,seval]<;>rfl) (by simp only[bS,E8,seval]<;>rfl)
    (K2 h.sd _ rfl (by simp only[E8,seval]<;>rfl)) (l8 (x':=35) (g':=0) h.sd _ hEf (by simp only[E8,seval,hlen]<;>rfl) (by simp only[E8,seval]<;>rfl)) (by simp only[Z8,seval]<;>rfl),_,0,rfl,l7,by decide,fun _=>⟨_,h',⟨r.now,r.j,r.f,r.nd,r.or,r.rt,r.fe,r.ds,r.tb,⟨r.ne.q,by simp,r.ne.o,r.ne.t,hEa,r.ne.tb⟩⟩,rfl,rfl⟩⟩
end Go.Ab.Tryz
