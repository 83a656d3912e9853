/-
  Part 12 of the proof: an evaluator of programs, its soundness, and what functions of this program compute.
-/
import Derived.Test.YtmcjkemalibacaaGreatK11
import Derived.Test.YtmcjkemalibacaaGreatK10
import Derived.Test.YtmcjkemalibacaaGreatK9
set_option linter.all false
set_option maxRecDepth 20000
set_option maxHeartbeats 40000000
namespace Go.Ab.Tryz
open Classical Go.Proofs Go.Ab
theorem Ay {α:Type} (s g:Nat) (cs:List α→List AV) (o:Option (List α)):fW (.own s g) (ov cs o)=True:=by cases o<;>rfl
theorem Az {α:Type} (s g:Nat) (cs:List α→List AV) (o:Option (List α)):fW (ov cs o) (.own s g)=True:=by cases o<;>rfl
theorem Fp {α:Type} (s g n:Nat) (cs:List α→List AV) (o:Option (List α)):fW (.ptr s g n) (ov cs o)=True:=by cases o<;>rfl
theorem Fq {α:Type} (s g n:Nat) (cs:List α→List AV) (o:Option (List α)):fW (ov cs o) (.ptr s g n)=True:=by cases o<;>rfl
theorem aKh (t:Table) (b:Option (List Int)) (hb:t.jN=ov bD b) (hl:((ol b).length:Int)<1000000):aC Tryz.prog 158 [.agg (cI t)]=some (.agg (cI ⟨t.ck,ov bD (some (ol b))⟩)):=by
 rw[cL Tryz.func158 rfl aKi rfl];refine jG ?_
 simp only[Z8,seval,hb,Eo _ hl];exact⟨_,by apply eH;rfl;all_goals simp only[aI,Z8,seval,bR,tD,bG,vI]<;>rfl,rfl⟩
def aPb (o:Option (List Table)) (t':Table) (L:List Table):Prop:=L.length=(ol o).length+1∧(∀x∈L,x∈ol o∨x=t')∧∀x∈ol o,x∈L
theorem aPc (o:Option (List Table)) (hn:((ol o).length:Int)<999999) (hT:∀x∈ol o,Flat x.jN) (t:Table) (b:Option (List Int)) (hb:t.jN=ov bD b) (hl:((ol b).length:Int)<1000000) :
 ∃r,aC Tryz.prog 195 [ov aT o,.agg (cI t)]=some r∧∃L,aPb o ⟨t.ck,ov bD (some (ol b))⟩ L∧r=.uniq 118 34 L.length (aT L):=by
 have hfT:Flat (.agg (cI t)):=(kK t).2 (by rw[hb];exact dR b)
 have hf2:Flat (.agg (cI ⟨t.ck,ov bD (some (ol b))⟩)):=(kK _).2 (dR (some (ol b)))
 have hto:=lX o hT
 have aFQ:=kx (aKh t b hb hl) (cV hfT) hf2
 rw[cG Tryz.func195 rfl aKk (by kernel_rfl) (by cases o<;>rfl)]
 simp only[ZG,seval,Bool.false_and,Prod.mk.injEq,LZ];refine lJ (fun m st=>∃k:Nat,(st.env 0=ov aT o∧st.env 3=.ptr 3 0 0∧st.heap 3 0=some (.cells (cI t))∧st.env 5=.v (.int .i64 k))∧k≤(ol o).length∧m=(ol o).length-k)
  (fun e st=>e=.exit 0∧∃k:Nat,(st.env 0=ov aT o∧st.env 3=.ptr 3 0 0∧st.heap 3 0=some (.cells (cI t))∧st.env 5=.v (.int .i64 k))∧k≤(ol o).length) (ol o).length ?step ?start ?rest
 case step =>
  rintro m st ⟨k,hI,hk,hm⟩
  by_cases bA:(k:Int)<(ol o).length
  ·have q0:(0:Int)≤k:=by omega
   have hw:IntKind.i64.wrap ((k:Int)+1)=((k+1:Nat):Int):=by rw[pR _ (by omega) (by omega)];omega
   by_cases h1:aKc (gx iW (ol o) (k:Int)).ck t.ck<0
   ·apply Ct ((ol o).length-(k+1))
    ·simp only[ZG,seval,Bool.false_and,Prod.mk.injEq,LZ,hI,bA,q0,aKd,h1,hw];rfl
    ·exact⟨k+1,by simp only[E8,seval,hI],by omega,rfl⟩
   ·apply FY (.exit 0)
    ·simp only[ZG,seval,Bool.false_and,Prod.mk.injEq,LZ,hI,bA,q0,aKd,h1];rfl
    ·exact⟨rfl,k,by simp only[E8,seval,hI],hk⟩
  ·apply FY (.exit 0)
   ·simp only[ZG,seval,Bool.false_and,Prod.mk.injEq,LZ,hI,bA];rfl
   ·exact⟨rfl,k,by simp only[E8,seval,hI],hk⟩
 case start=>exact⟨0,by simp only[E8,seval]<;>rfl,by omega,by omega⟩
 case rest =>
  rintro e st ⟨rfl,k,hI,hk⟩
  have e1:ol (o.map (·.take k))=(ol o).take k:=by cases o<;>simp[ol]
  have e2:ol (o.map (·.drop k))=(ol o).drop k:=by cases o<;>simp[ol]
  have n1:(((ol (o.map (·.take k))).length:Nat):Int)<1000000:=by rw[e1,List.length_take];omega
  have n2:(((ol (o.map (·.drop k))).length:Nat):Int)<1000000:=by rw[e2,List.length_drop];omega
  have n3:(((ol (o.map (·.take k))++[(⟨t.ck,ov bD (some (ol b))⟩:Table)]).length:Nat):Int)<1000000:=by rw[List.length_append,e1,List.length_take];simp;omega
  have q0:(0:Int)≤k:=by omega
  have q1:(k:Int)≤((ol o).length:Int):=by omega
  have hr:∀x∈aT (ol (o.map (·.take k))++[(⟨t.ck,ov bD (some (ol b))⟩:Table)]++ol (o.map (·.drop k))),Flat x:=by
   refine lY _ fun x m=>?_
   rw[e1,e2] at m;rcases List.mem_append.1 m with m|m
   ·rcases List.mem_append.1 m with m|m
    ·exact hT x (List.mem_of_mem_take m)
    ·rw[List.mem_singleton.1 m];exact dR (some (ol b))
   ·exact hT x (List.mem_of_mem_drop m)
  simp only[ZG,seval,Bool.false_and,Prod.mk.injEq,LZ,Ay,Az,and_self,hI,q0,q1,Int.toNat_natCast,aFQ,DX _ n1,Qp _ _ _ _ n1,DY _ _ _ _ n3 n2];refine⟨_,sP rfl (by simp only[E8,seval]<;>rfl) (by simp only[E8,seval]<;>rfl) hr,_,⟨?_,fun x m=>?_,fun x m=>?_⟩,rfl⟩
  ·rw[e1,e2,List.length_append,List.length_append,List.length_take,List.length_drop];simp;omega
  ·rw[e1,e2] at m;rcases List.mem_append.1 m with m|m
   ·rcases List.mem_append.1 m with m|m
    ·exact .inl (List.mem_of_mem_take m)
    ·exact .inr (List.mem_singleton.1 m)
   ·exact .inl (List.mem_of_mem_drop m)
  ·rw[e1,e2];rw[← List.take_append_drop k (ol o)] at m;rcases List.mem_append.1 m with m|m
   ·exact List.mem_append_left _ (List.mem_append_left _ m)
   ·exact List.mem_append_right _ m
theorem aPe (o:Option (List Table)) (hn:((ol o).length:Int)<999999) (hT:∀x∈ol o,sC x) (t:Table) (ht:sC t) (n mH:Int) :
 ∃r,aC Tryz.prog 172 [ov aT o,.agg (cI t),.v (.int .i64 n),.v (.int .i64 mH)]=some r∧∃o' e,r=.eN [ov aT o',.v (.int .i64 e)]∧e≠21∧((ol o').length:Int)≤max ((ol o).length:Int) mH∧(∀x∈ol o',sC x)∧(ol o ⊆ ol o')∧(e=0→o'≠some []∧∀x∈ol o',x∈ol o∨∃B,x.jN=ov bD (some B)∧(B.length:Int)=n):=by
 obtain⟨b,hb,hl⟩:=id ht
 have hfT:Flat (.agg (cI t)):=(kK t).2 ht.fl
 have hto:=lX o fun x m=>(hT x m).fl
 obtain⟨r,hr,e,rfl,he,hlen⟩:=aEt t b hb hl n
 have FZ:=kx hr (bH hfT (.v _)) (.v _)
 have Iq:((ol o).length:Int)<1000000:=by omega
 have aFR:=YG o Iq hto
 rw[cL Tryz.func172 rfl aKl (by cases o<;>rfl)]
 by_cases g1:e=0
 case neg =>
  simp only[Z8,seval,FZ,bf g1,nI _ _ fun x m=>(hT x m).fl]
  exact⟨_,dO rfl rfl rfl (by simp only[E8,seval,nI _ _ fun x m=>(hT x m).fl]<;>rfl) (by simp only[E8,seval,nI _ _ fun x m=>(hT x m).fl]<;>rfl),o,e,rfl,he,by omega,hT,fun x m=>m,fun h=>absurd h g1⟩
 by_cases g2:0≤K0 (ol o) t.ck
 ·simp only[Z8,seval,FZ,bt g1,aFR,g2];exact⟨_,dO rfl rfl rfl (by simp only[E8,seval,nI _ _ fun x m=>(hT x m).fl]<;>rfl) (by simp only[E8,seval,nI _ _ fun x m=>(hT x m).fl]<;>rfl),o,9,rfl,by decide,by omega,hT,fun x m=>m,fun h=>by cases h⟩
 by_cases g3:mH≤((ol o).length:Int)
 ·simp only[Z8,seval,FZ,bt g1,aFR,g2,g3];exact⟨_,dO rfl rfl rfl (by simp only[E8,seval,nI _ _ fun x m=>(hT x m).fl]<;>rfl) (by simp only[E8,seval,nI _ _ fun x m=>(hT x m).fl]<;>rfl),o,11,rfl,by decide,by omega,hT,fun x m=>m,fun h=>by cases h⟩
 obtain⟨r2,hr2,L,⟨AR,hL2,hL3⟩,rfl⟩:=aPc o hn (fun x m=>(hT x m).fl) t b hb hl
 have hTL:∀x∈L,sC x:=fun x m=>(hL2 x m).elim (hT x) fun e=>by rw[e];exact⟨some (ol b),rfl,hl⟩
 have k195:∀(st:St),aL (aC Tryz.prog) 195 [ov aT o,.agg (cI t)] st (some 31)=_:=fun st=>jF (st:=st) (d:=31) (bH hto hfT) hr2
 have hex:=Ns L.length L fun x m=>(hTL x m).fl
 simp only[Z8,seval,FZ,bt g1,aFR,g2,g3,k195];exact⟨_,dO rfl rfl rfl (by simp only[E8,seval,hex]<;>rfl) (by simp only[E8,seval,hex]<;>rfl),some L,0,rfl,by decide,by show ((L.length:Nat):Int)≤_;omega,hTL,hL3,fun _=>⟨fun e=>by injection e with e;rw[e] at AR;simp at AR,fun x m=>(hL2 x m).imp id fun e=>by rw[e];exact⟨ol b,rfl,hlen g1⟩⟩⟩
theorem aPf {s:aO} {v:SV} (hs:SD s v) (hn:((ol v.T).length:Int)<999999) (t:Table) (ht:sC t) :
 ∃r,aC Tryz.prog 117 [.agg (aB s),.agg (cI t)]=some r∧∃s' e,r=.eN [.agg (aB s'),.v (.int .i64 e)]∧Flat (.agg (aB s'))∧e≠21∧(e=0→∃o',s'={ s with tables:=ov aT o' }∧((ol o').length:Int)≤max ((ol v.T).length:Int) s.cFg.mH.qT∧(∀x∈ol o',sC x)∧(ol v.T ⊆ ol o')∧o'≠some []∧∀x∈ol o',x∈ol v.T∨∃B,x.jN=ov bD (some B)∧(B.length:Int)=(ol v.B).length):=by
 have hf:=hs.flat
 have iX:=hs.fl
 have hfT:Flat (.agg (cI t)):=(kK t).2 ht.fl
 have hz:Flat (.agg (aB gQ)):=by simp only[dW,gQ,nJ,Hd,Ba,Lf,and_self]
 obtain⟨r,hr,e,rfl,he⟩:=aO1 t ht (ol v.B).length
 have FZ:=kx hr (bH hfT (.v _)) (.v _)
 obtain⟨r2,hr2,o',e2,rfl,he2,n5,hT2,hsub,hne2⟩:=aPe v.T hn hs.tB t ht (ol v.B).length s.cFg.mH.qT
 have hf2:Flat (ov aT o'):=lX o' fun x m=>(hT2 x m).fl
 have k172:=kx hr2 (by simp only[List.mem_cons,List.not_mem_nil,or_false,forall_eq_or_imp,forall_eq,aFH,and_true];exact⟨hs.fT,hfT⟩) (.eN _ (bH hf2 (.v _)))
 rw[cL Tryz.func117 rfl aKm rfl];by_cases g1:e=0
 case neg =>
  simp only[Z8,seval,Wm hs,FZ,bf g1];exact⟨_,by apply dO;rfl;all_goals simp only[aI,bV,Z8,seval,hz]<;>rfl,gQ,e,rfl,hz,he,fun h=>absurd h g1⟩
 by_cases g2:t.ck.aK<s.bM.hU.aK
 ·simp only[Z8,seval,Wm hs,FZ,bt g1,g2];exact⟨_,by apply dO;rfl;all_goals simp only[aI,bV,Z8,seval,hz]<;>rfl,gQ,13,rfl,hz,by decide,fun h=>by cases h⟩
 by_cases g3:e2=0
 case neg =>
  simp only[Z8,seval,Wm hs,FZ,bt g1,g2,hs.tables,k172,eB,bf g3];exact⟨_,by apply dO;rfl;all_goals simp only[aI,bV,Z8,seval,hz]<;>rfl,gQ,e2,rfl,hz,he2,fun h=>absurd h g3⟩
 ·have hf3:Flat (.agg (aB { s with tables:=ov aT o' })):=by simp only[dW,iX,hf2,and_self]
  simp only[Z8,seval,Wm hs,FZ,bt g1,g2,hs.tables,k172,eB,bt g3];exact⟨_,by apply dO;rfl;all_goals simp only[aI,bV,Z8,seval,hf3]<;>rfl,_,0,rfl,hf3,by decide,fun _=>⟨o',rfl,n5,hT2,hsub,hne2 g3⟩⟩
noncomputable def BA (v:SV):Int:=wI (fun k=>0≤aN v.ns (gx fC (ol v.O) k).parent) (ol v.O).length
theorem aKn {s:aO} {v:SV} (hs:SD s v):aC Tryz.prog 218 [.agg (aB s)]=some (.v (.int .i64 (BA v))):=by
 have hn:=hs.nO
 rw[cL Tryz.func218 rfl aKo rfl];refine jG ?_
 simp only[Z8,seval,hs.bX];refine cM (fun m st=>∃k:Nat,(st.env 1=.ptr 1 0 0∧st.heap 1 0=some (.cells (aB s))∧st.env 3=.v (.int .i64 k))∧(∀j:Nat,j<k→¬(0≤aN v.ns (gx fC (ol v.O) (j:Int)).parent))∧k≤(ol v.O).length∧m=(ol v.O).length-k)
  (fun e st=>(e=.ret∧∃k:Nat,k<(ol v.O).length∧(0≤aN v.ns (gx fC (ol v.O) (k:Int)).parent)∧(∀j:Nat,j<k→¬(0≤aN v.ns (gx fC (ol v.O) (j:Int)).parent))∧st.env 2=.v (.int .i64 (k:Nat)))∨(e=.exit 0∧(∀j:Nat,j<(ol v.O).length→¬(0≤aN v.ns (gx fC (ol v.O) (j:Int)).parent))∧st.env 1=.ptr 1 0 0∧st.heap 1 0=some (.cells (aB s)))) ((ol v.O).length) ?step ?start ?rest
 case step =>
  rintro m st ⟨k,hI,hj,hk,hm⟩
  by_cases bA:(k:Int)<(ol v.O).length
  ·have q0:(0:Int)≤k:=by omega
   have hw:IntKind.i64.wrap ((k:Int)+1)=((k+1:Nat):Int):=by rw[pR _ (by omega) (by omega)];omega
   by_cases hh:0≤aN v.ns (gx fC (ol v.O) (k:Int)).parent
   ·apply oT (.ret)
    ·simp only[Z8,seval,hI,bA,q0,hs.bX,hs.tree,mT _ _ hs.nn,hh];rfl
    ·exact .inl ⟨rfl,k,by omega,hh,hj,by simp only[E8,seval,hs.bX,hs.tree,mT _ _ hs.nn]⟩
   ·apply oN ((ol v.O).length-(k+1))
    ·simp only[Z8,seval,hI,bA,q0,hs.bX,hs.tree,mT _ _ hs.nn,hh,hw];rfl
    ·exact⟨k+1,by simp only[E8,seval,hI],fun j h=>(Nat.lt_succ_iff_lt_or_eq.1 h).elim (hj j) fun e=>by subst e;exact hh,by omega,rfl⟩
  ·apply oT (.exit 0)
   ·simp only[Z8,seval,hI,bA,hs.bX,hs.tree,mT _ _ hs.nn];rfl
   ·exact .inr ⟨rfl,fun j h=>hj j (by omega),by simp only[E8,seval,hI]⟩
 case start=>exact⟨0,by simp only[E8,seval]<;>rfl,fun j h=>by omega,by omega,by omega⟩
 case rest =>
  rintro e st (⟨rfl,k,hk,hh,hj,h⟩|⟨rfl,hj,hI⟩)
  ·have hv:BA v=k:=Em hh hj _ hk
   simp only[Z8,seval];exact⟨_,bW rfl (by simp only[E8,seval,h]<;>rfl) (by first|exact .v _|simp only[dW,h]),by rw[hv]⟩
  ·have hv:BA v=-1:=rH _ hj
   simp only[Z8,seval];exact⟨_,bW rfl (by simp only[E8,seval]<;>rfl) (by first|exact .v _|simp only[dW]),by rw[hv]⟩
theorem MA {s:aO} {v:SV} (hs:SD s v) (st:St) (d:Option Nat):aL (aC Tryz.prog) 218 [.agg (aB s)] st d=some { dst:=d,val:=.v (.int .i64 (BA v))}:=bK (cV hs.flat) (aKn hs) (.v _)
noncomputable def DZ (e:Int) (r:cK) (a:List kS × Int) (x:Int):List kS × Int :=
 if (gx sD a.1 x).has=false∨(gx sD a.1 x).aK<e then (a.1.set x.toNat ⟨true,e,r⟩,IntKind.i64.wrap (a.2+1)) else a
noncomputable def uB (L:List kS) (e:Int) (r:cK) (V:List Int):List kS × Int:=V.foldl (DZ e r) (L,0)
theorem z6 (e:Int) (r:cK) (a:List kS × Int) (x:Int):(DZ e r a x).1.length=a.1.length:=by unfold DZ;split<;>simp
theorem Qq (L:List kS) (e:Int) (r:cK) (V:List Int):(uB L e r V).1.length=L.length:=by
 unfold uB;suffices h:∀(V:List Int) (a:List kS × Int),(V.foldl (DZ e r) a).1.length=a.1.length from h V _
 intro V;induction V with
 | nil=>intro a;rfl
 | cons x V ih=>intro a;rw[List.foldl_cons,ih,z6]
theorem TL (L:List kS) (e:Int) (r:cK) (V:List Int) (k:Nat) (h:k<V.length):uB L e r (V.take (k+1))=DZ e r (uB L e r (V.take k)) (gx (0:Int) V k):=by
 unfold uB;rw[List.take_succ_eq_append_getElem h,List.foldl_append];simp[gx,h]
theorem aPg (o:Option (List kS)) (hn:((ol o).length:Int)<1000000) (e:Int) (r:cK) (V:Option (List Int)) (hV:((ol V).length:Int)<1000000) (hr:∀x∈ol V,0≤x∧x<(ol o).length) :
 aC Tryz.prog 110 [ov cU o,.v (.int .u64 e),.agg (aX r),ov aJ V]=some (.eN [.sl (ol o).length (cU (uB (ol o) e r (ol V)).1),.v (.int .i64 (uB (ol o) e r (ol V)).2)]):=by
 rw[cL Tryz.func110 rfl aKp (by cases o<;>cases V<;>rfl)]
 refine jG ?_
 simp only[Z8,seval,MB _ hn];refine cM (fun m st=>∃(k:Nat) (l:List kS) (c:Int),(st.env 1=.v (.int .u64 e)∧st.env 6=.ptr 6 0 0∧st.heap 6 0=some (.cells (aX r))∧st.env 3=ov aJ V∧st.env 10=.own 15 0∧st.heap 15 0=some (.row 100 34 l.length (cU l))∧st.env 11=.v (.int .i64 c)∧st.env 12=.v (.int .i64 k))∧uB (ol o) e r ((ol V).take k)=(l,c)∧l.length=(ol o).length∧k≤(ol V).length∧m=(ol V).length-k)
  (fun ex st=>ex=.exit 0∧∃(l:List kS) (c:Int),(st.env 10=.own 15 0∧st.heap 15 0=some (.row 100 34 l.length (cU l))∧st.env 11=.v (.int .i64 c))∧uB (ol o) e r (ol V)=(l,c)∧l.length=(ol o).length) (ol V).length ?step ?start ?rest
 case step =>
  rintro m st ⟨k,l,c,hI,hc,hl,hk,hm⟩
  by_cases bA:(k:Int)<(ol V).length
  ·have q0:(0:Int)≤k:=by omega
   have hw:IntKind.i64.wrap ((k:Int)+1)=((k+1:Nat):Int):=by rw[pR _ (by omega) (by omega)];omega
   have xS:=TL (ol o) e r (ol V) k (by omega)
   rw[hc] at xS;unfold DZ at xS;have hx:=hr _ (tY (z:=(0:Int)) q0 bA)
   obtain⟨x,ex⟩:∃x,gx (0:Int) (ol V) (k:Int)=x:=⟨_,rfl⟩
   rw[ex] at hx xS;have x0:0≤x:=hx.1
   have x1:x<(l.length:Int):=by rw[hl];exact hx.2
   have x2:x.toNat<l.length:=by omega
   have x3:x.toNat * 34+34≤l.length * 34:=by omega
   have ld:=YJ (T:=100) (n:=l.length) (k:=34) x0 x1 aEy (by decide) (by decide)
   by_cases h1:(gx sD l x).has=true
   ·by_cases h2:(gx sD l x).aK<e
    ·rw[if_pos (.inr h2)] at xS;apply oN ((ol V).length-(k+1))
     ·simp only[Z8,seval,hI,bA,q0,ex,x0,x1,x2,x3,ld,h1,h2,GA _ _ _ x2,hw];rfl
     ·exact⟨k+1,_,_,by simp only[E8,seval,hI,List.length_set]<;>exact⟨rfl,rfl⟩,xS,by rw[List.length_set,hl],by omega,rfl⟩
    ·rw[if_neg (by simp only[h1,h2,Bool.true_eq_false,or_self,not_false_eq_true])] at xS
     apply oN ((ol V).length-(k+1))
     ·simp only[Z8,seval,hI,bA,q0,ex,x0,x1,x2,x3,ld,h1,h2,hw];rfl
     ·exact⟨k+1,l,c,by simp only[E8,seval,hI],xS,hl,by omega,rfl⟩
   ·have DD:(gx sD l x).has=false:=by simpa using h1
    rw[if_pos (.inl DD)] at xS;apply oN ((ol V).length-(k+1))
    ·simp only[Z8,seval,hI,bA,q0,ex,x0,x1,x2,x3,ld,DD,GA _ _ _ x2,hw];rfl
    ·exact⟨k+1,_,_,by simp only[E8,seval,hI,List.length_set]<;>exact⟨rfl,rfl⟩,xS,by rw[List.length_set,hl],by omega,rfl⟩
  ·have Eh:k=(ol V).length:=by omega
   rw[Eh,List.take_length] at hc;apply oT (.exit 0)
   ·simp only[Z8,seval,hI,bA];rfl
   ·exact⟨rfl,l,c,by simp only[E8,seval,hI],hc,hl⟩
 case start=>exact⟨0,ol o,0,by simp only[E8,seval]<;>rfl,rfl,rfl,by omega,by omega⟩
 case rest =>
  rintro ex st ⟨rfl,l,c,hI,hc,hl⟩
  rw[hc];simp only[Z8,seval,hI];exact⟨_,dO rfl rfl rfl (by simp only[E8,seval,hI,Uz]<;>rfl) (by simp only[E8,seval,hI,Uz]<;>rfl),by rw[hl]⟩
theorem aKq (o:Option (List kS)) (hn:((ol o).length:Int)<1000000) (e:Int) (r:cK) (V:Option (List Int)) (hV:((ol V).length:Int)<1000000) (hr:∀x∈ol V,0≤x∧x<(ol o).length) (st:St) (d:Option Nat) :
 aL (aC Tryz.prog) 110 [ov cU o,.v (.int .u64 e),.agg (aX r),ov aJ V] st d=some { dst:=d,val:=.eN [.sl (ol o).length (cU (uB (ol o) e r (ol V)).1),.v (.int .i64 (uB (ol o) e r (ol V)).2)]} :=
 bK (by simp only[List.mem_cons,List.not_mem_nil,or_false,forall_eq_or_imp,forall_eq,dW,and_self,and_true,true_and]) (aPg o hn e r V hV hr) (.eN _ (bH (.sl _ _ (nH _)) (.v _)))
noncomputable def Qr (s:aO) (v:SV) (a:rX) (V:List Int):aO:={ s with gG:={ s.gG with dQ:=ov cU (some (uB (ol v.L) a.target.aK a.root V).1)} }
theorem c44 {s:aO} {v:SV} (hs:SD s v) (a:rX) (V:Option (List Int)) (ha:a.eY=ov aJ V) (hV:((ol V).length:Int)<1000000) (hr:∀x∈ol V,0≤x∧x<(ol v.L).length) :
 aC Tryz.prog 44 [.agg (aB s),.agg (iB a)]=some (.agg (aB (Qr s v a (ol V)))):=by
 have iX:=hs.fl
 rw[cL Tryz.func44 rfl aPh rfl];refine jG ?_
 simp only[Z8,seval,hs.dQ,ha,aKq v.L hs.nL _ _ V hV hr,eB];exact⟨_,fL rfl (by simp only[E8,seval,iX,and_self]<;>rfl) (by simp only[Z8,seval,iX,and_self]<;>rfl) (by simp only[dW,and_self,iX,and_self]),by unfold Qr;simp only[ov,Qq]⟩
theorem Ww (ns:List Node) (r:cK) (h:0≤aN ns r):(nd ns (aN ns r)).block.root=r:=by
 unfold aN at h ⊢
 cases hf:ns.findIdx? (fun n=>decide (n.block.root=r)) with
 | none=>rw[hf] at h;simp only at h;omega
 | some k =>
   obtain⟨hk,hp,_⟩:=List.findIdx?_eq_some_iff_getElem.1 hf
   simp only
   have:nd ns (k:Int)=ns[k]:=by simp[nd,hk]
   rw[this];exact of_decide_eq_true hp
theorem Nt {ns:List Node} {r:cK} {j:Int} (h0:0≤j) (h1:j<ns.length) (hr:(nd ns j).block.root=r):0≤aN ns r:=by
 unfold aN;cases hf:ns.findIdx? (fun n=>decide (n.block.root=r)) with
 | none =>
   obtain⟨hj,e⟩:=Lb h0 h1
   have:=List.findIdx?_eq_none_iff.1 hf ns[j.toNat] (List.getElem_mem hj)
   rw[← e] at this;simp[hr] at this
 | some k=>simp only;omega
structure GI (s:aO) (v:SV) (q:Int):Prop where
 sd:SD s v
 up:iD v.ns
 LD:(nd v.ns 0).up=-1
 pos:0<v.ns.length
 nl:(v.ns.length:Int)≤s.cFg.mH.rR
 TM:s.cFg.mH.rR≤4096
 qS:1≤s.cFg.qS∧s.cFg.qS≤64
 MC:(ol v.L).length=(ol v.B).length
 nB:((ol v.B).length:Int)≤1024
 nO:((ol v.O).length:Int)≤s.cFg.mH.wJ
 MD:s.cFg.mH.wJ≤64
 nE:((ol v.E).length:Int)≤s.cFg.mH.pX
 RX:s.cFg.mH.pX≤256
 nT:((ol v.T).length:Int)≤s.cFg.mH.qT
 TN:s.cFg.mH.qT≤64
 nQ:((ol v.Q).length:Int)≤q
 N6:q≤900000
 hU:0≤aN v.ns s.bM.hU.root
theorem GI.sp {s:aO} {v:SV} {q:Int} (h:GI s v q):s.cFg.qS≠0:=by have:=h.qS.1;omega
theorem wK (s:aO) (v:SV) (c1 c2:fS):(xD s v c1 c2).cFg=s.cFg:=by unfold xD;split;rfl;split<;>rfl
theorem Nu (s:aO) (v:SV) (c1 c2:fS):(xD s v c1 c2).now=s.now:=by unfold xD;split;rfl;split<;>rfl
theorem GI.dK {s:aO} {v:SV} {q:Int} (h:GI s v q) (c1 c2:fS):GI (xD s v c1 c2) (Hc s v c1 c2) q:=by
 have hsd:=h.sd.dK h.up c1 c2
 by_cases b:mV s v (Gn s c1) (Dx s c2)
 ·rw[show xD s v c1 c2=s from if_pos b,show Hc s v c1 c2=v from if_pos b];exact h
 have hJ:0≤aN v.ns (Gn s c1).root:=by rcases Int.lt_or_le (aN v.ns (Gn s c1).root) 0 with g|g;exact absurd (.inl g) b;exact g
 have hF:0≤aN v.ns (Dx s c2).root:=by rcases Int.lt_or_le (aN v.ns (Dx s c2).root) 0 with g|g;exact absurd (.inr (.inl g)) b;exact g
 have hA:At v.ns (aN v.ns (Dx s c2).root) (aN v.ns (Gn s c1).root)=true:=by
  cases g:At v.ns (aN v.ns (Dx s c2).root) (aN v.ns (Gn s c1).root)
  ·exact absurd (.inr (.inr (.inr (.inr (.inr (.inr (.inl g))))))) b
  ·rfl
 have hT:((ol (nz (yK (ol v.T) (Gn s c1).aK))).length:Int)≤s.cFg.mH.qT:=by
  rw[mU];have:=List.length_filter_le (fun t:Table=>decide ((Gn s c1).aK≤t.ck.aK)) (ol v.T);have:=h.nT;unfold yK;omega
 by_cases e:Dx s c2=s.bM.fin
 ·have hS:xD s v c1 c2=_:=(if_neg b).trans (if_pos e)
  have hW:Hc s v c1 c2=_:=(if_neg b).trans (if_pos e)
  rw[hS,hW] at hsd ⊢;exact⟨hsd,h.up,h.LD,h.pos,h.nl,h.TM,h.qS,h.MC,h.nB,h.nO,h.MD,h.nE,h.RX,hT,h.TN,h.nQ,h.N6,hJ⟩
 ·have hS:xD s v c1 c2=_:=(if_neg b).trans (if_neg e)
  have hW:Hc s v c1 c2=_:=(if_neg b).trans (if_neg e)
  rw[hS,hW] at hsd ⊢;have rF:=fY v.ns (Dx s c2).root
  have rJ:=fY v.ns (Gn s c1).root
  have DO:=LA h.up hF rF.2
  have h1:=LC h.up DO
  have h2:=LC h.up hA
  have hz:=XW h.up DO
  have hlen:=Ws (ns:=v.ns) (aN v.ns (Dx s c2).root)
  have RY:=h.nl
  refine⟨hsd,aBG h.up DO, ?_, ?_, ?_,h.TM,h.qS,h.MC,h.nB, ?_,h.MD,h.nE,h.RX,hT,h.TN,h.nQ,h.N6, ?_⟩
  ·rw[hz] at h1;show (nd (oQ v.ns (aN v.ns (Dx s c2).root) v.ns.length).1 0).up=-1
   rw[h1.2.2,if_pos rfl]
  ·have:=h1.2.1;have:=h1.1
   show 0<(oQ v.ns (aN v.ns (Dx s c2).root) v.ns.length).1.length
   omega
  ·show (((oQ v.ns (aN v.ns (Dx s c2).root) v.ns.length).1.length:Nat):Int)≤s.cFg.mH.rR
   omega
  ·show ((ol (nz _)).length:Int)≤s.cFg.mH.wJ
   rw[mU];have:=List.length_filter_le (fun b:Block=>decide ((Dw s (Dx s c2).aK).1<b.slot)) (ol v.O);have:=h.nO;omega
  ·refine Nt h2.1 h2.2.1 ?_
   rw[h2.2.2];exact Ww _ _ hJ
noncomputable def Ah (v:SV) (b:Block):List Node:=v.ns++[⟨b,aN v.ns b.parent,Np b⟩]
noncomputable def Jn (s:aO) (v:SV) (b:Block):aO:={ s with tree:=⟨.sl (Ah v b).length (cD (Ah v b))⟩}
noncomputable def He (v:SV) (b:Block):SV:={ v with ns:=Ah v b }
noncomputable def N7 (s:aO) (v:SV) (b:Block):aO:=xD (Jn s v b) (He v b) b.hU b.fin
noncomputable def N8 (s:aO) (v:SV) (b:Block):SV:=Hc (Jn s v b) (He v b) b.hU b.fin
noncomputable def sS (s:aO) (v:SV) (b:Block):aO:=if Dv s b.slot<Dv s s.now then xD (N7 s v b) (N8 s v b) b.dS.pj b.dS.pf else N7 s v b
noncomputable def lI (s:aO) (v:SV) (b:Block):SV:=if Dv s b.slot<Dv s s.now then Hc (N7 s v b) (N8 s v b) b.dS.pj b.dS.pf else N8 s v b
theorem z7 (b:Block):SN (Np b)=true:=by unfold Np;split<;>rfl
theorem YK {s:aO} {v:SV} {q:Int} (h:GI s v q) {b:Block} (hb:Kb s v b=0):Tt v.ns b (Np b)=0∧(v.ns.length:Int)<s.cFg.mH.rR∧0≤aN v.ns b.parent:=by
 unfold Kb at hb;by_cases g1:b.root=dL
 ·rw[if_pos g1] at hb;omega
 rw[if_neg g1] at hb;by_cases g2:KnB v b.root
 ·rw[if_pos g2] at hb;omega
 rw[if_neg g2] at hb;by_cases g3:s.now<b.slot
 ·rw[if_pos g3] at hb;omega
 rw[if_neg g3] at hb;by_cases g4:b.slot≤(Dw s s.bM.fin.aK).1
 ·rw[if_pos g4] at hb;omega
 rw[if_neg g4] at hb;by_cases g5:aN v.ns b.parent<0
 ·rw[if_pos g5] at hb;omega
 rw[if_neg g5] at hb;by_cases g6:b.slot≤(nd v.ns (aN v.ns b.parent)).block.slot
 ·rw[if_pos g6] at hb;omega
 rw[if_neg g6] at hb;by_cases g7:(nd v.ns (aN v.ns b.parent)).status=2
 ·rw[if_pos g7] at hb;omega
 rw[if_neg g7] at hb;by_cases g8:¬FU s v b
 ·rw[if_pos g8] at hb;omega
 rw[if_neg g8] at hb;by_cases g9:¬w8 s.cFg.AZ (nd v.ns (aN v.ns b.parent)).block b
 ·rw[if_pos g9] at hb;omega
 rw[if_neg g9] at hb;by_cases N5:s.cFg.mH.rR≤(v.ns.length:Int)
 ·rw[if_pos N5] at hb;omega
 have:=h.TM
 refine⟨?_,by omega,by omega⟩
 unfold Tt;rw[z7,if_neg (by simp),if_neg (fun h=>g2 (.inr h)),if_neg g5,if_neg g6,if_neg (by omega)]
theorem GI.Jn {s:aO} {v:SV} {q:Int} (h:GI s v q) {b:Block} (hb:(v.ns.length:Int)<s.cFg.mH.rR) (hp:0≤aN v.ns b.parent):GI (Jn s v b) (He v b) q:=by
 have hlen:(Ah v b).length=v.ns.length+1:=by unfold Ah;simp
 have hnB:=h.TM
 have hsd:SD (Tryz.Jn s v b) (He v b):=⟨h.sd.jN,h.sd.dQ,h.sd.gZ,h.sd.early,h.sd.bX,rfl,h.sd.tables,h.sd.eV,h.sd.tB,h.sd.nB,h.sd.nL,h.sd.nQ,h.sd.nE,h.sd.nO,h.sd.nT,by show ((Ah v b).length:Int)<1000000;omega⟩
 have rp:=fY v.ns b.parent
 refine⟨hsd,fun i h0 h1=>?_, ?_, ?_, ?_,h.TM,h.qS,h.MC,h.nB,h.nO,h.MD,h.nE,h.RX,h.nT,h.TN,h.nQ,h.N6, ?_⟩
 ·have h1:i<((Ah v b).length:Int):=h1
  show 0≤(nd (Ah v b) i).up∧(nd (Ah v b) i).up<i
  by_cases hi:i<(v.ns.length:Int)
  ·unfold Ah;rw[It (by omega) hi];exact h.up i h0 hi
  ·unfold Ah;rw[DG (by omega)];exact⟨hp,by show aN v.ns b.parent<i;omega⟩
 ·show (nd (Ah v b) 0).up=-1
  unfold Ah;rw[It (by omega) (by have:=h.pos;omega)];exact h.LD
 ·show 0<(Ah v b).length;omega
 ·show ((Ah v b).length:Int)≤s.cFg.mH.rR;omega
 ·show 0≤aN (Ah v b) s.bM.hU.root
  have rj:=fY v.ns s.bM.hU.root
  refine Nt h.hU (by omega) ?_
  unfold Ah;rw[It h.hU rj.2];exact Ww _ _ h.hU
theorem GI.ins {s:aO} {v:SV} {q:Int} (h:GI s v q) {b:Block} (hb:Kb s v b=0):GI (sS s v b) (lI s v b) q:=by
 obtain⟨_,h2,h3⟩:=YK h hb
 have g1:=h.Jn h2 h3
 have g2:=g1.dK b.hU b.fin
 unfold sS lI;split
 ·exact g2.dK _ _
 ·exact g2
theorem Bb (s:aO) (v:SV) (b:Block):(sS s v b).cFg=s.cFg∧(sS s v b).now=s.now:=by
 unfold sS;split
 ·rw[wK,Nu];unfold N7;rw[wK,Nu];exact⟨rfl,rfl⟩
 ·unfold N7;rw[wK,Nu];exact⟨rfl,rfl⟩
theorem aKr {s:aO} {v:SV} {q:Int} (h:GI s v q) {b:Block} (hb:Kb s v b=0):aC Tryz.prog 217 [.agg (aB s),.agg (aU b)]=some (.agg (aB (sS s v b))):=by
 obtain⟨h1,h2,h3⟩:=YK h hb
 have g1:=h.Jn h2 h3
 have g2:=g1.dK b.hU b.fin
 have hi:Ec v.ns b (Np b)=.eN [.agg (cX ⟨Ah v b⟩),.v (.int .i64 0)]:=if_pos h1
 have N9:=aJi v.ns h.sd.nn b (Np b)
 rw[hi] at N9
 have k61a:=k61 g1.sd g1.up g1.sp b.hU b.fin
 have k61b:=k61 g2.sd g2.up g2.sp b.dS.pj b.dS.pf
 have O0:(xD (Tryz.Jn s v b) (He v b) b.hU b.fin).cFg.qS=s.cFg.qS:=by rw[wK];rfl
 have hnow:(xD (Tryz.Jn s v b) (He v b) b.hU b.fin).now=s.now:=by rw[Nu];rfl
 have hep:∀x,Dv (xD (Tryz.Jn s v b) (He v b) b.hU b.fin) x=Dv s x:=fun x=>by unfold Dv;rw[O0]
 have k98':=Mp (xD (Tryz.Jn s v b) (He v b) b.hU b.fin) g2.sp g2.sd.flat
 have e1:({ cFg:=s.cFg,gG:=s.gG,bM:=s.bM,dV:=s.dV,tree:=⟨.sl (Ah v b).length (cD (Ah v b))⟩,now:=s.now,iI:=s.iI,tables:=s.tables }:aO)=Tryz.Jn s v b:=rfl
 rw[cL Tryz.func217 rfl aKs rfl];refine jG ?_
 by_cases c:Dv s b.slot<Dv s s.now
 ·have hv:sS s v b=_:=if_pos c
  have GB:=(g2.dK b.dS.pj b.dS.pf).sd.flat
  simp only[Z8,seval,h.sd.tree,aJ9,N9,eB,e1,k61a,k98',hep,hnow,c,k61b];exact⟨_,fL rfl (by simp only[E8,seval,GB]<;>rfl) (by simp only[Z8,seval,GB]<;>rfl) (by simp only[dW,and_self,GB]),by rw[hv];rfl⟩
 ·have hv:sS s v b=_:=if_neg c
  have GB:=g2.sd.flat
  simp only[Z8,seval,h.sd.tree,aJ9,N9,eB,e1,k61a,k98',hep,hnow,c];exact⟨_,fL rfl (by simp only[E8,seval,GB]<;>rfl) (by simp only[Z8,seval,GB]<;>rfl) (by simp only[dW,and_self,GB]),by rw[hv];rfl⟩
theorem Qs {L:List Block} {k:Nat} (hk:k≤L.length) (a g:Nat):∃X,(∀(st:St) (hi:Operand),st.ev hi=.v (.int .i64 k)→st.heap a g=some (.row 74 238 L.length (aH L))→cW Tryz.prog st 45 (.own a g) none (some hi)=some X) ∧
 (∀st:St,st.heap a g=some (.row 74 238 L.length (aH L))→aR st X=some ((L.take k).length,aH (L.take k))):=by
 have hl:(L.take k).length=k:=by simp;omega
 by_cases h0:k=0∧L.length=0
 ·obtain⟨rfl,h1⟩:=h0
  refine⟨.sl 0 [],fun st hi he hh=>?_,fun st hh=>by simp[aR,aH]⟩
  simp[cW,oR,hh,he,h1]
 ·refine⟨.vw a g 0 k,fun st hi he hh=>?_,fun st hh=>?_⟩
  ·have:¬((0:Int)=k∧¬((0:Int)=0∧0<L.length)):=by omega
   have h2:(0:Int)≤k∧(k:Int)≤L.length:=by omega
   simp only[cW,oR,hh,he,if_neg this,h2,Int.le_refl,and_self,if_true];simp
   intro h3 h4;rw[h4] at h0;simp at h0
   omega
  ·have hb:k * 238≤(aH L).length:=by rw[Bc];exact Nat.mul_le_mul_right _ hk
   have:=vZ (c:=aU) (sz:=238) bQ L k
   simp only[aR,hh,Nat.zero_add,hb,if_true,List.drop_zero,hl];exact congrArg (fun z=>some (k,z)) this
theorem Cu {L:List Block} {k:Nat} (hk:k≤L.length) (a g:Nat):∃X,(∀(st:St) (lo:Operand),st.ev lo=.v (.int .i64 k)→st.heap a g=some (.row 74 238 L.length (aH L))→cW Tryz.prog st 45 (.own a g) (some lo) none=some X) ∧
 (∀st:St,st.heap a g=some (.row 74 238 L.length (aH L))→aR st X=some ((L.drop k).length,aH (L.drop k))):=by
 have hl:(L.drop k).length=L.length-k:=by simp
 by_cases h0:k=L.length
 ·by_cases hz:0<k
  ·refine⟨.sl 0 [],fun st lo he hh=>?_,fun st hh=>by rw[h0];simp[aR,aH]⟩
   have:(k:Int)=L.length∧¬((k:Int)=0∧0<L.length):=by omega
   have h2:(0:Int)≤k∧(k:Int)≤L.length:=by omega
   simp only[cW,oR,hh,he,if_pos this,h2,Int.le_refl,and_self,if_true]
  ·refine⟨.sl 0 [],fun st lo he hh=>?_,fun st hh=>by rw[h0];simp[aR,aH]⟩
   have:(k:Int)=L.length∧¬((k:Int)=0∧0<L.length):=by omega
   have h2:(0:Int)≤k∧(k:Int)≤L.length:=by omega
   simp only[cW,oR,hh,he,if_pos this,h2,Int.le_refl,and_self,if_true]
 ·refine⟨.vw a g (k * 238) (L.length-k),fun st lo he hh=>?_,fun st hh=>?_⟩
  ·have h1:¬((k:Int)=L.length∧¬((k:Int)=0∧0<L.length)):=by omega
   have h2:((L.length:Int)-(k:Int)).toNat=L.length-k:=by omega
   have h3:(0:Int)≤k∧(k:Int)≤L.length:=by omega
   simp only[cW,oR,hh,he,if_neg h1,h3,Int.le_refl,and_self,if_true,h2,Int.toNat_natCast]
  ·have hb:k * 238+(L.length-k) * 238≤(aH L).length:=by rw[Bc,← Nat.add_mul];exact Nat.mul_le_mul_right _ (by omega)
   have:=xU (c:=aU) (sz:=238) bQ L k
   have h3:((aH L).drop (k * 238)).length=(L.length-k) * 238:=by rw[List.length_drop,Bc,Nat.sub_mul]
   simp only[aR,hh,hb,if_true,hl];rw[List.take_of_length_le (by omega)]
   exact congrArg (fun z=>some (L.length-k,z)) this
theorem GI.iI {s:aO} {v:SV} {q:Int} (h:GI s v q) (r:cK):GI { s with iI:=r } v q :=
 ⟨⟨h.sd.jN,h.sd.dQ,h.sd.gZ,h.sd.early,h.sd.bX,h.sd.tree,h.sd.tables,h.sd.eV,h.sd.tB,h.sd.nB,h.sd.nL,h.sd.nQ,h.sd.nE,h.sd.nO,h.sd.nT,h.sd.nn⟩,h.up,h.LD,h.pos,h.nl,h.TM,h.qS,h.MC,h.nB,h.nO,h.MD,h.nE,h.RX,h.nT,h.TN,h.nQ,h.N6,h.hU⟩
def mW (s:aO) (x:AV):aO:={ s with dV:={ s.dV with bX:=x }}
theorem GI.TO {s:aO} {v:SV} {q:Int} (h:GI s v q) (O:Option (List Block)) (hO:((ol O).length:Int)≤s.cFg.mH.wJ):GI (mW s (ov aH O)) { v with O:=O } q :=
 ⟨⟨h.sd.jN,h.sd.dQ,h.sd.gZ,h.sd.early,rfl,h.sd.tree,h.sd.tables,h.sd.eV,h.sd.tB,h.sd.nB,h.sd.nL,h.sd.nQ,h.sd.nE,by have:=h.MD;show ((ol O).length:Int)<1000000;omega,h.sd.nT,h.sd.nn⟩,h.up,h.LD,h.pos,h.nl,h.TM,h.qS,h.MC,h.nB,hO,h.MD,h.nE,h.RX,h.nT,h.TN,h.nQ,h.N6,h.hU⟩
theorem TP (s:aO) (v:SV) (c1 c2:fS):(ol (Hc s v c1 c2).O).length≤(ol v.O).length:=by
 unfold Hc;split
 ·exact Nat.le_refl _
 split
 ·exact Nat.le_refl _
 ·show (ol (nz _)).length≤_
  rw[mU];exact List.length_filter_le _ _
theorem TS (s:aO) (v:SV) (b:Block):(ol (lI s v b).O).length≤(ol v.O).length:=by
 unfold lI;split
 ·exact Nat.le_trans (TP _ _ _ _) (TP _ _ _ _)
 ·exact TP _ _ _ _
theorem zG {s:aO} {v:SV} (h:SD s v) {O:List Block} {a g:Nat} (st:St) (hh:st.heap a g=some (.row 74 238 O.length (aH O))):fK st (.agg (aB (mW s (.own a g))))=some (.agg (aB (mW s (ov aH (some O))))):=by
 have iX:=h.fl
 unfold mW;simp only[bR,gK,bG,hh,uA,cO,dW,iX,cZ];rfl
def Rg (x:Int):Prop:=0≤x∧x<18446744073709551616
structure RB (b:Block):Prop where
 sl:Rg b.slot
 j:Rg b.hU.aK
 f:Rg b.fin.aK
 pj:Rg b.dS.pj.aK
 pf:Rg b.dS.pf.aK
def Pr (r:cK):Prop:=r≠dL∧r≠mkRoot 99
theorem Wx {α:Type} (l:List α):nz l≠some []:=by
 unfold nz;split
 ·nofun
 ·rename_i h;intro e;injection e with e;exact h e
structure NEv (v:SV):Prop where
 q:v.Q≠some []
 e:v.E≠some []
 o:v.O≠some []
 t:v.T≠some []
 ea:∀a∈ol v.E,∃V,a.eY=ov aJ (some V)∧V≠[]
 tb:∀t∈ol v.T,∃B,t.jN=ov bD (some B)∧B≠[]
structure RG (s:aO) (v:SV):Prop where
 now:0≤s.now∧s.now≤1099511627776
 j:Rg s.bM.hU.aK
 f:Rg s.bM.fin.aK
 nd:∀n∈v.ns,RB n.block∧n.block.slot≤s.now
 or:∀b∈ol v.O,RB b∧Pr b.root
 rt:∀n∈v.ns,Pr n.block.root
 fe:s.bM.fin.aK≤s.bM.hU.aK∧s.bM.hU.aK≤Dv s s.now
 ds:(v.ns.map fun n=>n.block.root).Nodup
 tb:∃t∈ol v.T,t.ck=s.bM.hU
 ne:NEv v
theorem GC {ns:List Node} {i:Int} (h0:0≤i) (h1:i<ns.length):nd ns i∈ns:=by
 obtain⟨h,e⟩:=Lb h0 h1
 rw[e];exact List.getElem_mem h
theorem Va (ns:List Node) (i:Int):∀k:Nat,k≤ns.length→∀n∈(oQ ns i k).1,∃a∈ns,n.block=a.block∧n.status=a.status
 | 0,_,n,hn=>by simp[oQ] at hn
 | k+1,hk,n,hn=>by
   unfold oQ at hn;simp only at hn
   split at hn
   ·rcases List.mem_append.1 hn with hn|hn
    ·exact Va ns i k (by omega) n hn
    ·rw[List.mem_singleton] at hn;subst hn;exact⟨nd ns k,GC (by omega) (by omega),rfl,rfl⟩
   ·exact Va ns i k (by omega) n hn
theorem YL (ns:List Node) (i:Int):∀k:Nat,k≤ns.length→((oQ ns i k).1.map (·.block)).Sublist ((ns.take k).map (·.block))
 | 0,_=>by simp[oQ]
 | k+1,hk=>by
   have ih:=YL ns i k (by omega)
   have e:ns.take (k+1)=ns.take k++[nd ns k]:=by
    rw[List.take_succ_eq_append_getElem (by omega)]
    have h:k<ns.length:=by omega
    simp[Go.Ab.nd,h]
   unfold oQ;simp only
   rw[e,List.map_append];split
   ·rw[List.map_append];exact ih.append (by simp)
   ·exact ih.trans (List.sublist_append_left ..)
theorem z8 {ns:List Node} (h:(ns.map fun n=>n.block.root).Nodup) (i:Int):((oQ ns i ns.length).1.map fun n=>n.block.root).Nodup:=by
 have h1:=(YL ns i ns.length (Nat.le_refl _)).map (·.root)
 rw[List.take_length] at h1;simp only[List.map_map] at h1;exact h.sublist h1
theorem RG.dK {s:aO} {v:SV} (r:RG s v) {c1 c2:fS} (r1:Rg c1.aK) (r2:Rg c2.aK):RG (xD s v c1 c2) (Hc s v c1 c2):=by
 have hJ:Rg (Gn s c1).aK:=by unfold Gn;split;exact r1;exact r.j
 have hF:Rg (Dx s c2).aK:=by unfold Dx;split;exact r2;exact r.f
 by_cases b:mV s v (Gn s c1) (Dx s c2)
 ·rw[show xD s v c1 c2=s from if_pos b,show Hc s v c1 c2=v from if_pos b];exact r
 have fe:(Dx s c2).aK≤(Gn s c1).aK∧(Gn s c1).aK≤Dv s s.now:=by
  unfold mV at b;simp only[not_or] at b;obtain⟨_,_,_,_,_,_,_,b8,b9,_⟩:=b
  omega
 have tb:∃t∈ol (nz (yK (ol v.T) (Gn s c1).aK)),t.ck=Gn s c1:=by
  unfold mV at b;simp only[not_or] at b;obtain⟨_,_,_,_,_,_,_,_,_,b10⟩:=b
  unfold K0 at b10;rcases vH (fun k=>(gx iW (ol v.T) k).ck=Gn s c1) (ol v.T).length with ⟨e,_⟩|⟨k,h1,h2,_,h3⟩
  ·rw[e] at b10;omega
  ·refine⟨gx iW (ol v.T) k, ?_,h2⟩
   rw[mU];refine List.mem_filter.2 ⟨tY (by omega) (by omega),decide_eq_true ?_⟩
   rw[h2];exact Int.le_refl _
 by_cases e:Dx s c2=s.bM.fin
 ·rw[show xD s v c1 c2=_ from (if_neg b).trans (if_pos e),show Hc s v c1 c2=_ from (if_neg b).trans (if_pos e)];exact⟨r.now,hJ,hF,r.nd,r.or,r.rt,fe,r.ds,tb,⟨r.ne.q,r.ne.e,r.ne.o,Wx _,r.ne.ea,fun t ht=>r.ne.tb t (by have ht:t∈ol (nz (yK (ol v.T) (Gn s c1).aK)):=ht;rw[mU] at ht;exact (List.mem_filter.1 ht).1)⟩⟩
 ·rw[show xD s v c1 c2=_ from (if_neg b).trans (if_neg e),show Hc s v c1 c2=_ from (if_neg b).trans (if_neg e)];refine⟨r.now,hJ,hF,fun n hn=>?_,fun o ho=>?_,fun n hn=>?_,fe,z8 r.ds _,tb,⟨r.ne.q,r.ne.e,Wx _,Wx _,r.ne.ea,fun t ht=>r.ne.tb t (by have ht:t∈ol (nz (yK (ol v.T) (Gn s c1).aK)):=ht;rw[mU] at ht;exact (List.mem_filter.1 ht).1)⟩⟩
  ·obtain⟨a,ha,e1,_⟩:=Va _ _ _ (Nat.le_refl _) n hn
   rw[e1];exact r.nd a ha
  ·have ho:o∈ol (nz ((ol v.O).filter fun b=>decide ((Dw s (Dx s c2).aK).1<b.slot))):=ho
   rw[mU] at ho;exact r.or o (List.mem_filter.1 ho).1
  ·obtain⟨a,ha,e1,_⟩:=Va _ _ _ (Nat.le_refl _) n hn
   rw[e1];exact r.rt a ha
theorem O1 {s:aO} {v:SV} {b:Block} (hb:Kb s v b=0∨Kb s v b=10):b.slot≤s.now:=by
 unfold Kb at hb;by_cases g1:b.root=dL
 ·rw[if_pos g1] at hb;omega
 rw[if_neg g1] at hb;by_cases g2:KnB v b.root
 ·rw[if_pos g2] at hb;omega
 rw[if_neg g2] at hb;by_cases g3:s.now<b.slot
 ·rw[if_pos g3] at hb;omega
 ·omega
theorem aBW {s:aO} {v:SV} {b:Block} (hb:Kb s v b=0):aN v.ns b.root<0:=by
 rcases Int.lt_or_le (aN v.ns b.root) 0 with h|h
 ·exact h
 ·unfold Kb at hb;by_cases g1:b.root=dL
  ·rw[if_pos g1] at hb;omega
  ·rw[if_neg g1,if_pos (.inr h)] at hb;omega
theorem z9 {ns:List Node} {r:cK} (h:aN ns r<0):r ∉ ns.map fun n=>n.block.root:=by
 intro hm;obtain⟨n,hn,e⟩:=List.mem_map.1 hm
 obtain⟨k,hk,rfl⟩:=List.getElem_of_mem hn
 have:0≤aN ns r:=Nt (j:=(k:Int)) (by omega) (by omega) (by
  have:Go.Ab.nd ns (k:Int)=ns[k]:=by simp[Go.Ab.nd,hk]
  rw[this];exact e)
 omega
theorem RG.ins {s:aO} {v:SV} (r:RG s v) {b:Block} (rb:RB b∧Pr b.root) (hc:Kb s v b=0):RG (sS s v b) (lI s v b):=by
 have hs:=O1 (.inl hc)
 have g1:RG (Tryz.Jn s v b) (He v b):=⟨r.now,r.j,r.f,fun n hn=>by
  rcases List.mem_append.1 (show n∈v.ns++[⟨b,aN v.ns b.parent,Np b⟩] from hn) with hn|hn
  ·exact r.nd n hn
  ·rw[List.mem_singleton] at hn;subst hn;exact⟨rb.1,hs⟩,r.or,fun n hn=>by
  rcases List.mem_append.1 (show n∈v.ns++[⟨b,aN v.ns b.parent,Np b⟩] from hn) with hn|hn
  ·exact r.rt n hn
  ·rw[List.mem_singleton] at hn;subst hn;exact rb.2,r.fe,by
  show ((v.ns++[(⟨b,aN v.ns b.parent,Np b⟩:Node)]).map fun n:Node=>n.block.root).Nodup
  rw[List.map_append];refine List.nodup_append.2 ⟨r.ds,by simp,fun x hx y hy=>?_⟩
  simp only[List.map_cons,List.map_nil,List.mem_singleton] at hy;rintro rfl
  exact z9 (aBW hc) (hy ▸ hx),r.tb,⟨r.ne.q,r.ne.e,r.ne.o,r.ne.t,r.ne.ea,r.ne.tb⟩⟩
 have g2:=g1.dK rb.1.j rb.1.f
 unfold sS lI;split
 ·exact RG.dK g2 rb.1.pj rb.1.pf
 ·exact g2
theorem RG.TO {s:aO} {v:SV} (r:RG s v) (O:Option (List Block)) (x:AV) (h:∀b∈ol O,RB b∧Pr b.root) (hO:O≠some []):RG (mW s x) { v with O:=O }:=⟨r.now,r.j,r.f,r.nd,h,r.rt,r.fe,r.ds,r.tb,⟨r.ne.q,r.ne.e,hO,r.ne.t,r.ne.ea,r.ne.tb⟩⟩
theorem RG.iI {s:aO} {v:SV} (r:RG s v) (x:cK):RG { s with iI:=x } v:=⟨r.now,r.j,r.f,r.nd,r.or,r.rt,r.fe,r.ds,r.tb,r.ne⟩
theorem GI.mono {s:aO} {v:SV} {q q':Int} (h:GI s v q) (h1:q≤q') (h2:q'≤900000):GI s v q' :=
 ⟨h.sd,h.up,h.LD,h.pos,h.nl,h.TM,h.qS,h.MC,h.nB,h.nO,h.MD,h.nE,h.RX,h.nT,h.TN,by have:=h.nQ;omega,h2,h.hU⟩
theorem Iv:Flat (.agg (aB gQ)):=by simp only[dW,gQ,nJ,Hd,Ba,Lf,and_self]
def StR (s:aO) (q:Int) (r:AV):Prop:=∃(s':aO) (e:Int),r=.eN [.agg (aB s'),.v (.int .i64 e)]∧Flat (.agg (aB s'))∧e≠21∧(e=0→∃v',GI s' v' q∧RG s' v'∧s'.cFg=s.cFg)
def StN (s:aO) (v:SV) (q:Int) (r:AV):Prop:=∃(s':aO) (e:Int),r=.eN [.agg (aB s'),.v (.int .i64 e)]∧Flat (.agg (aB s'))∧e≠21∧(e=0→∃v',GI s' v' q∧RG s' v'∧s'.cFg=s.cFg∧v'.ns=v.ns)
theorem aFS (s:aO) (v:SV) (b:Block):Kb s v b≠21:=by
 unfold Kb;repeat (split;simp)
 simp
end Go.Ab.Tryz
namespace Go.Ab.Tryz
open Classical Go.Proofs Go.Ab
end Go.Ab.Tryz
namespace Go.Ab.Tryz
open Classical Go.Proofs Go.Ab
theorem aBX (o:Option (List cK)) (hn:((ol o).length:Int)<1000000) (r:cK):∃x,aC Tryz.prog 250 [ov gM o,.agg (aX r)]=some x∧∃b:Bool,x=.v (.bool b):=by
 rw[cL Tryz.func250 rfl aKt (by cases o<;>rfl)]
 simp only[Z8,seval];refine cM (fun m st=>∃k:Nat,(st.env 0=ov gM o∧st.env 3=.ptr 3 0 0∧st.heap 3 0=some (.cells (aX r))∧st.env 5=.v (.int .i64 k))∧(∀j:Nat,j<k→¬(gx dL (ol o) (j:Int)=r))∧k≤(ol o).length∧m=(ol o).length-k)
  (fun e st=>(e=.ret∧∃k:Nat,k<(ol o).length∧(gx dL (ol o) (k:Int)=r)∧(∀j:Nat,j<k→¬(gx dL (ol o) (j:Int)=r))∧st.env 4=.v (.bool true))∨(e=.exit 0∧(∀j:Nat,j<(ol o).length→¬(gx dL (ol o) (j:Int)=r))∧st.env 0=ov gM o∧st.env 3=.ptr 3 0 0∧st.heap 3 0=some (.cells (aX r)))) ((ol o).length) ?step ?start ?rest
 case step =>
  rintro m st ⟨k,hI,hj,hk,hm⟩
  by_cases bA:(k:Int)<(ol o).length
  ·have q0:(0:Int)≤k:=by omega
   have hw:IntKind.i64.wrap ((k:Int)+1)=((k+1:Nat):Int):=by rw[pR _ (by omega) (by omega)];omega
   by_cases hh:gx dL (ol o) (k:Int)=r
   ·apply oT (.ret)
    ·simp only[Z8,seval,hI,bA,q0,hh];rfl
    ·exact .inl ⟨rfl,k,by omega,hh,hj,by simp only[E8,seval]⟩
   ·apply oN ((ol o).length-(k+1))
    ·simp only[Z8,seval,hI,bA,q0,hh,hw];rfl
    ·exact⟨k+1,by simp only[E8,seval,hI],fun j h=>(Nat.lt_succ_iff_lt_or_eq.1 h).elim (hj j) fun e=>by subst e;exact hh,by omega,rfl⟩
  ·apply oT (.exit 0)
   ·simp only[Z8,seval,hI,bA];rfl
   ·exact .inr ⟨rfl,fun j h=>hj j (by omega),by simp only[E8,seval,hI]⟩
 case start=>exact⟨0,by simp only[E8,seval]<;>rfl,fun j h=>by omega,by omega,by omega⟩
 case rest =>
  rintro e st (⟨rfl,k,hk,hh,hj,h⟩|⟨rfl,hj,hI⟩)
  ·simp only[Z8,seval];exact⟨_,bW rfl (by simp only[E8,seval,h]<;>rfl) (by first|exact .v _|simp only[dW,h]),_,rfl⟩
  ·simp only[Z8,seval];exact⟨_,bW rfl (by simp only[E8,seval]<;>rfl) (by first|exact .v _|simp only[dW]),_,rfl⟩
theorem A0 (l:List Table) (c:fS):-1≤K0 l c∧K0 l c<l.length:=TE _ _
theorem aPj {s:aO} {v:SV} (hs:SD s v):∃x,aC Tryz.prog 239 [.agg (aB s)]=some x∧∃o:Option (List Int),x=ov bD o∧((ol o).length:Int)<1000000:=by
 have KM:=hs.fT
 rw[cL Tryz.func239 rfl aKu rfl];have r1:=A0 (ol v.T) s.bM.hU
 by_cases g1:K0 (ol v.T) s.bM.hU<0
 ·simp only[Z8,seval,hs.tables,YG _ hs.nT KM,g1];exact⟨_,bW rfl (by simp only[E8,seval]<;>rfl) (by first|exact .v _|simp only[dW]),none,rfl,by simp[ol]⟩
 have q0:0≤K0 (ol v.T) s.bM.hU:=by omega
 obtain⟨b,hb,hl⟩:=hs.tB _ (tY (z:=iW) q0 r1.2)
 simp only[Z8,seval,hs.tables,YG _ hs.nT KM,g1,q0,r1,hb];exact⟨_,bW rfl (by simp only[E8,seval,hb]<;>rfl) (dR b),b,rfl,hl⟩
theorem aPk (a b:Claim) (ha:Flat a.eY) (hb:Flat b.eY):∃x,aC Tryz.prog 234 [.agg (gV a),.agg (gV b)]=some x∧∃c:Bool,x=.v (.bool c):=by
 rw[cL Tryz.func234 rfl aKv rfl];by_cases g1:a.target=b.target
 ·by_cases g2:a.source=b.source
  ·by_cases g3:a.root=b.root
   all_goals
    have g4:¬a.source<b.source:=by omega
    have g5:¬b.source<a.source:=by omega
    simp only[Z8,seval,bt g1,bt g2,g3,g4,g5];exact⟨_,bW rfl (by simp only[E8,seval]<;>rfl) (by first|exact .v _|simp only[dW]),_,rfl⟩
  ·by_cases g4:a.source<b.source
   all_goals
    by_cases g5:b.source<a.source
    all_goals
     by_cases g6:b.target<a.target
     all_goals
      by_cases g7:a.target<b.target
      all_goals
       simp only[Z8,seval,bt g1,bf g2,g4,g5,g6,g7];exact⟨_,bW rfl (by simp only[E8,seval]<;>rfl) (by first|exact .v _|simp only[dW]),_,rfl⟩
 ·by_cases g4:a.source<b.source
  all_goals
   by_cases g5:b.source<a.source
   all_goals
    by_cases g6:b.target<a.target
    all_goals
     by_cases g7:a.target<b.target
     all_goals
      simp only[Z8,seval,bf g1,g4,g5,g6,g7];exact⟨_,bW rfl (by simp only[E8,seval]<;>rfl) (by first|exact .v _|simp only[dW]),_,rfl⟩
theorem aPl {s:aO} {v:SV} (hs:SD s v):∃x,aC Tryz.prog 209 [.agg (aB s)]=some x∧∃r:cK,x=.agg (aX r):=by
 rw[cL Tryz.func209 rfl aKw rfl];have r1:=fY v.ns s.bM.hU.root
 by_cases g1:0≤aN v.ns s.bM.hU.root
 ·by_cases g2:(nd v.ns (aN v.ns s.bM.hU.root)).status=1
  ·simp only[Z8,seval,hs.tree,mT _ _ hs.nn,g1,r1,bt g2];exact⟨_,fL rfl (by simp only[E8,seval]<;>rfl) (by simp only[Z8,seval]<;>rfl) (by simp only[dW,and_self]),_,rfl⟩
  ·simp only[Z8,seval,hs.tree,mT _ _ hs.nn,g1,r1,bf g2];exact⟨_,fL rfl (by simp only[E8,seval]<;>rfl) (by simp only[Z8,seval]<;>rfl) (by simp only[dW,and_self]),_,rfl⟩
 ·simp only[Z8,seval,hs.tree,mT _ _ hs.nn,g1];exact⟨_,fL rfl (by simp only[E8,seval]<;>rfl) (by simp only[Z8,seval]<;>rfl) (by simp only[dW,and_self]),_,rfl⟩
theorem aPm (c:Config) (hc:Flat c.jN) (x:Int):∃r,aC Tryz.prog 240 [.agg (bU c),.v (.int .u64 x)]=some r∧∃a e:Int,r=.eN [.v (.int .u64 a),.v (.int .i64 e)]:=by
 rw[cL Tryz.func240 rfl aKx rfl];by_cases g1:c.qS<1
 ·simp only[Z8,seval,g1];exact⟨_,dO rfl rfl rfl (by simp only[E8,seval]<;>rfl) (by simp only[E8,seval]<;>rfl),_,_,rfl⟩
 by_cases g2:64<c.qS
 ·simp only[Z8,seval,g1,g2];exact⟨_,dO rfl rfl rfl (by simp only[E8,seval]<;>rfl) (by simp only[E8,seval]<;>rfl),_,_,rfl⟩
 by_cases g3:100<c.Hf
 ·simp only[Z8,seval,g1,g2,g3];exact⟨_,dO rfl rfl rfl (by simp only[E8,seval]<;>rfl) (by simp only[E8,seval]<;>rfl),_,_,rfl⟩
 by_cases g4:4611686018427387904<x
 ·simp only[Z8,seval,g1,g2,g3,g4];exact⟨_,dO rfl rfl rfl (by simp only[E8,seval]<;>rfl) (by simp only[E8,seval]<;>rfl),_,_,rfl⟩
 have g5:(c.qS=0)=False:=eq_false (by omega)
 simp only[Z8,seval,g1,g2,g3,g4,g5];exact⟨_,dO rfl rfl rfl (by simp only[E8,seval]<;>rfl) (by simp only[E8,seval]<;>rfl),_,_,rfl⟩
noncomputable def aFT (o:Option (List cK)) (r:cK):Bool:=if h:((ol o).length:Int)<1000000 then Classical.choose (Classical.choose_spec (aBX o h r)).2 else false
theorem aPn (o:Option (List cK)) (hn:((ol o).length:Int)<1000000) (r:cK) (st:St) (d:Option Nat):aL (aC Tryz.prog) 250 [ov gM o,.agg (aX r)] st d=some { dst:=d,val:=.v (.bool (aFT o r))}:=by
 have h:=(Classical.choose_spec (aBX o hn r)).1
 rw[Classical.choose_spec (Classical.choose_spec (aBX o hn r)).2] at h;rw[show aFT o r=Classical.choose (Classical.choose_spec (aBX o hn r)).2 from dif_pos hn];exact bK (bH (Hg o) (qK r)) h (.v _)
theorem aPo (o:Option (List Int)) (hn:((ol o).length:Int)<999999) (x:Int):∃r,aC Tryz.prog 235 [ov aJ o,.v (.int .i64 x)]=some r∧(r=ov aJ o∨∃L:List Int,r=.uniq 3 1 L.length (aJ L)∧L.length=(ol o).length+1):=by
 rw[cG Tryz.func235 rfl aKy (by kernel_rfl) (by cases o<;>rfl)]
 simp only[ZG,seval,Bool.false_and,Prod.mk.injEq,Wy];refine lJ (fun m st=>∃k:Nat,(st.env 0=ov aJ o∧st.env 1=.v (.int .i64 x)∧st.env 5=.v (.int .i64 k))∧k≤(ol o).length∧m=(ol o).length-k)
  (fun e st=>e=.exit 0∧∃k:Nat,(st.env 0=ov aJ o∧st.env 1=.v (.int .i64 x)∧st.env 5=.v (.int .i64 k))∧k≤(ol o).length) (ol o).length ?step ?start ?rest
 case step =>
  rintro m st ⟨k,hI,hk,hm⟩
  by_cases bA:(k:Int)<(ol o).length
  ·have q0:(0:Int)≤k:=by omega
   have hw:IntKind.i64.wrap ((k:Int)+1)=((k+1:Nat):Int):=by rw[pR _ (by omega) (by omega)];omega
   by_cases h1:gx (0:Int) (ol o) (k:Int)<x
   ·apply Ct ((ol o).length-(k+1))
    ·simp only[ZG,seval,Bool.false_and,Prod.mk.injEq,Wy,hI,bA,q0,h1,hw];rfl
    ·exact⟨k+1,by simp only[E8,seval,hI],by omega,rfl⟩
   ·apply FY (.exit 0)
    ·simp only[ZG,seval,Bool.false_and,Prod.mk.injEq,Wy,hI,bA,q0,h1];rfl
    ·exact⟨rfl,k,by simp only[E8,seval,hI],hk⟩
  ·apply FY (.exit 0)
   ·simp only[ZG,seval,Bool.false_and,Prod.mk.injEq,Wy,hI,bA];rfl
   ·exact⟨rfl,k,by simp only[E8,seval,hI],hk⟩
 case start=>exact⟨0,by simp only[E8,seval]<;>rfl,by omega,by omega⟩
 case rest =>
  rintro e st ⟨rfl,k,hI,hk⟩
  have e1:ol (o.map (·.take k))=(ol o).take k:=by cases o<;>simp[ol]
  have e2:ol (o.map (·.drop k))=(ol o).drop k:=by cases o<;>simp[ol]
  have n1:((((ol o).take k).length:Nat):Int)<1000000:=by rw[List.length_take];omega
  have n2:((((ol o).drop k).length:Nat):Int)<1000000:=by rw[List.length_drop];omega
  have n3:((((ol o).take k++[x]).length:Nat):Int)<1000000:=by rw[List.length_append,List.length_take];simp;omega
  have q0:(0:Int)≤k:=by omega
  have q1:(k:Int)≤((ol o).length:Int):=by omega
  have go:∃r,some (AV.uniq 3 1 ((ol o).take k++[x]++(ol o).drop k).length (aJ ((ol o).take k++[x]++(ol o).drop k)))=some r∧(r=ov aJ o∨∃L:List Int,r=.uniq 3 1 L.length (aJ L)∧L.length=(ol o).length+1) :=
   ⟨_,rfl,.inr ⟨_,rfl,by simp;omega⟩⟩
  by_cases bA:(k:Int)<(ol o).length
  ·by_cases h2:gx (0:Int) (ol o) (k:Int)=x
   ·simp only[ZG,seval,Bool.false_and,Prod.mk.injEq,Wy,hI,bA,q0,bt h2];exact⟨_,bW rfl (by simp only[E8,seval,hI]<;>rfl) (bS o),.inl rfl⟩
   ·simp only[ZG,seval,Bool.false_and,Prod.mk.injEq,Wy,Ay,Az,and_self,hI,bA,q0,q1,bf h2,Int.toNat_natCast,e1,e2,Nv _ n1,Ep _ _ _ _ n1,GD _ _ _ _ n3 n2];refine⟨_,sP rfl (by simp only[E8,seval]<;>rfl) (by simp only[E8,seval]<;>rfl) (gF _),.inr ⟨_,rfl,by simp;omega⟩⟩
  ·simp only[ZG,seval,Bool.false_and,Prod.mk.injEq,Wy,Ay,Az,and_self,hI,bA,q0,q1,Int.toNat_natCast,e1,e2,Nv _ n1,Ep _ _ _ _ n1,GD _ _ _ _ n3 n2];refine⟨_,sP rfl (by simp only[E8,seval]<;>rfl) (by simp only[E8,seval]<;>rfl) (gF _),.inr ⟨_,rfl,by simp;omega⟩⟩
theorem aPp (o:Option (List Int)) (hn:((ol o).length:Int)<1000000) (a:Int):aC Tryz.prog 49 [ov aJ o,.v (.int .i64 a)]=some (.v (.bool (decide (a∈ol o)))):=by
 cases o with
 | none=>rw[show ol (none:Option (List Int))=[] from rfl];simp only[List.not_mem_nil,decide_false];exact aKz a
 | some l=>exact c49 l a hn
theorem aFU (o:Option (List Int)) (hn:((ol o).length:Int)<1000000) (a:Int) (st:St) (d:Option Nat):aL (aC Tryz.prog) 49 [ov aJ o,.v (.int .i64 a)] st d=some { dst:=d,val:=.v (.bool (decide (a∈ol o)))}:=bK (bH (bS o) (.v _)) (aPp o hn a) (.v _)
theorem aPq (t:uU) (L:Option (List kS)) (Q:Option (List Int)) (hL:t.dQ=ov cU L) (hQ:t.gZ=ov aJ Q) (nL:((ol L).length:Int)<1000000) (nQ:((ol Q).length:Int)<1000000)
 (B:Option (List Int)) (nB:((ol B).length:Int)<1000000) (R:Option (List cK)) (nR:((ol R).length:Int)<1000000) :
 ∃r,aC Tryz.prog 248 [.agg (eX t),ov bD B,ov gM R]=some r∧∃a:Int,r=.v (.int .u64 a):=by
 rw[cL Tryz.func248 rfl aKA (by cases B<;>cases R<;>rfl)]
 simp only[Z8,seval];refine cM (fun m st=>∃(k:Nat) (a:Int),(st.env 1=ov bD B∧st.env 2=ov gM R∧st.env 3=.ptr 3 0 0∧st.heap 3 0=some (.cells (eX t))∧st.env 7=.v (.int .u64 a)∧st.env 8=.v (.int .i64 k))∧k≤(ol B).length∧m=(ol B).length-k)
  (fun e st=>e=.exit 0∧∃a:Int,st.env 7=.v (.int .u64 a)) (ol B).length ?step ?start ?rest
 case step =>
  rintro m st ⟨k,a,hI,hk,hm⟩
  by_cases bA:(k:Int)<(ol B).length
  ·have q0:(0:Int)≤k:=by omega
   have hw:IntKind.i64.wrap ((k:Int)+1)=((k+1:Nat):Int):=by rw[pR _ (by omega) (by omega)];omega
   by_cases h1:(k:Int)<(ol L).length
   ·cases h2:(gx sD (ol L) (k:Int)).has
    ·apply oN ((ol B).length-(k+1))
     ·simp only[Z8,seval,hI,bA,q0,hL,hQ,h1,h2,hw];rfl
     ·exact⟨k+1,_,by simp only[E8,seval,hI]<;>rfl,by omega,rfl⟩
    ·by_cases h3:(k:Int)∈ol Q
     ·apply oN ((ol B).length-(k+1))
      ·simp only[Z8,seval,hI,bA,q0,hL,hQ,h1,h2,aFU Q nQ,h3,decide_true,hw];rfl
      ·exact⟨k+1,_,by simp only[E8,seval,hI]<;>rfl,by omega,rfl⟩
     ·cases h4:aFT R (gx sD (ol L) (k:Int)).root
      all_goals
       refine oV (st':=?_) ?_ ((ol B).length-(k+1)) (by omega) ?_
       rotate_left
       ·simp only[Z8,seval,hI,bA,q0,hL,hQ,h1,h2,aFU Q nQ,h3,decide_false,aPn R nR,h4,hw];rfl
       ·exact⟨k+1,_,by simp only[E8,seval,hI]<;>rfl,by omega,rfl⟩
   ·apply oT (.exit 0)
    ·simp only[Z8,seval,hI,bA,q0,hL,h1];rfl
    ·exact⟨rfl,a,by simp only[E8,seval,hI]⟩
  ·apply oT (.exit 0)
   ·simp only[Z8,seval,hI,bA];rfl
   ·exact⟨rfl,a,by simp only[E8,seval,hI]⟩
 case start=>exact⟨0,0,by simp only[E8,seval]<;>rfl,by omega,by omega⟩
 case rest =>
  rintro e st ⟨rfl,a,h⟩
  simp only[Z8,seval,h];exact⟨_,bW rfl (by simp only[E8,seval,h]<;>rfl) (by first|exact .v _|simp only[dW,h]),_,rfl⟩
theorem aPr (ns:List Node) (hn:(ns.length:Int)<1000000) (l:List Int) (hl:l.length=ns.length) (r:cK) (a:Int):∃x,aC Tryz.prog 243 [.agg (cX ⟨ns⟩),.sl l.length (bD l),.agg (aX r),.v (.int .u64 a)]=some x∧∃m:List Int,x=.uniq 23 1 m.length (bD m)∧m.length=ns.length:=by
 have Gl:(l.length:Int)<1000000:=by omega
 have rr:=fY ns r
 rw[cL Tryz.func243 rfl aKB rfl];by_cases g1:0≤aN ns r
 case neg =>
  simp only[Z8,seval,Eo _ Gl,mT _ _ hn,g1];exact⟨_,sP rfl (by simp only[E8,seval]<;>rfl) (by simp only[E8,seval]<;>rfl) (iE _),l,rfl,hl⟩
 by_cases g2:(nd ns (aN ns r)).status=2
 ·simp only[Z8,seval,Eo _ Gl,mT _ _ hn,g1,rr,bt g2];exact⟨_,sP rfl (by simp only[E8,seval]<;>rfl) (by simp only[E8,seval]<;>rfl) (iE _),l,rfl,hl⟩
 by_cases g3:r=dL
 ·subst g3;simp only[Z8,seval,Eo _ Gl,mT _ _ hn,g1,rr,bf g2];exact⟨_,sP rfl (by simp only[E8,seval]<;>rfl) (by simp only[E8,seval]<;>rfl) (iE _),l,rfl,hl⟩
 have q1:aN ns r<(l.length:Int):=by omega
 have q2:(aN ns r).toNat<l.length:=by omega
 have q3:(aN ns r).toNat+1≤l.length:=by omega
 have hy:=A1 g1 q1
 have Wa:∀z:Int,dK (bD l) (aN ns r).toNat [.v (.int .u64 z)] ((aN ns r).toNat+1)=bD (l.set (aN ns r).toNat z):=fun z=>by
  have:=O2 l (aN ns r) z q2
  simpa using this
 have ld:=O3 (T:=23) (n:=l.length) (k:=1) g1 q1 TK (by decide) (by decide)
 rw[Nat.mul_one] at ld;simp only[Z8,seval,Eo _ Gl,mT ns r hn,g1,rr,bf g2,g3,q1,q2,q3,hy,Wa,ld,Nat.mul_one];exact⟨_,sP rfl (by simp only[E8,seval]<;>rfl) (by simp only[E8,seval]<;>rfl) (iE _),_,by rw[List.length_set],by rw[List.length_set];exact hl⟩
theorem aBY (r:cK):gM [r]=aX r:=by simp[gM]
theorem O4 (r:cK):jH (some (.row 27 32 1 (aX r)))=some (.sl 1 (gM [r])):=by rw[← aBY];exact wA 1 [r]
noncomputable def aKC (t:uU) (B:Option (List Int)) (r:cK):Int:=if h:∃a:Int,aC Tryz.prog 248 [.agg (eX t),ov bD B,ov gM (some [r])]=some (.v (.int .u64 a)) then Classical.choose h else 0
theorem aKD (t:uU) (L:Option (List kS)) (Q:Option (List Int)) (hL:t.dQ=ov cU L) (hQ:t.gZ=ov aJ Q) (nL:((ol L).length:Int)<1000000) (nQ:((ol Q).length:Int)<1000000)
 (B:Option (List Int)) (nB:((ol B).length:Int)<1000000) (r:cK) (s g:Nat) (st:St) (d:Option Nat) (hh:st.heap s g=some (.row 27 32 1 (aX r))) :
 aL (aC Tryz.prog) 248 [.agg (eX t),ov bD B,.own s g] st d=some { dst:=d,val:=.v (.int .u64 (aKC t B r))}:=by
 obtain⟨x,hx,a,rfl⟩:=aPq t L Q hL hQ nL nQ B nB (some [r]) (by simp[ol])
 have he:∃a:Int,aC Tryz.prog 248 [.agg (eX t),ov bD B,ov gM (some [r])]=some (.v (.int .u64 a)):=⟨a,hx⟩
 have hf:Flat (.agg (eX t)):=(Nj t).2 ⟨by rw[hL];exact qQ L,by rw[hQ];exact bS Q⟩
 rw[show aKC t B r=Classical.choose he from dif_pos he];rw[lF,List.map_cons,List.map_cons,List.map_cons,List.map_nil,dP hf,dP (dR B),vJ,hh,O4,bP,bP,bP,gL];exact Ss (Classical.choose_spec he)
theorem aPs (ns:List Node) (hn:(ns.length:Int)<1000000) (h0:0<ns.length) (t:uU) (L:Option (List kS)) (Q:Option (List Int)) (hL:t.dQ=ov cU L) (hQ:t.gZ=ov aJ Q) (nL:((ol L).length:Int)<1000000) (nQ:((ol Q).length:Int)<1000000)
 (B:Option (List Int)) (nB:((ol B).length:Int)<1000000) :
 ∃x,aC Tryz.prog 241 [.agg (cX ⟨ns⟩),.agg (eX t),ov bD B]=some x∧∃m:List Int,x=.uniq 23 1 m.length (bD m)∧m.length=ns.length:=by
 have kw:=fun r g=>aKD t L Q hL hQ nL nQ B nB r 33 g
 rw[cL Tryz.func241 rfl aKE (by cases B<;>rfl)]
 simp only[Z8,seval];refine cM (fun m st=>∃k:Nat,(st.env 3=.ptr 3 0 0∧st.heap 3 0=some (.cells (cX ⟨ns⟩))∧st.env 4=.ptr 4 0 0∧st.heap 4 0=some (.cells (eX t))∧st.env 2=ov bD B∧st.env 8=.v (.int .i64 k))∧((k=0∧st.env 7=.v (.slice none 0 0))∨∃(l:List Int) (g:Nat),st.env 7=.own 38 g∧g<st.aP 38∧st.heap 38 g=some (.row 23 1 l.length (bD l))∧l.length=k)∧k≤ns.length∧m=ns.length-k)
  (fun e st=>e=.exit 0∧∃(l:List Int) (g:Nat),st.env 7=.own 38 g∧st.heap 38 g=some (.row 23 1 l.length (bD l))∧l.length=ns.length) ns.length ?step ?start ?rest
 case step =>
  rintro m st ⟨k,hI,h7,hk,hm⟩
  by_cases bA:(k:Int)<ns.length
  ·have q0:(0:Int)≤k:=by omega
   have hw:IntKind.i64.wrap ((k:Int)+1)=((k+1:Nat):Int):=by rw[pR _ (by omega) (by omega)];omega
   by_cases h1:(nd ns k).status=2
   ·rcases h7 with ⟨uQ,h7⟩|⟨l,g,h7,hg,Gc,hl⟩
    ·apply oN (ns.length-(k+1))
     ·simp only[Z8,seval,hI,h7,bA,q0,bt h1,hw];rfl
     ·exact⟨k+1,by simp only[E8,seval,hI],.inr ⟨[0],st.aP 38,by simp only[E8,seval]<;>rfl,by simp only[E8,seval]<;>omega,by simp only[E8,seval]<;>rfl,by simp;omega⟩,by omega,rfl⟩
    ·have nl:(l.length:Int)<1000000:=by omega
     apply oN (ns.length-(k+1))
     ·simp only[Z8,seval,hI,h7,Gc,bA,q0,bt h1,hw,xV _ _ _ _ nl];rfl
     ·exact⟨k+1,by simp only[E8,seval,hI],.inr ⟨_,st.aP 38,by simp only[E8,seval]<;>rfl,by simp only[E8,seval]<;>omega,by simp only[E8,seval]<;>rfl,by rw[List.length_append];simp;omega⟩,by omega,rfl⟩
   ·rcases h7 with ⟨uQ,h7⟩|⟨l,g,h7,hg,Gc,hl⟩
    ·apply oN (ns.length-(k+1))
     ·simp only[Z8,seval,hI,h7,bA,q0,bf h1,kw (nd ns k).block.root,hw];rfl
     ·exact⟨k+1,by simp only[E8,seval,hI],.inr ⟨[_],st.aP 38,by simp only[E8,seval]<;>rfl,by simp only[E8,seval]<;>omega,by simp only[E8,seval]<;>rfl,by simp;omega⟩,by omega,rfl⟩
    ·have nl:(l.length:Int)<1000000:=by omega
     apply oN (ns.length-(k+1))
     ·simp only[Z8,seval,hI,h7,Gc,bA,q0,bf h1,kw (nd ns k).block.root,hw,xV _ _ _ _ nl];rfl
     ·exact⟨k+1,by simp only[E8,seval,hI],.inr ⟨_,st.aP 38,by simp only[E8,seval]<;>rfl,by simp only[E8,seval]<;>omega,by simp only[E8,seval]<;>rfl,by rw[List.length_append];simp;omega⟩,by omega,rfl⟩
  ·have Eh:k=ns.length:=by omega
   rcases h7 with ⟨uQ,h7⟩|⟨l,g,h7,hg,Gc,hl⟩
   ·omega
   ·apply oT (.exit 0)
    ·simp only[Z8,seval,hI,bA];rfl
    ·exact⟨rfl,l,g,by simp only[E8,seval,h7],by simp only[E8,seval,Gc],by omega⟩
 case start=>exact⟨0,by simp only[E8,seval]<;>rfl,.inl ⟨rfl,by simp only[E8,seval]⟩,by omega,by omega⟩
 case rest =>
  rintro e st ⟨rfl,l,g,h7,Gc,hl⟩
  simp only[Z8,seval,h7];exact⟨_,sP rfl (by simp only[E8,seval,h7]<;>rfl) (by simp only[E8,seval,Gc]<;>rfl) (iE _),l,rfl,hl⟩
theorem aPt (ns:List Node) (hu:iD ns) (hn:(ns.length:Int)<1000000) (h0:0<ns.length) (l:List Int) (hl:l.length=ns.length) :
 ∃x,aC Tryz.prog 242 [.agg (cX ⟨ns⟩),.sl l.length (bD l)]=some x∧∃m:List Int,x=.uniq 23 1 m.length (bD m)∧m.length=ns.length:=by
 rw[cL Tryz.func242 rfl aKF rfl];simp only[Z8,seval];refine cM (fun m st=>∃k:Nat,(st.env 2=.ptr 2 0 0∧st.heap 2 0=some (.cells (cX ⟨ns⟩))∧st.env 1=.sl l.length (bD l)∧st.env 6=.v (.int .i64 k))∧((k=0∧st.env 5=.v (.slice none 0 0))∨∃(l:List Int) (g:Nat),st.env 5=.own 38 g∧g<st.aP 38∧st.heap 38 g=some (.row 23 1 l.length (bD l))∧l.length=k)∧k≤ns.length∧m=ns.length-k)
  (fun e st=>e=.exit 0∧∃(l:List Int) (g:Nat),st.env 5=.own 38 g∧st.heap 38 g=some (.row 23 1 l.length (bD l))∧l.length=ns.length) ns.length ?step ?start ?rest
 case step =>
  rintro m st ⟨k,hI,h5,hk,hm⟩
  by_cases bA:(k:Int)<ns.length
  ·have q0:(0:Int)≤k:=by omega
   have hw:IntKind.i64.wrap ((k:Int)+1)=((k+1:Nat):Int):=by rw[pR _ (by omega) (by omega)];omega
   have kd:=k64 ns hu hn k (SP hu q0 bA ns.length bA)
   have hrg:=YC ns k
   have hdl:=Uv ns k ns.length
   obtain⟨D,hD⟩:∃D,Gd ns k ns.length=D:=⟨_,rfl⟩
   rw[hD] at kd hrg hdl;simp only[Z8,seval,hI,bA,q0,kd];refine o0 (fun mm st'=>∃(j:Nat) (a:Int),(st'.env 2=.ptr 2 0 0∧st'.heap 2 0=some (.cells (cX ⟨ns⟩))∧st'.env 1=.sl l.length (bD l)∧st'.env 6=.v (.int .i64 k)∧st'.env 5=st.env 5∧st'.aP 38=st.aP 38∧(∀g,st'.heap 38 g=st.heap 38 g)∧st'.env 7=.v (.int .u64 a)∧st'.env 8=.own 19 (st.aP 19)∧st'.heap 19 (st.aP 19)=some (.row 3 1 D.length (aJ D))∧st'.env 9=.v (.int .i64 j))∧j≤D.length∧mm=D.length-j)
    (fun e st'=>e=.exit 2∧∃a:Int,(st'.env 2=.ptr 2 0 0∧st'.heap 2 0=some (.cells (cX ⟨ns⟩))∧st'.env 1=.sl l.length (bD l)∧st'.env 6=.v (.int .i64 k)∧st'.env 5=st.env 5∧st'.aP 38=st.aP 38∧(∀g,st'.heap 38 g=st.heap 38 g)∧st'.env 7=.v (.int .u64 a))) D.length ?O5 ?TT ?ME
   case O5 =>
    rintro mm st' ⟨j,a,hJ,hj,hmm⟩
    by_cases hjl:(j:Int)<D.length
    ·have p0:(0:Int)≤j:=by omega
     have hw2:IntKind.i64.wrap ((j:Int)+1)=((j+1:Nat):Int):=by rw[pR _ (by omega) (by omega)];omega
     obtain⟨hjt,hje⟩:=xA p0 hjl
     have hx:=hrg _ (List.getElem_mem hjt)
     rw[← hje] at hx;have x0:=hx.1
     have x1:it D j<(l.length:Int):=by omega
     have gi:=pD p0 hjl
     apply oN (D.length-(j+1))
     ·simp only[Z8,seval,hJ,hjl,p0,x0,x1,gi,hw2];rfl
     ·exact⟨j+1,IntKind.u64.wrap (a+gx (0:Int) l (it D j)),by simp only[E8,seval,hJ,implies_true,and_self],by omega,rfl⟩
    ·apply oT (.exit 2)
     ·simp only[Z8,seval,hJ,hjl];rfl
     ·exact⟨rfl,a,by simp only[E8,seval,hJ,implies_true,and_self]⟩
   case TT=>exact⟨0,0,by simp only[E8,seval,hI,implies_true,and_self]<;>rfl,by omega,by omega⟩
   case ME =>
    rintro e st' ⟨rfl,a,hJ⟩
    obtain⟨j2,j2',j1,j6,j5,jc,jh,j7⟩:=hJ
    rcases h5 with ⟨uQ,h5⟩|⟨l',g,h5,hg,Ae,Gl⟩
    ·rw[h5] at j5;refine M0 (st':=?s3) ?h3 (ns.length-(k+1)) (by omega) ?q3
     case h3 =>
      simp only[Z8,seval,j2,j2',j1,j6,j5,jc,j7,hw];rfl
     case q3=>exact⟨k+1,by simp only[E8,seval,j2,j2',j1],.inr ⟨[a],st.aP 38,by simp only[E8,seval,jc]<;>rfl,by simp only[E8,seval,jc]<;>omega,by simp only[E8,seval,jc]<;>rfl,by simp;omega⟩,by omega,rfl⟩
    ·rw[h5] at j5;have nl:(l'.length:Int)<1000000:=by omega
     have jhh:=jh g
     rw[Ae] at jhh;refine M0 (st':=?s4) ?h4 (ns.length-(k+1)) (by omega) ?q4
     case h4 =>
      simp only[Z8,seval,j2,j2',j1,j6,j5,jc,jhh,j7,hw,xV _ _ _ _ nl];rfl
     case q4=>exact⟨k+1,by simp only[E8,seval,j2,j2',j1],.inr ⟨l'++[a],st.aP 38,by simp only[E8,seval,jc]<;>rfl,by simp only[E8,seval,jc]<;>omega,by simp only[E8,seval,jc]<;>rfl,by rw[List.length_append];simp;omega⟩,by omega,rfl⟩
  ·have Eh:k=ns.length:=by omega
   rcases h5 with ⟨uQ,h5⟩|⟨l,g,h5,hg,Ae,hl⟩
   ·omega
   ·apply oT (.exit 0)
    ·simp only[Z8,seval,hI,bA];rfl
    ·exact⟨rfl,l,g,by simp only[E8,seval,h5],by simp only[E8,seval,Ae],by omega⟩
 case start=>exact⟨0,by simp only[E8,seval]<;>rfl,.inl ⟨rfl,by simp only[E8,seval]⟩,by omega,by omega⟩
 case rest =>
  rintro e st ⟨rfl,l,g,h5,Ae,hl⟩
  simp only[Z8,seval,h5];exact⟨_,sP rfl (by simp only[E8,seval,h5]<;>rfl) (by simp only[E8,seval,Ae]<;>rfl) (iE _),l,rfl,hl⟩
theorem aPu {s:aO} {v:SV} {q:Int} (h:GI s v q):∃x,aC Tryz.prog 223 [.agg (aB s)]=some x∧∃m:List Int,x=.uniq 23 1 m.length (bD m)∧m.length=v.ns.length:=by
 have hf:=h.sd.flat
 have hn:=h.sd.nn
 obtain⟨r1,e1,o,rfl,ho⟩:=aPj h.sd
 have k239:=kx e1 (cV hf) (dR o)
 obtain⟨r2,e2,a,c,rfl,_⟩:=aKa o ho
 have y7:=kx e2 (cV (dR o)) (.eN _ (bH (.v _) (.v _)))
 have hcb:Flat s.cFg.jN:=h.sd.fl.1
 obtain⟨r3,e3,a3,c3,rfl⟩:=aPm s.cFg hcb a
 have k240:=kx e3 (bH ((yI _).2 hcb) (.v _)) (.eN _ (bH (.v _) (.v _)))
 obtain⟨r4,e4,m1,rfl,hm1⟩:=aPs v.ns hn h.pos s.gG v.L v.Q h.sd.dQ h.sd.gZ h.sd.nL h.sd.nQ o ho
 have hfv:Flat (.agg (eX s.gG)):=(Nj _).2 ⟨h.sd.fl.2.1,h.sd.fl.2.2.1⟩
 have k241:∀(st:St),aL (aC Tryz.prog) 241 [.agg (cX ⟨v.ns⟩),.agg (eX s.gG),ov bD o] st (some 28)=_:=fun st=>jF (st:=st) (d:=28) (nD (nC _) hfv (dR o)) e4
 obtain⟨r5,e5,m2,rfl,hm2⟩:=aPr v.ns hn m1 hm1 s.iI a3
 have k243:∀(st:St) (g:Nat),st.heap 28 g=some (.row 23 1 m1.length (bD m1))→aL (aC Tryz.prog) 243 [.agg (cX ⟨v.ns⟩),.own 28 g,.agg (aX s.iI),.v (.int .u64 a3)] st (some 37)=some { dst:=some 37,val:=.own 37 (st.aP 37),new:=some (37,[.row 23 1 m2.length (bD m2)])}:=by
  intro st g hh;rw[lF,List.map_cons,List.map_cons,List.map_cons,List.map_cons,List.map_nil,Iw,vJ,hh,vI,Qt,Ld,bP,bP,bP,bP,gL];exact O6 e5 (DF m2)
 obtain⟨r6,e6,m3,rfl,hm3⟩:=aPt v.ns h.up hn h.pos m2 hm2
 have k242:∀(st:St) (g:Nat),st.heap 37 g=some (.row 23 1 m2.length (bD m2))→aL (aC Tryz.prog) 242 [.agg (cX ⟨v.ns⟩),.own 37 g] st (some 38)=some { dst:=some 38,val:=.own 38 (st.aP 38),new:=some (38,[.row 23 1 m3.length (bD m3)])}:=by
  intro st g hh;rw[lF,List.map_cons,List.map_cons,List.map_nil,Iw,vJ,hh,vI,bP,bP,gL];exact O6 e6 (DF m3)
 rw[cL Tryz.func223 rfl aKG rfl];simp only[Z8,seval,k239,y7,eB,k240,h.sd.tree,k241,k243,k242];exact⟨_,sP rfl (by simp only[E8,seval]<;>rfl) (by simp only[E8,seval]<;>rfl) (iE _),m3,rfl,hm3⟩
noncomputable def BB (s:aO) (v:SV) (i:Int):fS:=if 0≤i∧i<v.ns.length then (if Dv s (nd v.ns i).block.slot<Dv s s.now then (nd v.ns i).block.dS.pj else (nd v.ns i).block.hU) else iA
theorem aPv {s:aO} {v:SV} (hs:SD s v) (hp:s.cFg.qS≠0) (i:Int):aC Tryz.prog 252 [.agg (aB s),.v (.int .i64 i)]=some (.agg (bY (BB s v i))):=by
 have hf:=hs.flat
 rw[cL Tryz.func252 rfl aKH rfl];refine jG ?_
 by_cases g1:0≤i
 case neg =>
  have hv:BB s v i=iA:=if_neg (fun h=>g1 h.1)
  simp only[Z8,seval,Wn hs,g1,Bool.false_and];exact⟨_,fL rfl (by simp only[E8,seval]<;>rfl) (by simp only[Z8,seval]<;>rfl) (by simp only[dW,and_self]),by rw[hv]⟩
 by_cases g2:i<(v.ns.length:Int)
 case neg =>
  have hv:BB s v i=iA:=if_neg (fun h=>g2 h.2)
  simp only[Z8,seval,Wn hs,g1,g2,Bool.and_false];exact⟨_,fL rfl (by simp only[E8,seval]<;>rfl) (by simp only[Z8,seval]<;>rfl) (by simp only[dW,and_self]),by rw[hv]⟩
 by_cases g3:Dv s (nd v.ns i).block.slot<Dv s s.now
 ·have hv:BB s v i=(nd v.ns i).block.dS.pj:=by unfold BB;rw[if_pos ⟨g1,g2⟩,if_pos g3]
  simp only[Z8,seval,Wn hs,g1,g2,hs.tree,Mp s hp hf,g3];exact⟨_,fL rfl (by simp only[E8,seval]<;>rfl) (by simp only[Z8,seval]<;>rfl) (by simp only[dW,and_self]),by rw[hv]⟩
 ·have hv:BB s v i=(nd v.ns i).block.hU:=by unfold BB;rw[if_pos ⟨g1,g2⟩,if_neg g3]
  simp only[Z8,seval,Wn hs,g1,g2,hs.tree,Mp s hp hf,g3];exact⟨_,fL rfl (by simp only[E8,seval]<;>rfl) (by simp only[Z8,seval]<;>rfl) (by simp only[dW,and_self]),by rw[hv]⟩
theorem aB0 {s:aO} {v:SV} (hs:SD s v) (hp:s.cFg.qS≠0) (i:Int) (st:St) (d:Option Nat):aL (aC Tryz.prog) 252 [.agg (aB s),.v (.int .i64 i)] st d=some { dst:=d,val:=.agg (bY (BB s v i))}:=bK (bH hs.flat (.v _)) (aPv hs hp i) (.agg _ (dC _))
theorem aKI {s:aO} {v:SV} (hs:SD s v) (hp:s.cFg.qS≠0) (i:Int):∃r,aC Tryz.prog 249 [.agg (aB s),.v (.int .i64 i)]=some r∧∃b:Bool,r=.v (.bool b):=by
 have hf:=hs.flat
 rw[cL Tryz.func249 rfl aKJ rfl];by_cases g1:0≤i
 case neg =>
  simp only[Z8,seval,Wn hs,g1,Bool.false_and];exact⟨_,bW rfl (by simp only[E8,seval]<;>rfl) (by first|exact .v _|simp only[dW]),_,rfl⟩
 by_cases g2:i<(v.ns.length:Int)
 case neg =>
  simp only[Z8,seval,Wn hs,g1,g2,Bool.and_false];exact⟨_,bW rfl (by simp only[E8,seval]<;>rfl) (by first|exact .v _|simp only[dW]),_,rfl⟩
 by_cases g3:(nd v.ns i).status=2
 ·simp only[Z8,seval,Wn hs,g1,g2,hs.tree,bt g3];exact⟨_,bW rfl (by simp only[E8,seval]<;>rfl) (by first|exact .v _|simp only[dW]),_,rfl⟩
 by_cases g4:s.bM.hU.aK=0
 ·simp only[Z8,seval,Wn hs,g1,g2,hs.tree,bf g3,aB0 hs hp,bt g4];exact⟨_,bW rfl (by simp only[E8,seval]<;>rfl) (by first|exact .v _|simp only[dW]),_,rfl⟩
 by_cases g5:(BB s v i).aK=s.bM.hU.aK
 ·simp only[Z8,seval,Wn hs,g1,g2,hs.tree,bf g3,aB0 hs hp,bf g4,bt g5];exact⟨_,bW rfl (by simp only[E8,seval]<;>rfl) (by first|exact .v _|simp only[dW]),_,rfl⟩
 by_cases g6:Dv s s.now≤(BB s v i).aK
 ·simp only[Z8,seval,Wn hs,g1,g2,hs.tree,bf g3,aB0 hs hp,bf g4,bf g5,Mp s hp hf,g6];exact⟨_,bW rfl (by simp only[E8,seval]<;>rfl) (by first|exact .v _|simp only[dW]),_,rfl⟩
 ·simp only[Z8,seval,Wn hs,g1,g2,hs.tree,bf g3,aB0 hs hp,bf g4,bf g5,Mp s hp hf,g6];exact⟨_,bW rfl (by simp only[E8,seval]<;>rfl) (by first|exact .v _|simp only[dW]),_,rfl⟩
theorem aFW (ns:List Node) (i x:Int):∀k:Nat,x∈Su ns i k→(0≤x∧x<k)∧(nd ns x).up=i:=by
 intro k;induction k with
 | zero=>intro h;simp[Su] at h
 | succ k ih =>
   intro h;unfold Su at h;split at h
   ·rename_i hc;rcases List.mem_append.1 h with h|h
    ·have:=ih h;omega
    ·have hx:=List.mem_singleton.1 h
     subst hx;exact⟨by omega,hc⟩
   ·have:=ih h;omega
theorem GF {ns:List Node} (hu:iD ns) (hr:(nd ns 0).up=-1) {i x:Int} (h:x∈wG ns i):i<x∧0≤x∧x<ns.length:=by
 unfold wG at h;split at h
 ·simp at h
 ·rename_i hi;obtain⟨⟨x0,x1⟩,Wa⟩:=aFW ns i x _ h
  by_cases hx:x=0
  ·subst hx;rw[hr] at Wa;omega
  ·have:=(hu x (by omega) x1).2;omega
theorem aKK {s:aO} {v:SV} (hs:SD s v) (hu:iD v.ns) (hr:(nd v.ns 0).up=-1) (hp:s.cFg.qS≠0):∀(n:Nat) (i:Int),((v.ns.length:Int)-i).toNat≤n→∃b:Bool,aC Tryz.prog 244 [.agg (aB s),.v (.int .i64 i)]=some (.v (.bool b)):=by
 have base:∀(i:Int),wG v.ns i=[]→∃b:Bool,aC Tryz.prog 244 [.agg (aB s),.v (.int .i64 i)]=some (.v (.bool b)):=by
  intro i hc;obtain⟨r,hr9,b,rfl⟩:=aKI hs hp i
  have O7:=kx hr9 (bH hs.flat (.v _)) (.v _)
  have kc:=fun st d=>aEn v.ns hu hr hs.nn i hc st d
  suffices h:∃r,aC Tryz.prog 244 [.agg (aB s),.v (.int .i64 i)]=some r∧∃b:Bool,r=.v (.bool b) by
   obtain⟨r,h,b,rfl⟩:=h;exact⟨b,h⟩
  rw[cL Tryz.func244 rfl aEz rfl];cases b
  ·simp only[Z8,seval,O7,hs.tree,kc];refine cM (fun m st=>st.env 5=.v (.slice none 0 0)∧st.env 6=.v (.int .i64 0)∧m=0) (fun e st=>e=.exit 0) 0 ?step ?start ?rest
   case step =>
    rintro m st ⟨h5,h6,_⟩
    apply oT (.exit 0)
    ·simp only[Z8,seval,h5,h6,Int.lt_irrefl];rfl
    ·exact rfl
   case start=>exact⟨by simp only[E8,seval]<;>rfl,by simp only[E8,seval]<;>rfl,rfl⟩
   case rest =>
    rintro e st rfl
    simp only[Z8,seval];exact⟨_,bW rfl (by simp only[E8,seval]<;>rfl) (by first|exact .v _|simp only[dW]),_,rfl⟩
  ·simp only[Z8,seval,O7];exact⟨_,bW rfl (by simp only[E8,seval]<;>rfl) (by first|exact .v _|simp only[dW]),_,rfl⟩
 intro n;induction n with
 | zero =>
   intro i hi;exact base i (LH hu hr (by omega))
 | succ n ih =>
   intro i hi;by_cases hc:wG v.ns i=[]
   ·exact base i hc
   obtain⟨r,hr9,b,rfl⟩:=aKI hs hp i
   have O7:=kx hr9 (bH hs.flat (.v _)) (.v _)
   have kc:=fun st d=>aJC v.ns hu hr hs.nn i hc st d
   have hB:∀x:Int,∃b:Bool,x∈wG v.ns i→aC Tryz.prog 244 [.agg (aB s),.v (.int .i64 x)]=some (.v (.bool b)):=by
    intro x;by_cases hx:x∈wG v.ns i
    ·have:=GF hu hr hx
     obtain⟨b,hb⟩:=ih x (by omega)
     exact⟨b,fun _=>hb⟩
    ·exact⟨false,fun h=>absurd h hx⟩
   obtain⟨B,hB⟩:∃B:Int→Bool,∀x,x∈wG v.ns i→aC Tryz.prog 244 [.agg (aB s),.v (.int .i64 x)]=some (.v (.bool (B x))):=⟨fun x=>Classical.choose (hB x),fun x=>Classical.choose_spec (hB x)⟩
   have hgt:∀x∈wG v.ns i,i<x∧0≤x∧x<v.ns.length:=fun x hx=>GF hu hr hx
   have hin:((wG v.ns i).length:Int)<1000000:=by
    have h1:(wG v.ns i).length≤v.ns.length:=by
     unfold wG;split
     ·simp
     ·exact Uw v.ns i v.ns.length
    have:=hs.nn;omega
   obtain⟨l,el⟩:∃l,wG v.ns i=l:=⟨_,rfl⟩
   rw[el] at kc hB hin;suffices h:∃r,aC Tryz.prog 244 [.agg (aB s),.v (.int .i64 i)]=some r∧∃b:Bool,r=.v (.bool b) by
    obtain⟨r,h,b,rfl⟩:=h;exact⟨b,h⟩
   rw[cL Tryz.func244 rfl aEz rfl];cases b
   case true =>
    simp only[Z8,seval,O7];exact⟨_,bW rfl (by simp only[E8,seval]<;>rfl) (by first|exact .v _|simp only[dW]),_,rfl⟩
   simp only[Z8,seval,O7,hs.tree,kc];refine cM (fun m st=>∃k:Nat,(st.env 2=.ptr 2 0 0∧st.heap 2 0=some (.cells (aB s))∧st.env 5=.own 13 0∧st.heap 13 0=some (.row 3 1 l.length (aJ l))∧st.env 6=.v (.int .i64 k))∧(∀j:Nat,j<k→¬(B (it l (j:Int))=true))∧k≤l.length∧m=l.length-k)
    (fun e st=>(e=.ret∧∃k:Nat,k<l.length∧(B (it l (k:Int))=true)∧(∀j:Nat,j<k→¬(B (it l (j:Int))=true))∧st.env 4=.v (.bool true))∨(e=.exit 0∧(∀j:Nat,j<l.length→¬(B (it l (j:Int))=true))∧st.env 2=.ptr 2 0 0∧st.heap 2 0=some (.cells (aB s))∧st.env 5=.own 13 0∧st.heap 13 0=some (.row 3 1 l.length (aJ l)))) (l.length) ?step ?start ?rest
   case step =>
    rintro m st ⟨k,hI,hj,hk,hm⟩
    by_cases bA:(k:Int)<l.length
    ·have q0:(0:Int)≤k:=by omega
     have hw:IntKind.i64.wrap ((k:Int)+1)=((k+1:Nat):Int):=by rw[pR _ (by omega) (by omega)];omega
     have gi:=pD q0 bA
     have hm2:it l (k:Int)∈l:=by obtain⟨h1,h2⟩:=xA q0 bA;rw[h2];exact List.getElem_mem h1
     have kb:=kx (hB _ hm2) (bH hs.flat (.v _)) (.v _)
     by_cases hh:B (it l (k:Int))=true
     ·apply oT (.ret)
      ·simp only[Z8,seval,hI,bA,q0,kb,gi,hh];rfl
      ·exact .inl ⟨rfl,k,by omega,hh,hj,by simp only[E8,seval,kb,gi]⟩
     ·have hn:B (it l (k:Int))=false:=by simpa using hh
      apply oN (l.length-(k+1))
      ·simp only[Z8,seval,hI,bA,q0,kb,gi,hn,hw];rfl
      ·exact⟨k+1,by simp only[E8,seval,hI],fun j h=>(Nat.lt_succ_iff_lt_or_eq.1 h).elim (hj j) fun e=>by subst e;exact hh,by omega,rfl⟩
    ·apply oT (.exit 0)
     ·simp only[Z8,seval,hI,bA,bA];rfl
     ·exact .inr ⟨rfl,fun j h=>hj j (by omega),by simp only[E8,seval,hI]⟩
   case start=>exact⟨0,by simp only[E8,seval]<;>rfl,fun j h=>by omega,by omega,by omega⟩
   case rest =>
    rintro e st (⟨rfl,k,hk,hh,hj,h⟩|⟨rfl,hj,hI⟩)
    ·simp only[Z8,seval];exact⟨_,bW rfl (by simp only[E8,seval,h]<;>rfl) (by first|exact .v _|simp only[dW,h]),_,rfl⟩
    ·simp only[Z8,seval];exact⟨_,bW rfl (by simp only[E8,seval]<;>rfl) (by first|exact .v _|simp only[dW]),_,rfl⟩
theorem aPy {s:aO} {v:SV} {q:Int} (h:GI s v q):∃x,aC Tryz.prog 224 [.agg (aB s)]=some x∧∃m:List Bool,x=.uniq 4 1 m.length (mX m)∧m.length=v.ns.length:=by
 have hn:=h.sd.nn
 have h0:=h.pos
 obtain⟨B,hB⟩:∃B:Int→Bool,∀x,aC Tryz.prog 244 [.agg (aB s),.v (.int .i64 x)]=some (.v (.bool (B x))):=⟨fun x=>Classical.choose (aKK h.sd h.up h.LD h.sp _ x (Nat.le_refl _)),fun x=>Classical.choose_spec (aKK h.sd h.up h.LD h.sp _ x (Nat.le_refl _))⟩
 have kb:∀(x:Int) (st:St) (d:Option Nat),aL (aC Tryz.prog) 244 [.agg (aB s),.v (.int .i64 x)] st d=some { dst:=d,val:=.v (.bool (B x))}:=fun x=>kx (hB x) (bH h.sd.flat (.v _)) (.v _)
 rw[cL Tryz.func224 rfl aKL rfl];simp only[Z8,seval];refine cM (fun m st=>∃k:Nat,(st.env 1=.ptr 1 0 0∧st.heap 1 0=some (.cells (aB s))∧st.env 4=.v (.int .i64 k))∧((k=0∧st.env 3=.v (.slice none 0 0))∨∃(l:List Bool) (g:Nat),st.env 3=.own 18 g∧g<st.aP 18∧st.heap 18 g=some (.row 4 1 l.length (mX l))∧l.length=k)∧k≤v.ns.length∧m=v.ns.length-k)
  (fun e st=>e=.exit 0∧∃(l:List Bool) (g:Nat),st.env 3=.own 18 g∧st.heap 18 g=some (.row 4 1 l.length (mX l))∧l.length=v.ns.length) v.ns.length ?step ?start ?rest
 case step =>
  rintro m st ⟨k,hI,h5,hk,hm⟩
  by_cases bA:(k:Int)<v.ns.length
  ·have q0:(0:Int)≤k:=by omega
   have hw:IntKind.i64.wrap ((k:Int)+1)=((k+1:Nat):Int):=by rw[pR _ (by omega) (by omega)];omega
   rcases h5 with ⟨uQ,h5⟩|⟨l',g,h5,hg,Ae,Gl⟩
   ·apply oN (v.ns.length-(k+1))
    ·simp only[Z8,seval,hI,h5,bA,q0,h.sd.tree,kb,hw];rfl
    ·exact⟨k+1,by simp only[E8,seval,hI],.inr ⟨[B k],st.aP 18,by simp only[E8,seval]<;>rfl,by simp only[E8,seval]<;>omega,by simp only[E8,seval]<;>rfl,by simp;omega⟩,by omega,rfl⟩
   ·have nl:(l'.length:Int)<1000000:=by omega
    apply oN (v.ns.length-(k+1))
    ·simp only[Z8,seval,hI,h5,Ae,bA,q0,h.sd.tree,kb,hw,MF _ _ _ _ nl];rfl
    ·exact⟨k+1,by simp only[E8,seval,hI],.inr ⟨l'++[B k],st.aP 18,by simp only[E8,seval]<;>rfl,by simp only[E8,seval]<;>omega,by simp only[E8,seval]<;>rfl,by rw[List.length_append];simp;omega⟩,by omega,rfl⟩
  ·have Eh:k=v.ns.length:=by omega
   rcases h5 with ⟨uQ,h5⟩|⟨l,g,h5,hg,Ae,hl⟩
   ·omega
   ·apply oT (.exit 0)
    ·simp only[Z8,seval,hI,bA,h.sd.tree];rfl
    ·exact⟨rfl,l,g,by simp only[E8,seval,h5],by simp only[E8,seval,Ae],by omega⟩
 case start=>exact⟨0,by simp only[E8,seval]<;>rfl,.inl ⟨rfl,by simp only[E8,seval]⟩,by omega,by omega⟩
 case rest =>
  rintro e st ⟨rfl,l,g,h5,Ae,hl⟩
  simp only[Z8,seval,h5];exact⟨_,sP rfl (by simp only[E8,seval,h5]<;>rfl) (by simp only[E8,seval,Ae]<;>rfl) (Sw _),l,rfl,hl⟩
theorem vK {x:AV} (h:Flat x):jE x=[]:=by
 have one:∀c,Flat c→gJ c=[]:=fun c hc=>by cases hc<;>rfl
 cases h with
 | agg cs h =>
   simp only[jE];rw[List.flatMap_eq_nil_iff];exact fun c hc=>one c (h c hc)
 | _=>rfl
theorem TU {args:List AV} (h:∀x∈args,Flat x):args.flatMap jE=[]:=List.flatMap_eq_nil_iff.2 fun x hx=>vK (h x hx)
theorem MG {call:Nat→List AV→Option AV} {g:Nat} {args:List AV} {st:St} {d:Option Nat} (h:∀x∈args,Flat x):fF call g args st d=aL call g args st d:=by
 unfold fF;rw[TU h]
theorem Hh {call:Nat→List AV→Option AV} {g:Nat} {args:List AV} {r:AV} {st:St} {d:Option Nat} (hf:∀x∈args,Flat x) (h:call g args=some r) (hr:Flat r):fF call g args st d=some { dst:=d,val:=r }:=by
 rw[MG hf];exact bK hf h hr
noncomputable def Lg (call:Nat→List AV→Option AV) (g:Nat) (xs:Option (List AV)) (s k:Nat) (st:St) (d:Option Nat):Option rC :=
 cN xs fun xs=>cN (call g xs) fun r=>Ea r st d s k
theorem Ix {call:Nat→List AV→Option AV} {g:Nat} {args:List AV} {st:St} {d:Option Nat} {s k:Nat} (hk:args.flatMap jE=[(s,k)]) (he:∀x∈args,XO x):fF call g args st d=Lg call g (cC (args.map (fK st))) s k st d:=by
 unfold fF Lg;rw[hk];simp only
 rw[if_pos he];cases cC (args.map (fK st))<;>rfl
theorem EA {call:Nat→List AV→Option AV} {g:Nat} {xs:List AV} {r:AV} {s k:Nat} {st:St} {d:Option Nat} (h:call g xs=some r) (hr:Flat r):Lg call g (some xs) s k st d=some { dst:=d,val:=r,dK:=some (s,k,none)}:=by
 unfold Lg Ea;simp only[cZ,h,if_pos hr]
theorem aB1 {call:Nat→List AV→Option AV} {g:Nat} {xs:List AV} {e sz n:Nat} {cs:List AV} {s k:Nat} {st:St} {d:Nat} (h:call g xs=some (.uniq e sz n cs)) (hm:∀c∈cs,dY c):Lg call g (some xs) s k st (some d)=some { dst:=some d,val:=.own d (st.aP d),dK:=some (s,k,none),new:=some (d,[.row e sz n cs])}:=by
 have hnf:¬Flat (.uniq e sz n cs):=by intro h;cases h
 unfold Lg Ea;simp only[cZ,h,if_neg hnf,if_pos hm]
theorem O8 {call:Nat→List AV→Option AV} {g:Nat} {args:List AV} {e sz n:Nat} {cs:List AV} {st:St} {d:Nat} (hf:∀x∈args,Flat x) (h:call g args=some (.uniq e sz n cs)):fF call g args st (some d)=some { dst:=some d,val:=.own d (st.aP d),new:=some (d,[.row e sz n cs])}:=by
 have hnf:¬Flat (.uniq e sz n cs):=by intro h;cases h
 rw[MG hf];unfold aL;rw[if_pos hf,h];simp only[cZ];unfold jA;rw[if_neg hnf];rfl
theorem Iy {st:St} {a g:Nat} {L:List Int} (hh:st.heap a g=some (.row 3 1 L.length (aJ L))):fK st (.own a g)=some (ov aJ (some L)):=by
 rw[vJ,hh];exact jV L.length L
theorem aKM (o:Option (List Int)) (hn:((ol o).length:Int)<999999) (x:Int) :
 ((∀(st:St) (d:Nat),fF (aC Tryz.prog) 235 [ov aJ o,.v (.int .i64 x)] st (some d)=some { dst:=some d,val:=ov aJ o }) ∧
  ∀(st:St) (d a g:Nat) (L:List Int),o=some L→st.heap a g=some (.row 3 1 L.length (aJ L))→fF (aC Tryz.prog) 235 [.own a g,.v (.int .i64 x)] st (some d)=some { dst:=some d,val:=ov aJ (some L),dK:=some (a,g,none)}) ∨
 ∃M:List Int,M.length=(ol o).length+1∧(∀(st:St) (d:Nat),fF (aC Tryz.prog) 235 [ov aJ o,.v (.int .i64 x)] st (some d)=some { dst:=some d,val:=.own d (st.aP d),new:=some (d,[.row 3 1 M.length (aJ M)])}) ∧
  ∀(st:St) (d a g:Nat) (L:List Int),o=some L→st.heap a g=some (.row 3 1 L.length (aJ L))→fF (aC Tryz.prog) 235 [.own a g,.v (.int .i64 x)] st (some d)=some { dst:=some d,val:=.own d (st.aP d),dK:=some (a,g,none),new:=some (d,[.row 3 1 M.length (aJ M)])}:=by
 have one:∀(st:St) (d a g:Nat) (L:List Int),o=some L→st.heap a g=some (.row 3 1 L.length (aJ L))→fF (aC Tryz.prog) 235 [.own a g,.v (.int .i64 x)] st (some d)=Lg (aC Tryz.prog) 235 (some [ov aJ o,.v (.int .i64 x)]) a g st (some d):=by
  rintro st d a g L rfl hh
  rw[Ix (s:=a) (k:=g) rfl (by intro y hy;simp only[List.mem_cons,List.not_mem_nil,or_false] at hy;rcases hy with rfl|rfl;exact .inr (.inl ⟨a,g,rfl⟩);exact .inl (.v _)),
   List.map_cons,List.map_cons,List.map_nil,Iy hh,Ld,bP,bP,gL]
  rfl
 obtain⟨r,hr,h⟩:=aPo o hn x
 rcases h with rfl|⟨M,rfl,hM⟩
 ·refine .inl ⟨fun st d=>Hh (bH (bS o) (.v _)) hr (bS o),fun st d a g L ho hh=>?_⟩
  rw[one st d a g L ho hh];subst ho;exact EA hr (bS _)
 ·refine .inr ⟨M,hM,fun st d=>O8 (bH (bS o) (.v _)) hr,fun st d a g L ho hh=>?_⟩
  rw[one st d a g L ho hh];exact aB1 hr (A2 M)
theorem aKN (x:fZ) (V W:Option (List Int)) (hV:x.first.eY=ov aJ V) (hW:x.second.eY=ov aJ W) (nV:((ol V).length:Int)<99999) (nW:((ol W).length:Int)<99999) :
 ∃r,aC Tryz.prog 221 [.agg (cB x)]=some r∧∃o:Option (List Int),((ol o).length:Int)≤(ol V).length∧(r=ov aJ o∨∃L,o=some L∧r=.uniq 3 1 L.length (aJ L)):=by
 have f1:Flat x.first.eY:=by rw[hV];exact bS V
 have f2:Flat x.second.eY:=by rw[hW];exact bS W
 rw[cL Tryz.func221 rfl aKO rfl];simp only[Z8,seval];refine cM (fun m st=>∃k:Nat,(st.env 1=.ptr 1 0 0∧st.heap 1 0=some (.cells (cB x))∧st.env 4=.v (.int .i64 k))∧(∃o:Option (List Int),(ol o).length≤k∧(st.env 3=ov aJ o∨∃g L,o=some L∧st.env 3=.own 30 g∧g<st.aP 30∧st.heap 30 g=some (.row 3 1 L.length (aJ L))))∧k≤(ol V).length∧m=(ol V).length-k)
  (fun e st=>e=.exit 0∧∃o:Option (List Int),(ol o).length≤(ol V).length∧(st.env 3=ov aJ o∨∃g L,o=some L∧st.env 3=.own 30 g∧st.heap 30 g=some (.row 3 1 L.length (aJ L)))) (ol V).length ?step ?start ?rest
 case step =>
  rintro m st ⟨k,hI,⟨o,ho,h3⟩,hk,hm⟩
  by_cases bA:(k:Int)<(ol V).length
  ·have q0:(0:Int)≤k:=by omega
   have hw:IntKind.i64.wrap ((k:Int)+1)=((k+1:Nat):Int):=by rw[pR _ (by omega) (by omega)];omega
   have O9:=aFU W (by omega) (gx (0:Int) (ol V) (k:Int))
   by_cases h1:gx (0:Int) (ol V) (k:Int)∈ol W
   ·have DD:=eq_true h1
    rcases aKM o (by omega) (gx (0:Int) (ol V) (k:Int)) with ⟨ea,eb⟩|⟨M,hM,ea,eb⟩
    ·rcases h3 with h3|⟨g,L,hL,h3,hg,hh⟩
     ·apply oN ((ol V).length-(k+1))
      ·simp only[Z8,seval,hI,h3,bA,q0,hV,hW,O9,DD,ea,hw];rfl
      ·exact⟨k+1,by simp only[E8,seval,hI],⟨o,by omega,.inl (by simp only[E8,seval])⟩,by omega,rfl⟩
     ·have P0:=fun st d a g=>eb st d a g L hL
      have ho':(ol (some L)).length≤k:=by rw[← hL];exact ho
      apply oN ((ol V).length-(k+1))
      ·simp only[Z8,seval,hI,h3,hh,bA,q0,hV,hW,O9,DD,P0,hw];rfl
      ·exact⟨k+1,by simp only[E8,seval,hI],⟨some L,by omega,.inl (by simp only[E8,seval])⟩,by omega,rfl⟩
    ·rcases h3 with h3|⟨g,L,hL,h3,hg,hh⟩
     ·apply oN ((ol V).length-(k+1))
      ·simp only[Z8,seval,hI,h3,bA,q0,hV,hW,O9,DD,ea,hw];rfl
      ·exact⟨k+1,by simp only[E8,seval,hI],⟨some M,by show M.length≤_;omega,.inr ⟨_,M,rfl,by simp only[E8,seval]<;>rfl,by simp only[E8,seval]<;>omega,by simp only[E8,seval]<;>rfl⟩⟩,by omega,rfl⟩
     ·have P0:=fun st d a g=>eb st d a g L hL
      have vL:(g=st.aP 30)=False:=eq_false (by omega)
      apply oN ((ol V).length-(k+1))
      ·simp only[Z8,seval,hI,h3,hh,vL,bA,q0,hV,hW,O9,DD,P0,hw];rfl
      ·exact⟨k+1,by simp only[E8,seval,hI],⟨some M,by show M.length≤_;omega,.inr ⟨_,M,rfl,by simp only[E8,seval]<;>rfl,by simp only[E8,seval]<;>omega,by simp only[E8,seval]<;>rfl⟩⟩,by omega,rfl⟩
   ·have DD:=eq_false h1
    have h3':st.env 3=ov aJ o∨∃g L,o=some L∧st.env 3=.own 30 g∧g<st.aP 30∧st.heap 30 g=some (.row 3 1 L.length (aJ L)):=h3
    apply oN ((ol V).length-(k+1))
    ·simp only[Z8,seval,hI,bA,q0,hV,hW,O9,DD,hw];rfl
    ·exact⟨k+1,by simp only[E8,seval,hI],⟨o,by omega,by simpa only[E8,seval] using h3'⟩,by omega,rfl⟩
  ·have h3':st.env 3=ov aJ o∨∃g L,o=some L∧st.env 3=.own 30 g∧st.heap 30 g=some (.row 3 1 L.length (aJ L)):=h3.imp id fun ⟨g,L,a,b,_,c⟩=>⟨g,L,a,b,c⟩
   apply oT (.exit 0)
   ·simp only[Z8,seval,hI,bA,hV];rfl
   ·exact⟨rfl,o,by omega,by simpa only[E8,seval] using h3'⟩
 case start=>exact⟨0,by simp only[E8,seval]<;>rfl,⟨none,by simp[ol],.inl (by simp only[E8,seval]<;>rfl)⟩,by omega,by omega⟩
 case rest =>
  rintro e st ⟨rfl,o,ho,h3⟩
  rcases h3 with h3|⟨g,L,hL,h3,hh⟩
  ·simp only[Z8,seval,h3];exact⟨_,bW rfl (by simp only[E8,seval,h3]<;>rfl) (bS o),o,by omega,.inl rfl⟩
  ·simp only[Z8,seval,h3];exact⟨_,sP rfl (by simp only[E8,seval,h3]<;>rfl) (by simp only[E8,seval,hh]<;>rfl) (gF _),o,by omega,.inr ⟨L,hL,rfl⟩⟩
theorem aKP {o:Option (List Int)} {L:List Int} (h:(ol o).length≤L.length):IntKind.i64.wrap ((L.length:Int)-((ol o).length:Int))≠0→L≠[]:=by
 rintro hn rfl
 have h0:(ol o).length=0:=by simpa using h
 rw[h0] at hn;exact hn (by decide)
theorem aPz (o V:Option (List Int)) (no:((ol o).length:Int)<900000) (nV:((ol V).length:Int)<99999) :
 ∃r,aC Tryz.prog 220 [ov aJ o,ov aJ V]=some r∧∃(L:List Int) (n:Int),r=.eN [ov aJ (some L),.v (.int .i64 n)]∧L.length≤(ol o).length+(ol V).length∧(n≠0→L≠[]):=by
 rw[cL Tryz.func220 rfl aKQ (by cases o<;>cases V<;>rfl)]
 have no':((ol o).length:Int)<1000000:=by omega
 simp only[Z8,seval,Nv _ no'];refine cM (fun m st=>∃k:Nat,(st.env 0=ov aJ o∧st.env 1=ov aJ V∧st.env 7=.v (.int .i64 k))∧(∃L:List Int,((ol o).length≤L.length∧L.length≤(ol o).length+k)∧(st.env 6=ov aJ (some L)∨(∃g,st.env 6=.own 21 g∧g<st.aP 21∧st.heap 21 g=some (.row 3 1 L.length (aJ L)))∨(st.env 6=.own 9 0∧st.heap 9 0=some (.row 3 1 L.length (aJ L)))))∧k≤(ol V).length∧m=(ol V).length-k)
  (fun e st=>e=.exit 0∧(st.env 0=ov aJ o)∧∃L:List Int,((ol o).length≤L.length∧L.length≤(ol o).length+(ol V).length)∧(st.env 6=ov aJ (some L)∨∃a g,st.env 6=.own a g∧st.heap a g=some (.row 3 1 L.length (aJ L)))) (ol V).length ?step ?start ?rest
 case step =>
  rintro m st ⟨k,hI,⟨L,hL,h3⟩,hk,hm⟩
  by_cases bA:(k:Int)<(ol V).length
  ·have q0:(0:Int)≤k:=by omega
   have hw:IntKind.i64.wrap ((k:Int)+1)=((k+1:Nat):Int):=by rw[pR _ (by omega) (by omega)];omega
   rcases aKM (some L) (by show (L.length:Int)<_;omega) (gx (0:Int) (ol V) (k:Int)) with ⟨ea,eb⟩|⟨M,hM,ea,eb⟩
   ·rcases h3 with h3|⟨g,h3,hg,hh⟩|⟨h3,hh⟩
    ·apply oN ((ol V).length-(k+1))
     ·simp only[Z8,seval,hI,h3,bA,q0,ea,hw];rfl
     ·exact⟨k+1,by simp only[E8,seval,hI],⟨L,by omega,.inl (by simp only[E8,seval])⟩,by omega,rfl⟩
    ·have P0:=fun st d a g=>eb st d a g L rfl
     apply oN ((ol V).length-(k+1))
     ·simp only[Z8,seval,hI,h3,hh,bA,q0,P0,hw];rfl
     ·exact⟨k+1,by simp only[E8,seval,hI],⟨L,by omega,.inl (by simp only[E8,seval])⟩,by omega,rfl⟩
    ·have P0:=fun st d a g=>eb st d a g L rfl
     apply oN ((ol V).length-(k+1))
     ·simp only[Z8,seval,hI,h3,hh,bA,q0,P0,hw];rfl
     ·exact⟨k+1,by simp only[E8,seval,hI],⟨L,by omega,.inl (by simp only[E8,seval])⟩,by omega,rfl⟩
   ·have hM':M.length=L.length+1:=hM
    rcases h3 with h3|⟨g,h3,hg,hh⟩|⟨h3,hh⟩
    ·apply oN ((ol V).length-(k+1))
     ·simp only[Z8,seval,hI,h3,bA,q0,ea,hw];rfl
     ·exact⟨k+1,by simp only[E8,seval,hI],⟨M,by omega,.inr (.inl ⟨_,by simp only[E8,seval]<;>rfl,by simp only[E8,seval]<;>omega,by simp only[E8,seval]<;>rfl⟩)⟩,by omega,rfl⟩
    ·have P0:=fun st d a g=>eb st d a g L rfl
     have vL:(g=st.aP 21)=False:=eq_false (by omega)
     apply oN ((ol V).length-(k+1))
     ·simp only[Z8,seval,hI,h3,hh,vL,bA,q0,P0,hw];rfl
     ·exact⟨k+1,by simp only[E8,seval,hI],⟨M,by omega,.inr (.inl ⟨_,by simp only[E8,seval]<;>rfl,by simp only[E8,seval]<;>omega,by simp only[E8,seval]<;>rfl⟩)⟩,by omega,rfl⟩
    ·have P0:=fun st d a g=>eb st d a g L rfl
     apply oN ((ol V).length-(k+1))
     ·simp only[Z8,seval,hI,h3,hh,bA,q0,P0,hw];rfl
     ·exact⟨k+1,by simp only[E8,seval,hI],⟨M,by omega,.inr (.inl ⟨_,by simp only[E8,seval]<;>rfl,by simp only[E8,seval]<;>omega,by simp only[E8,seval]<;>rfl⟩)⟩,by omega,rfl⟩
  ·have h3':st.env 6=ov aJ (some L)∨∃a g,st.env 6=.own a g∧st.heap a g=some (.row 3 1 L.length (aJ L)):=by
    rcases h3 with h3|⟨g,h3,hg,hh⟩|⟨h3,hh⟩
    ·exact .inl h3
    ·exact .inr ⟨21,g,h3,hh⟩
    ·exact .inr ⟨9,0,h3,hh⟩
   apply oT (.exit 0)
   ·simp only[Z8,seval,hI,bA];rfl
   ·exact⟨rfl,by simp only[E8,seval,hI],L,by omega,by simpa only[E8,seval] using h3'⟩
 case start=>exact⟨0,by simp only[E8,seval]<;>rfl,⟨ol o,by omega,.inr (.inr ⟨by simp only[E8,seval],by simp only[E8,seval]⟩)⟩,by omega,by omega⟩
 case rest =>
  rintro e st ⟨rfl,h0,L,hL,h3⟩
  rcases h3 with h3|⟨a,g,h3,hh⟩
  ·simp only[Z8,seval,h3,h0];exact⟨_,dO rfl rfl rfl (by simp only[E8,seval,h3,Er]<;>rfl) (by simp only[E8,seval,h3,Er]<;>rfl),L,_,rfl,hL.2,aKP hL.1⟩
  ·simp only[Z8,seval,h3,hh,h0];exact⟨_,dO rfl rfl rfl (by simp only[E8,seval,h3,hh,jV]<;>rfl) (by simp only[E8,seval,h3,hh,jV]<;>rfl),L,_,rfl,hL.2,aKP hL.1⟩
theorem aPA (x:fZ) (V W:Option (List Int)) (hV:x.first.eY=ov aJ V) (hW:x.second.eY=ov aJ W) (nV:((ol V).length:Int)<99999) (nW:((ol W).length:Int)<99999) (n:Int) :
 ∃r,aC Tryz.prog 219 [.agg (cB x),.v (.int .i64 n)]=some r∧∃e:Int,r=.v (.int .i64 e)∧e≠21:=by
 have f1:Flat x.first.eY:=by rw[hV];exact bS V
 have f2:Flat x.second.eY:=by rw[hW];exact bS W
 have fx:Flat (.agg (cB x)):=(nG x).2 ⟨f1,f2⟩
 have kV:=kx (c40 V (by omega) n) (bH (bS V) (.v _)) (.v _)
 have kW:=kx (c40 W (by omega) n) (bH (bS W) (.v _)) (.v _)
 obtain⟨ev,AS⟩:∃e,AQ (ol V) n=e:=⟨_,rfl⟩
 obtain⟨ew,hew⟩:∃e,AQ (ol W) n=e:=⟨_,rfl⟩
 rw[AS] at kV;rw[hew] at kW;obtain⟨r1,K2,c,rfl⟩:=aPk x.first x.second f1 f2
 have P1:=kx K2 (bH ((zD _).2 f1) ((zD _).2 f2)) (.v _)
 obtain⟨r2,hr2,o,ho,hro⟩:=aKN x V W hV hW nV nW
 rw[cL Tryz.func219 rfl aKR rfl];by_cases g1:ev=0
 case neg =>
  simp only[Z8,seval,hV,hW,kV,bf g1];exact⟨_,bW rfl (by simp only[E8,seval]<;>rfl) (by first|exact .v _|simp only[dW]),_,rfl,by rw[← AS];exact TG _ _⟩
 by_cases g2:ew=0
 case neg =>
  simp only[Z8,seval,hV,hW,kV,kW,bt g1,bf g2];exact⟨_,bW rfl (by simp only[E8,seval]<;>rfl) (by first|exact .v _|simp only[dW]),_,rfl,by rw[← hew];exact TG _ _⟩
 by_cases g3:x.first.target<x.first.source
 ·simp only[Z8,seval,hV,hW,kV,kW,bt g1,bt g2,g3];exact⟨_,bW rfl (by simp only[E8,seval]<;>rfl) (by first|exact .v _|simp only[dW]),_,rfl,by decide⟩
 by_cases g4:x.second.target<x.second.source
 ·simp only[Z8,seval,hV,hW,kV,kW,bt g1,bt g2,g3,g4];exact⟨_,bW rfl (by simp only[E8,seval]<;>rfl) (by first|exact .v _|simp only[dW]),_,rfl,by decide⟩
 cases c
 ·simp only[Z8,seval,hV,hW,kV,kW,bt g1,bt g2,g3,g4,P1];exact⟨_,bW rfl (by simp only[E8,seval]<;>rfl) (by first|exact .v _|simp only[dW]),_,rfl,by decide⟩
 rcases hro with rfl|⟨L,hL,rfl⟩
 ·have Wz:=kx hr2 (cV fx) (bS o)
  by_cases g5:((ol o).length:Int)=0
  ·simp only[Z8,seval,hV,hW,kV,kW,bt g1,bt g2,g3,g4,P1,Wz,bt g5];exact⟨_,bW rfl (by simp only[E8,seval]<;>rfl) (by first|exact .v _|simp only[dW]),_,rfl,by decide⟩
  ·simp only[Z8,seval,hV,hW,kV,kW,bt g1,bt g2,g3,g4,P1,Wz,bf g5];exact⟨_,bW rfl (by simp only[E8,seval]<;>rfl) (by first|exact .v _|simp only[dW]),_,rfl,by decide⟩
 ·have Wz:∀(st:St) (d:Nat),aL (aC Tryz.prog) 221 [.agg (cB x)] st (some d)=_:=fun st d=>jF (st:=st) (d:=d) (cV fx) hr2
  by_cases g5:(L.length:Int)=0
  ·simp only[Z8,seval,hV,hW,kV,kW,bt g1,bt g2,g3,g4,P1,Wz,bt g5];exact⟨_,bW rfl (by simp only[E8,seval]<;>rfl) (by first|exact .v _|simp only[dW]),_,rfl,by decide⟩
  ·simp only[Z8,seval,hV,hW,kV,kW,bt g1,bt g2,g3,g4,P1,Wz,bf g5];exact⟨_,bW rfl (by simp only[E8,seval]<;>rfl) (by first|exact .v _|simp only[dW]),_,rfl,by decide⟩
theorem aPC {s:aO} {v:SV} {q:Int} (h:GI s v q) (r:RG s v) (x:fZ) (V W:Option (List Int)) (hV:x.first.eY=ov aJ V) (hW:x.second.eY=ov aJ W) (nV:((ol V).length:Int)≤1000) (nW:((ol W).length:Int)≤1000) (hq:q+1000≤900000) :
 ∃r,aC Tryz.prog 205 [.agg (aB s),.agg (cB x)]=some r∧StN s v (q+1000) r:=by
 have hf:=h.sd.flat
 have iX:=h.sd.fl
 have hz:=Iv
 have f1:Flat x.first.eY:=by rw[hV];exact bS V
 have f2:Flat x.second.eY:=by rw[hW];exact bS W
 have fx:Flat (.agg (cB x)):=(nG x).2 ⟨f1,f2⟩
 obtain⟨r1,K2,e1,rfl,he1⟩:=aPA x V W hV hW (by omega) (by omega) (ol v.B).length
 have P2:=kx K2 (bH fx (.v _)) (.v _)
 obtain⟨r2,hr2,o,ho,hro⟩:=aKN x V W hV hW (by omega) (by omega)
 have nq:=h.nQ
 obtain⟨r3,hr3,L,n,rfl,hL,BC⟩:=aPz v.Q o (by omega) (by omega)
 have fr:Flat (.eN [ov aJ (some L),.v (.int .i64 n)]):=.eN _ (bH (bS _) (.v _))
 have k220:∀(st:St) (d:Option Nat),fF (aC Tryz.prog) 220 [ov aJ v.Q,ov aJ o] st d=_:=fun st d=>Hh (st:=st) (d:=d) (bH (bS _) (bS _)) hr3 fr
 rw[cL Tryz.func205 rfl aKS rfl];by_cases g1:e1=0
 case neg =>
  simp only[Z8,seval,Wm h.sd,P2,bf g1];exact⟨_,by apply dO;rfl;all_goals simp only[aI,bV,Z8,seval,hz]<;>rfl,gQ,e1,rfl,hz,he1,fun h=>absurd h g1⟩
 have hQ:((ol (some L)).length:Int)≤q+1000:=by show (L.length:Int)≤_;omega
 have h':GI { s with gG:={ s.gG with gZ:=ov aJ (some L)} } { v with Q:=some L } (q+1000) :=
  ⟨⟨h.sd.jN,h.sd.dQ,rfl,h.sd.early,h.sd.bX,h.sd.tree,h.sd.tables,h.sd.eV,h.sd.tB,h.sd.nB,h.sd.nL,by show ((ol (some L)).length:Int)<1000000;omega,h.sd.nE,h.sd.nO,h.sd.nT,h.sd.nn⟩,h.up,h.LD,h.pos,h.nl,h.TM,h.qS,h.MC,h.nB,h.nO,h.MD,h.nE,h.RX,h.nT,h.TN,hQ,hq,h.hU⟩
 have A3:=h'.sd.flat
 rcases hro with rfl|⟨M,hM,rfl⟩
 ·have Wz:=kx hr2 (cV fx) (bS o)
  by_cases g2:n=0
  ·simp only[Z8,seval,Wm h.sd,P2,bt g1,h.sd.gZ,Wz,k220,eB,bt g2];exact⟨_,by apply dO;rfl;all_goals simp only[aI,bV,Z8,seval,hz]<;>rfl,gQ,9,rfl,hz,by decide,fun h=>by cases h⟩
  ·simp only[Z8,seval,Wm h.sd,P2,bt g1,h.sd.gZ,Wz,k220,eB,bf g2];exact⟨_,by apply dO;rfl;all_goals simp only[aI,bV,Z8,seval,A3]<;>rfl,_,0,rfl,A3,by decide,fun _=>⟨_,h',⟨r.now,r.j,r.f,r.nd,r.or,r.rt,r.fe,r.ds,r.tb,⟨fun e=>BC g2 (by injection e),r.ne.e,r.ne.o,r.ne.t,r.ne.ea,r.ne.tb⟩⟩,rfl,rfl⟩⟩
 ·have Wz:∀(st:St) (d:Nat),aL (aC Tryz.prog) 221 [.agg (cB x)] st (some d)=_:=fun st d=>jF (st:=st) (d:=d) (cV fx) hr2
  have k220':∀(st:St) (a g:Nat) (d:Option Nat),st.heap a g=some (.row 3 1 M.length (aJ M))→fF (aC Tryz.prog) 220 [ov aJ v.Q,.own a g] st d=some { dst:=d,val:=.eN [ov aJ (some L),.v (.int .i64 n)],dK:=some (a,g,none)}:=by
   intro st a g d hh;rw[Ix (s:=a) (k:=g) (by rw[List.flatMap_cons,vK (bS v.Q)];rfl) (by intro y hy;simp only[List.mem_cons,List.not_mem_nil,or_false] at hy;rcases hy with rfl|rfl;exact .inl (bS _);exact .inr (.inl ⟨a,g,rfl⟩)),
    List.map_cons,List.map_cons,List.map_nil,Er,Iy hh,bP,bP,gL,← hM]
   exact EA hr3 fr
  by_cases g2:n=0
  ·simp only[Z8,seval,Wm h.sd,P2,bt g1,h.sd.gZ,Wz,k220',eB,bt g2];exact⟨_,by apply dO;rfl;all_goals simp only[aI,bV,Z8,seval,hz]<;>rfl,gQ,9,rfl,hz,by decide,fun h=>by cases h⟩
  ·simp only[Z8,seval,Wm h.sd,P2,bt g1,h.sd.gZ,Wz,k220',eB,bf g2];exact⟨_,by apply dO;rfl;all_goals simp only[aI,bV,Z8,seval,A3]<;>rfl,_,0,rfl,A3,by decide,fun _=>⟨_,h',⟨r.now,r.j,r.f,r.nd,r.or,r.rt,r.fe,r.ds,r.tb,⟨fun e=>BC g2 (by injection e),r.ne.e,r.ne.o,r.ne.t,r.ne.ea,r.ne.tb⟩⟩,rfl,rfl⟩⟩
theorem TV {l:List Int} {n:Int} (h:AQ l n=0):∀x∈l,0≤x∧x<n:=by
 intro x hx;unfold AQ at h;have gW:l≠[]:=fun e=>by subst e;cases hx
 rw[if_neg gW] at h;by_cases g:wI (Tu l n) l.length<0
 ·rcases vH (Tu l n) l.length with ⟨_,hj⟩|⟨k,h1,_,_,h3⟩
  ·obtain⟨j,hj1,rfl⟩:=List.getElem_of_mem hx
   have hb:=hj j hj1
   have e:gx (0:Int) l j=l[j]:=by simp[gx,hj1]
   unfold Tu at hb;rw[e] at hb;omega
  ·omega
 ·rw[if_neg g] at h;split at h<;>omega
theorem GG {s:aO} {v:SV} {a:rX} {V:List Int} (h:(Gm s v a V).2=0):AQ V (ol v.B).length=0:=by
 unfold Gm at h;by_cases g:AQ V (ol v.B).length≠0
 ·rw[if_pos g] at h;exact h
 ·exact Classical.not_not.1 g
theorem GI.cast {s:aO} {v:SV} {q:Int} (h:GI s v q) (a:rX) (V:List Int):GI (Qr s v a V) { v with L:=some (uB (ol v.L) a.target.aK a.root V).1 } q:=by
 have hl:(uB (ol v.L) a.target.aK a.root V).1.length=(ol v.L).length:=Qq _ _ _ _
 exact⟨⟨h.sd.jN,rfl,h.sd.gZ,h.sd.early,h.sd.bX,h.sd.tree,h.sd.tables,h.sd.eV,h.sd.tB,h.sd.nB,by show ((uB (ol v.L) a.target.aK a.root V).1.length:Int)<1000000;rw[hl];exact h.sd.nL,h.sd.nQ,h.sd.nE,h.sd.nO,h.sd.nT,h.sd.nn⟩,h.up,h.LD,h.pos,h.nl,h.TM,h.qS,hl.trans h.MC,h.nB,h.nO,h.MD,h.nE,h.RX,h.nT,h.TN,h.nQ,h.N6,h.hU⟩
def wL (s:aO) (x:AV):aO:={ s with dV:={ s.dV with early:=x }}
theorem TW {e sz n:Nat} {cs:List AV} (h:¬ ∀c∈cs,Flat c):jH (some (.row e sz n cs))=none:=by
 unfold jH;simp only[if_neg h]
theorem aFX {a:rX} {x g:Nat} (h:a.eY=.own x g) (l:List rX):¬ ∀c∈dG (l++[a]),Flat c:=by
 intro hf;have hm:AV.own x g∈dG (l++[a]):=by
  unfold dG;rw[List.flatMap_append,List.mem_append];refine .inr ?_
  rw[List.flatMap_cons,List.flatMap_nil,List.append_nil];unfold iB;rw[h];simp
 have:=hf _ hm
 cases this
theorem lS {α:Type} {a b:List (Option α)} {x y:List α} (ha:cC a=some x) (hb:cC b=some y):cC (a++b)=some (x++y):=by
 induction a generalizing x with
 | nil=>simp only[gL,Option.some.injEq] at ha;subst ha;simpa using hb
 | cons c a ih =>
   cases c with
   | none=>simp[cC] at ha
   | some c =>
     rw[bP] at ha;simp only[Option.map_eq_some_iff] at ha;obtain⟨z,hz,rfl⟩:=ha
     rw[List.cons_append,bP,ih hz];rfl
theorem Cv {cs:List AV} {f:AV→Option AV} (h:∀c∈cs,f c=some c):cC (cs.map f)=some cs:=by
 induction cs with
 | nil=>rfl
 | cons c cs ih=>rw[List.map_cons,h c (List.mem_cons_self ..),bP,ih fun x hx=>h x (List.mem_cons_of_mem _ hx)];rfl
theorem Xa {st:St} {c:AV} (h:Flat c):cA st c=some c:=by unfold cA;rw[if_pos h]
theorem P3 {st:St} {c:AV} (h:Flat c):Cg st c=some c:=by
 unfold Cg;cases h<;>exact Xa (by constructor;try assumption)
theorem A4 {s:aO} {v:SV} (h:SD s v) (st:St) {E:List rX} (hE:∀x∈E,Flat x.eY) {a:rX} {V:List Int} {x g x' g' n:Nat}
 (hh:st.heap x g=some (.row 87 67 n (dG (E++[{ a with eY:=.own x' g' }])))) (uR:st.heap x' g'=some (.row 3 1 V.length (aJ V))) :
 Mt st (.agg (aB (wL s (.own x g))))=some (.agg (aB (wL s (.sl n (dG (E++[{ a with eY:=ov aJ (some V)}])))))):=by
 obtain⟨h1,h2,h3,h4,h5,h6,h7⟩:=h.fl
 have fl:∀ {cs:List AV},(∀c∈cs,Flat c)→cC (cs.map (Cg st))=some cs:=fun hc=>Cv fun c m=>P3 (hc c m)
 have fl1:∀ {cs:List AV},(∀c∈cs,Flat c)→cC (cs.map (cA st))=some cs:=fun hc=>Cv fun c m=>Xa (hc c m)
 have hv:cA st (.own x' g')=some (ov aJ (some V)):=by rw[bG,uR];exact jV _ _
 have hatt:cC ((dG (E++[{ a with eY:=.own x' g' }])).map (cA st))=some (dG (E++[{ a with eY:=ov aJ (some V)}])):=by
  unfold dG;rw[List.flatMap_append,List.flatMap_append,List.map_append];refine lS (fl1 (sT E hE)) ?_
  simp only[List.flatMap_cons,List.flatMap_nil,List.append_nil];unfold iB;rw[List.map_append,List.map_append,List.map_append];refine lS (fl1 (eD _)) (lS (fl1 (dJ _)) (lS (fl1 (dC _)) ?_))
  rw[List.map_cons,List.map_nil,hv];rfl
 have hea:Cg st (.own x g)=some (.sl n (dG (E++[{ a with eY:=ov aJ (some V)}]))):=by
  unfold Cg;simp only[hh,hatt];rfl
 unfold Mt;simp only
 have:cC ((aB (wL s (.own x g))).map (Cg st))=some (aB (wL s (.sl n (dG (E++[{ a with eY:=ov aJ (some V)}]))))):=by
  unfold wL aB jO;simp only[List.map_append];refine lS (fl (tV _ h1)) (lS (fl (qL _ h2 h3)) (lS (fl (lG _)) (lS (lS ?_ (fl (by simpa using h5))) (lS (fl (wH _ h6)) (lS (fl (eD _)) (lS (fl (dJ _)) (fl (by simpa using h7))))))))
  rw[List.map_cons,List.map_nil,hea];rfl
 rw[this];rfl
theorem P4 {s:aO} {v:SV} (h:SD s v) (st:St) {E:List rX} {a:rX} {x g x' g' n:Nat} (ha:a.eY=.own x' g')
 (hh:st.heap x g=some (.row 87 67 n (dG (E++[a])))):fK st (.agg (aB (wL s (.own x g))))=none:=by
 have iX:=h.fl
 have hn:=TW (e:=87) (sz:=67) (n:=n) (aFX ha E)
 unfold wL;simp only[bR,gK,bG,hh,hn,cO,dW,iX,cZ,MH]
theorem GI.early {s:aO} {v:SV} {q:Int} (h:GI s v q) (E:Option (List rX)) (hE:∀a∈ol E,Cq a) (hn:((ol E).length:Int)≤s.cFg.mH.pX):GI (wL s (ov dG E)) { v with E:=E } q :=
 ⟨⟨h.sd.jN,h.sd.dQ,h.sd.gZ,rfl,h.sd.bX,h.sd.tree,h.sd.tables,hE,h.sd.tB,h.sd.nB,h.sd.nL,h.sd.nQ,by have:=h.RX;show ((ol E).length:Int)<1000000;omega,h.sd.nO,h.sd.nT,h.sd.nn⟩,h.up,h.LD,h.pos,h.nl,h.TM,h.qS,h.MC,h.nB,h.nO,h.MD,hn,h.RX,h.nT,h.TN,h.nQ,h.N6,h.hU⟩
theorem aFY (s:aO) (v:SV) (a:rX) (V:List Int):(Gm s v a V).2≠21:=by
 unfold Gm;split
 ·exact TG _ _
 repeat (split;simp)
 simp
theorem aPD {s:aO} {v:SV} {q:Int} (h:GI s v q) (r:RG s v) (a:rX) (V:Option (List Int)) (hV:a.eY=ov aJ V) (nV:((ol V).length:Int)<99999) :
 ∃r,aC Tryz.prog 204 [.agg (aB s),.agg (iB a)]=some r∧StN s v q r:=by
 have hf:=h.sd.flat
 have iX:=h.sd.fl
 have hz:=Iv
 have fa:Flat (.agg (iB a)):=(zC a).2 (by rw[hV];exact bS V)
 have k39:=kx (c39 h.sd h.up h.sp a V hV (by omega)) (bH hf fa) (.eN _ (bH (.v _) (.v _)))
 rw[cL Tryz.func204 rfl aKT rfl];by_cases g1:(Gm s v a (ol V)).2=0
 case neg =>
  simp only[Z8,seval,k39,eB,bf g1];exact⟨_,by apply dO;rfl;all_goals simp only[aI,bV,Z8,seval,hz]<;>rfl,gQ,_,rfl,hz,aFY _ _ _ _,fun h=>absurd h g1⟩
 cases g2:(Gm s v a (ol V)).1
 ·have hr:∀x∈ol V,0≤x∧x<(ol v.L).length:=by rw[h.MC];exact TV (GG g1)
  have h':=h.cast a (ol V)
  have A3:=h'.sd.flat
  have k44:=kx (c44 h.sd a V hV (by omega) hr) (bH hf fa) A3
  simp only[Z8,seval,k39,eB,bt g1,g2,k44];exact⟨_,by apply dO;rfl;all_goals simp only[aI,bV,Z8,seval,A3]<;>rfl,_,0,rfl,A3,by decide,fun _=>⟨_,h',⟨r.now,r.j,r.f,r.nd,r.or,r.rt,r.fe,r.ds,r.tb,⟨r.ne.q,r.ne.e,r.ne.o,r.ne.t,r.ne.ea,r.ne.tb⟩⟩,rfl,rfl⟩⟩
 ·by_cases g3:s.cFg.mH.pX≤((ol v.E).length:Int)
  ·simp only[Z8,seval,k39,eB,bt g1,g2,h.sd.early,g3];exact⟨_,by apply dO;rfl;all_goals simp only[aI,bV,Z8,seval,hz]<;>rfl,gQ,11,rfl,hz,by decide,fun h=>by cases h⟩
  ·have hE:∀b∈ol (some (ol v.E++[{ a with eY:=ov aJ (some (ol V))}])),Cq b:=by
    intro b hb;rcases List.mem_append.1 (show b∈ol v.E++[{ a with eY:=ov aJ (some (ol V))}] from hb) with hb|hb
    ·exact h.sd.eV b hb
    ·rw[List.mem_singleton] at hb;subst hb;exact⟨some (ol V),rfl,by show ((ol V).length:Int)<_;omega⟩
   have hVne:ol V≠[]:=fun e=>by have h0:=GG g1;rw[e] at h0;simp[AQ] at h0
   have hEa:∀b∈ol (some (ol v.E++[{ a with eY:=ov aJ (some (ol V))}])),∃W,b.eY=ov aJ (some W)∧W≠[]:=by
    intro b hb;rcases List.mem_append.1 (show b∈ol v.E++[{ a with eY:=ov aJ (some (ol V))}] from hb) with hb|hb
    ·exact r.ne.ea b hb
    ·rw[List.mem_singleton] at hb;subst hb;exact⟨ol V,rfl,hVne⟩
   have h':=h.early (some (ol v.E++[{ a with eY:=ov aJ (some (ol V))}])) hE (by show (((ol v.E++[{ a with eY:=ov aJ (some (ol V))}]).length:Nat):Int)≤_;rw[List.length_append,List.length_cons,List.length_nil];omega)
   have A3:=h'.sd.flat
   have nE:=h.sd.nE
   have hEf:∀x∈ol v.E,Flat x.eY:=fun x m=>(h.sd.eV x m).fl
   simp only[Z8,seval,k39,eB,bt g1,g2,h.sd.early,g3,hV,Nv _ (show ((ol V).length:Int)<1000000 by omega),YM _ nE,Vb _ _ _ _ nE]
   have hlen:(ol v.E++[{ a with eY:=.own 35 0 }]).length=(ol v.E++[{ a with eY:=ov aJ (some (ol V))}]).length:=by rw[List.length_append,List.length_append];rfl
   exact⟨_,aKU rfl (by simp only[bV,Z8,seval]<;>rfl) (by simp only[bV,E8,seval]<;>rfl)
    (P4 h.sd _ rfl (by simp only[E8,seval]<;>rfl)) (A4 (x':=35) (g':=0) h.sd _ hEf (by simp only[E8,seval,hlen]<;>rfl) (by simp only[E8,seval]<;>rfl)) (by simp only[Z8,seval]<;>rfl),_,0,rfl,A3,by decide,fun _=>⟨_,h',⟨r.now,r.j,r.f,r.nd,r.or,r.rt,r.fe,r.ds,r.tb,⟨r.ne.q,by simp,r.ne.o,r.ne.t,hEa,r.ne.tb⟩⟩,rfl,rfl⟩⟩
end Go.Ab.Tryz
