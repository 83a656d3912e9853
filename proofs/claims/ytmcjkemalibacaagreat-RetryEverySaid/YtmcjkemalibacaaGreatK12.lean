/-
  Part 12 of the proof: an evaluator of programs, its soundness, and what functions of this program compute.
-/
import Derived.Test.YtmcjkemalibacaaGreatK11
import Derived.Test.YtmcjkemalibacaaGreatK10
import Derived.Test.YtmcjkemalibacaaGreatK9
set_option linter.all false
set_option maxRecDepth 20000
set_option maxHeartbeats 40000000
namespace Go.Ab.Tryz
open Classical Go.Proofs Go.Ab
theorem Bc {α:Type} (s g:Nat) (cs:List α→List AV) (o:Option (List α)):fF (.own s g) (ov cs o)=True:=by cases o<;>rfl
theorem Bd {α:Type} (s g:Nat) (cs:List α→List AV) (o:Option (List α)):fF (ov cs o) (.own s g)=True:=by cases o<;>rfl
theorem Hd {α:Type} (s g n:Nat) (cs:List α→List AV) (o:Option (List α)):fF (.ptr s g n) (ov cs o)=True:=by cases o<;>rfl
theorem He {α:Type} (s g n:Nat) (cs:List α→List AV) (o:Option (List α)):fF (ov cs o) (.ptr s g n)=True:=by cases o<;>rfl
theorem aLE (t:Table) (b:Option (List Int)) (hb:t.jP=ov bF b) (hl:((ol b).length:Int)<1000000):aD Tryz.prog 158 [.agg (cI t)]=some (.agg (cI ⟨t.ck,ov bF (some (ol b))⟩)):=by
 rw[cL Tryz.func158 rfl aLF rfl];refine kN ?_
 simp only[Z8,seval,hb,Eo _ hl];exact⟨_,by apply eB;rfl;all_goals simp only[aI,Z8,seval,bR,tS,bG,vQ]<;>rfl,rfl⟩
def aQR (o:Option (List Table)) (t':Table) (L:List Table):Prop:=L.length=(ol o).length+1∧(∀x∈L,x∈ol o∨x=t')∧∀x∈ol o,x∈L
theorem aQS (o:Option (List Table)) (hn:((ol o).length:Int)<999999) (hT:∀x∈ol o,Flat x.jP) (t:Table) (b:Option (List Int)) (hb:t.jP=ov bF b) (hl:((ol b).length:Int)<1000000) :
 ∃r,aD Tryz.prog 195 [ov aR o,.agg (cI t)]=some r∧∃L,aQR o ⟨t.ck,ov bF (some (ol b))⟩ L∧r=.uniq 118 34 L.length (aR L):=by
 have hfT:Flat (.agg (cI t)):=(kM t).2 (by rw[hb];exact dU b)
 have hf2:Flat (.agg (cI ⟨t.ck,ov bF (some (ol b))⟩)):=(kM _).2 (dU (some (ol b)))
 have hto:=lW o hT
 have aG3:=kx (aLE t b hb hl) (cP hfT) hf2
 rw[cG Tryz.func195 rfl aLH (by kernel_rfl) (by cases o<;>rfl)]
 simp only[ZG,seval,Bool.false_and,Prod.mk.injEq,MS];refine mH (fun m st=>∃k:Nat,(st.env 0=ov aR o∧st.env 3=.ptr 3 0 0∧st.heap 3 0=some (.cells (cI t))∧st.env 5=.v (.int .i64 k))∧k≤(ol o).length∧m=(ol o).length-k)
  (fun e st=>e=.exit 0∧∃k:Nat,(st.env 0=ov aR o∧st.env 3=.ptr 3 0 0∧st.heap 3 0=some (.cells (cI t))∧st.env 5=.v (.int .i64 k))∧k≤(ol o).length) (ol o).length ?step ?start ?rest
 case step =>
  rintro m st ⟨k,hI,hk,hm⟩
  by_cases aZ:(k:Int)<(ol o).length
  ·have q0:(0:Int)≤k:=by omega
   have hw:IntKind.i64.wrap ((k:Int)+1)=((k+1:Nat):Int):=by rw[pM _ (by omega) (by omega)];omega
   by_cases h1:aLz (gx iY (ol o) (k:Int)).ck t.ck<0
   ·apply En ((ol o).length-(k+1))
    ·simp only[ZG,seval,Bool.false_and,Prod.mk.injEq,MS,hI,aZ,q0,aLA,h1,hw];rfl
    ·exact⟨k+1,by simp only[E8,seval,hI],by omega,rfl⟩
   ·apply LB (.exit 0)
    ·simp only[ZG,seval,Bool.false_and,Prod.mk.injEq,MS,hI,aZ,q0,aLA,h1];rfl
    ·exact⟨rfl,k,by simp only[E8,seval,hI],hk⟩
  ·apply LB (.exit 0)
   ·simp only[ZG,seval,Bool.false_and,Prod.mk.injEq,MS,hI,aZ];rfl
   ·exact⟨rfl,k,by simp only[E8,seval,hI],hk⟩
 case start=>exact⟨0,by simp only[E8,seval]<;>rfl,by omega,by omega⟩
 case rest =>
  rintro e st ⟨rfl,k,hI,hk⟩
  have e1:ol (o.map (·.take k))=(ol o).take k:=by cases o<;>simp[ol]
  have e2:ol (o.map (·.drop k))=(ol o).drop k:=by cases o<;>simp[ol]
  have n1:(((ol (o.map (·.take k))).length:Nat):Int)<1000000:=by rw[e1,List.length_take];omega
  have n2:(((ol (o.map (·.drop k))).length:Nat):Int)<1000000:=by rw[e2,List.length_drop];omega
  have n3:(((ol (o.map (·.take k))++[(⟨t.ck,ov bF (some (ol b))⟩:Table)]).length:Nat):Int)<1000000:=by rw[List.length_append,e1,List.length_take];simp;omega
  have q0:(0:Int)≤k:=by omega
  have q1:(k:Int)≤((ol o).length:Int):=by omega
  have hr:∀x∈aR (ol (o.map (·.take k))++[(⟨t.ck,ov bF (some (ol b))⟩:Table)]++ol (o.map (·.drop k))),Flat x:=by
   refine lX _ fun x m=>?_
   rw[e1,e2] at m;rcases List.mem_append.1 m with m|m
   ·rcases List.mem_append.1 m with m|m
    ·exact hT x (List.mem_of_mem_take m)
    ·rw[List.mem_singleton.1 m];exact dU (some (ol b))
   ·exact hT x (List.mem_of_mem_drop m)
  simp only[ZG,seval,Bool.false_and,Prod.mk.injEq,MS,Bc,Bd,and_self,hI,q0,q1,Int.toNat_natCast,aG3,EP _ n1,Qm _ _ _ _ n1,ER _ _ _ _ n3 n2];refine⟨_,tD rfl (by simp only[E8,seval]<;>rfl) (by simp only[E8,seval]<;>rfl) hr,_,⟨?_,fun x m=>?_,fun x m=>?_⟩,rfl⟩
  ·rw[e1,e2,List.length_append,List.length_append,List.length_take,List.length_drop];simp;omega
  ·rw[e1,e2] at m;rcases List.mem_append.1 m with m|m
   ·rcases List.mem_append.1 m with m|m
    ·exact .inl (List.mem_of_mem_take m)
    ·exact .inr (List.mem_singleton.1 m)
   ·exact .inl (List.mem_of_mem_drop m)
  ·rw[e1,e2];rw[← List.take_append_drop k (ol o)] at m;rcases List.mem_append.1 m with m|m
   ·exact List.mem_append_left _ (List.mem_append_left _ m)
   ·exact List.mem_append_right _ m
theorem aQU (o:Option (List Table)) (hn:((ol o).length:Int)<999999) (hT:∀x∈ol o,sN x) (t:Table) (ht:sN t) (n mL:Int) :
 ∃r,aD Tryz.prog 172 [ov aR o,.agg (cI t),.v (.int .i64 n),.v (.int .i64 mL)]=some r∧∃o' e,r=.dZ [ov aR o',.v (.int .i64 e)]∧e≠21∧((ol o').length:Int)≤max ((ol o).length:Int) mL∧(∀x∈ol o',sN x)∧(ol o ⊆ ol o')∧(e=0→o'≠some []∧∀x∈ol o',x∈ol o∨∃B,x.jP=ov bF (some B)∧(B.length:Int)=n):=by
 obtain⟨b,hb,hl⟩:=id ht
 have hfT:Flat (.agg (cI t)):=(kM t).2 ht.fl
 have hto:=lW o fun x m=>(hT x m).fl
 obtain⟨r,hr,e,rfl,he,hlen⟩:=aFE t b hb hl n
 have GR:=kx hr (bI hfT (.v _)) (.v _)
 have Is:((ol o).length:Int)<1000000:=by omega
 have aG4:=ZB o Is hto
 rw[cL Tryz.func172 rfl aLI (by cases o<;>rfl)]
 by_cases g1:e=0
 case neg =>
  simp only[Z8,seval,GR,bf g1,nH _ _ fun x m=>(hT x m).fl]
  exact⟨_,dP rfl rfl rfl (by simp only[E8,seval,nH _ _ fun x m=>(hT x m).fl]<;>rfl) (by simp only[E8,seval,nH _ _ fun x m=>(hT x m).fl]<;>rfl),o,e,rfl,he,by omega,hT,fun x m=>m,fun h=>absurd h g1⟩
 by_cases g2:0≤N4 (ol o) t.ck
 ·simp only[Z8,seval,GR,bt g1,aG4,g2];exact⟨_,dP rfl rfl rfl (by simp only[E8,seval,nH _ _ fun x m=>(hT x m).fl]<;>rfl) (by simp only[E8,seval,nH _ _ fun x m=>(hT x m).fl]<;>rfl),o,9,rfl,by decide,by omega,hT,fun x m=>m,fun h=>by cases h⟩
 by_cases g3:mL≤((ol o).length:Int)
 ·simp only[Z8,seval,GR,bt g1,aG4,g2,g3];exact⟨_,dP rfl rfl rfl (by simp only[E8,seval,nH _ _ fun x m=>(hT x m).fl]<;>rfl) (by simp only[E8,seval,nH _ _ fun x m=>(hT x m).fl]<;>rfl),o,11,rfl,by decide,by omega,hT,fun x m=>m,fun h=>by cases h⟩
 obtain⟨r2,hr2,L,⟨Xe,hL2,hL3⟩,rfl⟩:=aQS o hn (fun x m=>(hT x m).fl) t b hb hl
 have hTL:∀x∈L,sN x:=fun x m=>(hL2 x m).elim (hT x) fun e=>by rw[e];exact⟨some (ol b),rfl,hl⟩
 have k195:∀(st:St),aN (aD Tryz.prog) 195 [ov aR o,.agg (cI t)] st (some 31)=_:=fun st=>jE (st:=st) (d:=31) (bI hto hfT) hr2
 have hex:=Nq L.length L fun x m=>(hTL x m).fl
 simp only[Z8,seval,GR,bt g1,aG4,g2,g3,k195];exact⟨_,dP rfl rfl rfl (by simp only[E8,seval,hex]<;>rfl) (by simp only[E8,seval,hex]<;>rfl),some L,0,rfl,by decide,by show ((L.length:Nat):Int)≤_;omega,hTL,hL3,fun _=>⟨fun e=>by injection e with e;rw[e] at Xe;simp at Xe,fun x m=>(hL2 x m).imp id fun e=>by rw[e];exact⟨ol b,rfl,hlen g1⟩⟩⟩
theorem aQV {s:aM} {v:SV} (hs:SD s v) (hn:((ol v.T).length:Int)<999999) (t:Table) (ht:sN t) :
 ∃r,aD Tryz.prog 117 [.agg (aB s),.agg (cI t)]=some r∧∃s' e,r=.dZ [.agg (aB s'),.v (.int .i64 e)]∧Flat (.agg (aB s'))∧e≠21∧(e=0→∃o',s'={ s with tables:=ov aR o' }∧((ol o').length:Int)≤max ((ol v.T).length:Int) s.cFg.mL.rE∧(∀x∈ol o',sN x)∧(ol v.T ⊆ ol o')∧o'≠some []∧∀x∈ol o',x∈ol v.T∨∃B,x.jP=ov bF (some B)∧(B.length:Int)=(ol v.B).length):=by
 have hf:=hs.flat
 have kU:=hs.fl
 have hfT:Flat (.agg (cI t)):=(kM t).2 ht.fl
 have hz:Flat (.agg (aB gL)):=by simp only[dW,gL,nY,Lg,Ep,Qn,and_self]
 obtain⟨r,hr,e,rfl,he⟩:=aQH t ht (ol v.B).length
 have GR:=kx hr (bI hfT (.v _)) (.v _)
 obtain⟨r2,hr2,o',e2,rfl,he2,A0,hT2,hsub,hne2⟩:=aQU v.T hn hs.tB t ht (ol v.B).length s.cFg.mL.rE
 have hf2:Flat (ov aR o'):=lW o' fun x m=>(hT2 x m).fl
 have k172:=kx hr2 (by simp only[List.mem_cons,List.not_mem_nil,or_false,forall_eq_or_imp,forall_eq,aGU,and_true];exact⟨hs.fT,hfT⟩) (.dZ _ (bI hf2 (.v _)))
 rw[cL Tryz.func117 rfl aLJ rfl];by_cases g1:e=0
 case neg =>
  simp only[Z8,seval,Wx hs,GR,bf g1];exact⟨_,by apply dP;rfl;all_goals simp only[aI,bY,Z8,seval,hz]<;>rfl,gL,e,rfl,hz,he,fun h=>absurd h g1⟩
 by_cases g2:t.ck.aK<s.bN.gY.aK
 ·simp only[Z8,seval,Wx hs,GR,bt g1,g2];exact⟨_,by apply dP;rfl;all_goals simp only[aI,bY,Z8,seval,hz]<;>rfl,gL,13,rfl,hz,by decide,fun h=>by cases h⟩
 by_cases g3:e2=0
 case neg =>
  simp only[Z8,seval,Wx hs,GR,bt g1,g2,hs.tables,k172,eC,bf g3];exact⟨_,by apply dP;rfl;all_goals simp only[aI,bY,Z8,seval,hz]<;>rfl,gL,e2,rfl,hz,he2,fun h=>absurd h g3⟩
 ·have hf3:Flat (.agg (aB { s with tables:=ov aR o' })):=by simp only[dW,kU,hf2,and_self]
  simp only[Z8,seval,Wx hs,GR,bt g1,g2,hs.tables,k172,eC,bt g3];exact⟨_,by apply dP;rfl;all_goals simp only[aI,bY,Z8,seval,hf3]<;>rfl,_,0,rfl,hf3,by decide,fun _=>⟨o',rfl,A0,hT2,hsub,hne2 g3⟩⟩
noncomputable def BR (v:SV):Int:=Jj (fun k=>0≤aP v.ns (gx fP (ol v.O) k).parent) (ol v.O).length
theorem aLK {s:aM} {v:SV} (hs:SD s v):aD Tryz.prog 218 [.agg (aB s)]=some (.v (.int .i64 (BR v))):=by
 have hn:=hs.nO
 rw[cL Tryz.func218 rfl aLL rfl];refine kN ?_
 simp only[Z8,seval,hs.bW];refine cB (fun m st=>∃k:Nat,(st.env 1=.ptr 1 0 0∧st.heap 1 0=some (.cells (aB s))∧st.env 3=.v (.int .i64 k))∧(∀j:Nat,j<k→¬(0≤aP v.ns (gx fP (ol v.O) (j:Int)).parent))∧k≤(ol v.O).length∧m=(ol v.O).length-k)
  (fun e st=>(e=.ret∧∃k:Nat,k<(ol v.O).length∧(0≤aP v.ns (gx fP (ol v.O) (k:Int)).parent)∧(∀j:Nat,j<k→¬(0≤aP v.ns (gx fP (ol v.O) (j:Int)).parent))∧st.env 2=.v (.int .i64 (k:Nat)))∨(e=.exit 0∧(∀j:Nat,j<(ol v.O).length→¬(0≤aP v.ns (gx fP (ol v.O) (j:Int)).parent))∧st.env 1=.ptr 1 0 0∧st.heap 1 0=some (.cells (aB s)))) ((ol v.O).length) ?step ?start ?rest
 case step =>
  rintro m st ⟨k,hI,hj,hk,hm⟩
  by_cases aZ:(k:Int)<(ol v.O).length
  ·have q0:(0:Int)≤k:=by omega
   have hw:IntKind.i64.wrap ((k:Int)+1)=((k+1:Nat):Int):=by rw[pM _ (by omega) (by omega)];omega
   by_cases hh:0≤aP v.ns (gx fP (ol v.O) (k:Int)).parent
   ·apply oT (.ret)
    ·simp only[Z8,seval,hI,aZ,q0,hs.bW,hs.tree,mS _ _ hs.nn,hh];rfl
    ·exact .inl ⟨rfl,k,by omega,hh,hj,by simp only[E8,seval,hs.bW,hs.tree,mS _ _ hs.nn]⟩
   ·apply oN ((ol v.O).length-(k+1))
    ·simp only[Z8,seval,hI,aZ,q0,hs.bW,hs.tree,mS _ _ hs.nn,hh,hw];rfl
    ·exact⟨k+1,by simp only[E8,seval,hI],fun j h=>(Nat.lt_succ_iff_lt_or_eq.1 h).elim (hj j) fun e=>by subst e;exact hh,by omega,rfl⟩
  ·apply oT (.exit 0)
   ·simp only[Z8,seval,hI,aZ,hs.bW,hs.tree,mS _ _ hs.nn];rfl
   ·exact .inr ⟨rfl,fun j h=>hj j (by omega),by simp only[E8,seval,hI]⟩
 case start=>exact⟨0,by simp only[E8,seval]<;>rfl,fun j h=>by omega,by omega,by omega⟩
 case rest =>
  rintro e st (⟨rfl,k,hk,hh,hj,h⟩|⟨rfl,hj,hI⟩)
  ·have hv:BR v=k:=Nl hh hj _ hk
   simp only[Z8,seval];exact⟨_,bX rfl (by simp only[E8,seval,h]<;>rfl) (by first|exact .v _|simp only[dW,h]),by rw[hv]⟩
  ·have hv:BR v=-1:=yO _ hj
   simp only[Z8,seval];exact⟨_,bX rfl (by simp only[E8,seval]<;>rfl) (by first|exact .v _|simp only[dW]),by rw[hv]⟩
theorem MT {s:aM} {v:SV} (hs:SD s v) (st:St) (d:Option Nat):aN (aD Tryz.prog) 218 [.agg (aB s)] st d=some { dst:=d,val:=.v (.int .i64 (BR v))}:=bL (cP hs.flat) (aLK hs) (.v _)
noncomputable def ES (e:Int) (r:cK) (a:List kS × Int) (x:Int):List kS × Int :=
 if (gx tT a.1 x).has=false∨(gx tT a.1 x).aK<e then (a.1.set x.toNat ⟨true,e,r⟩,IntKind.i64.wrap (a.2+1)) else a
noncomputable def uJ (L:List kS) (e:Int) (r:cK) (V:List Int):List kS × Int:=V.foldl (ES e r) (L,0)
theorem D0 (e:Int) (r:cK) (a:List kS × Int) (x:Int):(ES e r a x).1.length=a.1.length:=by unfold ES;split<;>simp
theorem Qo (L:List kS) (e:Int) (r:cK) (V:List Int):(uJ L e r V).1.length=L.length:=by
 unfold uJ;suffices h:∀(V:List Int) (a:List kS × Int),(V.foldl (ES e r) a).1.length=a.1.length from h V _
 intro V;induction V with
 | nil=>intro a;rfl
 | cons x V ih=>intro a;rw[List.foldl_cons,ih,D0]
theorem UE (L:List kS) (e:Int) (r:cK) (V:List Int) (k:Nat) (h:k<V.length):uJ L e r (V.take (k+1))=ES e r (uJ L e r (V.take k)) (gx (0:Int) V k):=by
 unfold uJ;rw[List.take_succ_eq_append_getElem h,List.foldl_append];simp[gx,h]
theorem aQW (o:Option (List kS)) (hn:((ol o).length:Int)<1000000) (e:Int) (r:cK) (V:Option (List Int)) (hV:((ol V).length:Int)<1000000) (hr:∀x∈ol V,0≤x∧x<(ol o).length) :
 aD Tryz.prog 110 [ov cO o,.v (.int .u64 e),.agg (aX r),ov aJ V]=some (.dZ [.sl (ol o).length (cO (uJ (ol o) e r (ol V)).1),.v (.int .i64 (uJ (ol o) e r (ol V)).2)]):=by
 rw[cL Tryz.func110 rfl aLM (by cases o<;>cases V<;>rfl)]
 refine kN ?_
 simp only[Z8,seval,MU _ hn];refine cB (fun m st=>∃(k:Nat) (l:List kS) (c:Int),(st.env 1=.v (.int .u64 e)∧st.env 6=.ptr 6 0 0∧st.heap 6 0=some (.cells (aX r))∧st.env 3=ov aJ V∧st.env 10=.own 15 0∧st.heap 15 0=some (.row 100 34 l.length (cO l))∧st.env 11=.v (.int .i64 c)∧st.env 12=.v (.int .i64 k))∧uJ (ol o) e r ((ol V).take k)=(l,c)∧l.length=(ol o).length∧k≤(ol V).length∧m=(ol V).length-k)
  (fun ex st=>ex=.exit 0∧∃(l:List kS) (c:Int),(st.env 10=.own 15 0∧st.heap 15 0=some (.row 100 34 l.length (cO l))∧st.env 11=.v (.int .i64 c))∧uJ (ol o) e r (ol V)=(l,c)∧l.length=(ol o).length) (ol V).length ?step ?start ?rest
 case step =>
  rintro m st ⟨k,l,c,hI,hc,hl,hk,hm⟩
  by_cases aZ:(k:Int)<(ol V).length
  ·have q0:(0:Int)≤k:=by omega
   have hw:IntKind.i64.wrap ((k:Int)+1)=((k+1:Nat):Int):=by rw[pM _ (by omega) (by omega)];omega
   have uW:=UE (ol o) e r (ol V) k (by omega)
   rw[hc] at uW;unfold ES at uW;have hx:=hr _ (vP (z:=(0:Int)) q0 aZ)
   obtain⟨x,ex⟩:∃x,gx (0:Int) (ol V) (k:Int)=x:=⟨_,rfl⟩
   rw[ex] at hx uW;have x0:0≤x:=hx.1
   have x1:x<(l.length:Int):=by rw[hl];exact hx.2
   have x2:x.toNat<l.length:=by omega
   have x3:x.toNat * 34+34≤l.length * 34:=by omega
   have ld:=ZF (T:=100) (n:=l.length) (k:=34) x0 x1 aFJ (by decide) (by decide)
   by_cases h1:(gx tT l x).has=true
   ·by_cases h2:(gx tT l x).aK<e
    ·rw[if_pos (.inr h2)] at uW;apply oN ((ol V).length-(k+1))
     ·simp only[Z8,seval,hI,aZ,q0,ex,x0,x1,x2,x3,ld,h1,h2,GS _ _ _ x2,hw];rfl
     ·exact⟨k+1,_,_,by simp only[E8,seval,hI,List.length_set]<;>exact⟨rfl,rfl⟩,uW,by rw[List.length_set,hl],by omega,rfl⟩
    ·rw[if_neg (by simp only[h1,h2,Bool.true_eq_false,or_self,not_false_eq_true])] at uW
     apply oN ((ol V).length-(k+1))
     ·simp only[Z8,seval,hI,aZ,q0,ex,x0,x1,x2,x3,ld,h1,h2,hw];rfl
     ·exact⟨k+1,l,c,by simp only[E8,seval,hI],uW,hl,by omega,rfl⟩
   ·have DT:(gx tT l x).has=false:=by simpa using h1
    rw[if_pos (.inl DT)] at uW;apply oN ((ol V).length-(k+1))
    ·simp only[Z8,seval,hI,aZ,q0,ex,x0,x1,x2,x3,ld,DT,GS _ _ _ x2,hw];rfl
    ·exact⟨k+1,_,_,by simp only[E8,seval,hI,List.length_set]<;>exact⟨rfl,rfl⟩,uW,by rw[List.length_set,hl],by omega,rfl⟩
  ·have Dv:k=(ol V).length:=by omega
   rw[Dv,List.take_length] at hc;apply oT (.exit 0)
   ·simp only[Z8,seval,hI,aZ];rfl
   ·exact⟨rfl,l,c,by simp only[E8,seval,hI],hc,hl⟩
 case start=>exact⟨0,ol o,0,by simp only[E8,seval]<;>rfl,rfl,rfl,by omega,by omega⟩
 case rest =>
  rintro ex st ⟨rfl,l,c,hI,hc,hl⟩
  rw[hc];simp only[Z8,seval,hI];exact⟨_,dP rfl rfl rfl (by simp only[E8,seval,hI,Vg]<;>rfl) (by simp only[E8,seval,hI,Vg]<;>rfl),by rw[hl]⟩
theorem aLN (o:Option (List kS)) (hn:((ol o).length:Int)<1000000) (e:Int) (r:cK) (V:Option (List Int)) (hV:((ol V).length:Int)<1000000) (hr:∀x∈ol V,0≤x∧x<(ol o).length) (st:St) (d:Option Nat) :
 aN (aD Tryz.prog) 110 [ov cO o,.v (.int .u64 e),.agg (aX r),ov aJ V] st d=some { dst:=d,val:=.dZ [.sl (ol o).length (cO (uJ (ol o) e r (ol V)).1),.v (.int .i64 (uJ (ol o) e r (ol V)).2)]} :=
 bL (by simp only[List.mem_cons,List.not_mem_nil,or_false,forall_eq_or_imp,forall_eq,dW,and_self,and_true,true_and]) (aQW o hn e r V hV hr) (.dZ _ (bI (.sl _ _ (nG _)) (.v _)))
noncomputable def Qp (s:aM) (v:SV) (a:sJ) (V:List Int):aM:={ s with gG:={ s.gG with dT:=ov cO (some (uJ (ol v.L) a.target.aK a.root V).1)} }
theorem c44 {s:aM} {v:SV} (hs:SD s v) (a:sJ) (V:Option (List Int)) (ha:a.eW=ov aJ V) (hV:((ol V).length:Int)<1000000) (hr:∀x∈ol V,0≤x∧x<(ol v.L).length) :
 aD Tryz.prog 44 [.agg (aB s),.agg (hU a)]=some (.agg (aB (Qp s v a (ol V)))):=by
 have kU:=hs.fl
 rw[cL Tryz.func44 rfl aQX rfl];refine kN ?_
 simp only[Z8,seval,hs.dT,ha,aLN v.L hs.nL _ _ V hV hr,eC];exact⟨_,fL rfl (by simp only[E8,seval,kU,and_self]<;>rfl) (by simp only[Z8,seval,kU,and_self]<;>rfl) (by simp only[dW,and_self,kU,and_self]),by unfold Qp;simp only[ov,Qo]⟩
theorem Xf (ns:List Node) (r:cK) (h:0≤aP ns r):(nd ns (aP ns r)).block.root=r:=by
 unfold aP at h ⊢
 cases hf:ns.findIdx? (fun n=>decide (n.block.root=r)) with
 | none=>rw[hf] at h;simp only at h;omega
 | some k =>
   obtain⟨hk,hp,_⟩:=List.findIdx?_eq_some_iff_getElem.1 hf
   simp only
   have:nd ns (k:Int)=ns[k]:=by simp[nd,hk]
   rw[this];exact of_decide_eq_true hp
theorem Nr {ns:List Node} {r:cK} {j:Int} (h0:0≤j) (h1:j<ns.length) (hr:(nd ns j).block.root=r):0≤aP ns r:=by
 unfold aP;cases hf:ns.findIdx? (fun n=>decide (n.block.root=r)) with
 | none =>
   obtain⟨hj,e⟩:=Ld h0 h1
   have:=List.findIdx?_eq_none_iff.1 hf ns[j.toNat] (List.getElem_mem hj)
   rw[← e] at this;simp[hr] at this
 | some k=>simp only;omega
structure GI (s:aM) (v:SV) (q:Int):Prop where
 sd:SD s v
 up:iB v.ns
 LW:(nd v.ns 0).up=-1
 pos:0<v.ns.length
 nl:(v.ns.length:Int)≤s.cFg.mL.sO
 UF:s.cFg.mL.sO≤4096
 rD:1≤s.cFg.rD∧s.cFg.rD≤64
 MV:(ol v.L).length=(ol v.B).length
 nB:((ol v.B).length:Int)≤1024
 nO:((ol v.O).length:Int)≤s.cFg.mL.wU
 MW:s.cFg.mL.wU≤64
 nE:((ol v.E).length:Int)≤s.cFg.mL.qG
 SW:s.cFg.mL.qG≤256
 nT:((ol v.T).length:Int)≤s.cFg.mL.rE
 UG:s.cFg.mL.rE≤64
 nQ:((ol v.Q).length:Int)≤q
 Q7:q≤900000
 gY:0≤aP v.ns s.bN.gY.root
theorem GI.sp {s:aM} {v:SV} {q:Int} (h:GI s v q):s.cFg.rD≠0:=by have:=h.rD.1;omega
theorem wV (s:aM) (v:SV) (c1 c2:fV):(xL s v c1 c2).cFg=s.cFg:=by unfold xL;split;rfl;split<;>rfl
theorem Ns (s:aM) (v:SV) (c1 c2:fV):(xL s v c1 c2).now=s.now:=by unfold xL;split;rfl;split<;>rfl
theorem GI.dM {s:aM} {v:SV} {q:Int} (h:GI s v q) (c1 c2:fV):GI (xL s v c1 c2) (Hc s v c1 c2) q:=by
 have hsd:=h.sd.dM h.up c1 c2
 by_cases b:mU s v (Gl s c1) (Dy s c2)
 ·rw[show xL s v c1 c2=s from if_pos b,show Hc s v c1 c2=v from if_pos b];exact h
 have hJ:0≤aP v.ns (Gl s c1).root:=by rcases Int.lt_or_le (aP v.ns (Gl s c1).root) 0 with g|g;exact absurd (.inl g) b;exact g
 have hF:0≤aP v.ns (Dy s c2).root:=by rcases Int.lt_or_le (aP v.ns (Dy s c2).root) 0 with g|g;exact absurd (.inr (.inl g)) b;exact g
 have hA:Aw v.ns (aP v.ns (Dy s c2).root) (aP v.ns (Gl s c1).root)=true:=by
  cases g:Aw v.ns (aP v.ns (Dy s c2).root) (aP v.ns (Gl s c1).root)
  ·exact absurd (.inr (.inr (.inr (.inr (.inr (.inr (.inl g))))))) b
  ·rfl
 have hT:((ol (nz (yP (ol v.T) (Gl s c1).aK))).length:Int)≤s.cFg.mL.rE:=by
  rw[nU];have:=List.length_filter_le (fun t:Table=>decide ((Gl s c1).aK≤t.ck.aK)) (ol v.T);have:=h.nT;unfold yP;omega
 by_cases e:Dy s c2=s.bN.fin
 ·have hS:xL s v c1 c2=_:=(if_neg b).trans (if_pos e)
  have hW:Hc s v c1 c2=_:=(if_neg b).trans (if_pos e)
  rw[hS,hW] at hsd ⊢;exact⟨hsd,h.up,h.LW,h.pos,h.nl,h.UF,h.rD,h.MV,h.nB,h.nO,h.MW,h.nE,h.SW,hT,h.UG,h.nQ,h.Q7,hJ⟩
 ·have hS:xL s v c1 c2=_:=(if_neg b).trans (if_neg e)
  have hW:Hc s v c1 c2=_:=(if_neg b).trans (if_neg e)
  rw[hS,hW] at hsd ⊢;have rF:=eY v.ns (Dy s c2).root
  have rJ:=eY v.ns (Gl s c1).root
  have EE:=LS h.up hF rF.2
  have h1:=LV h.up EE
  have h2:=LV h.up hA
  have hz:=YR h.up EE
  have hlen:=GO (ns:=v.ns) (aP v.ns (Dy s c2).root)
  have SX:=h.nl
  refine⟨hsd,aCJ h.up EE, ?_, ?_, ?_,h.UF,h.rD,h.MV,h.nB, ?_,h.MW,h.nE,h.SW,hT,h.UG,h.nQ,h.Q7, ?_⟩
  ·rw[hz] at h1;show (nd (oQ v.ns (aP v.ns (Dy s c2).root) v.ns.length).1 0).up=-1
   rw[h1.2.2,if_pos rfl]
  ·have:=h1.2.1;have:=h1.1
   show 0<(oQ v.ns (aP v.ns (Dy s c2).root) v.ns.length).1.length
   omega
  ·show (((oQ v.ns (aP v.ns (Dy s c2).root) v.ns.length).1.length:Nat):Int)≤s.cFg.mL.sO
   omega
  ·show ((ol (nz _)).length:Int)≤s.cFg.mL.wU
   rw[nU];have:=List.length_filter_le (fun b:Block=>decide ((Dx s (Dy s c2).aK).1<b.slot)) (ol v.O);have:=h.nO;omega
  ·refine Nr h2.1 h2.2.1 ?_
   rw[h2.2.2];exact Xf _ _ hJ
noncomputable def Cv (v:SV) (b:Block):List Node:=v.ns++[⟨b,aP v.ns b.parent,Tz b⟩]
noncomputable def Qq (s:aM) (v:SV) (b:Block):aM:={ s with tree:=⟨.sl (Cv v b).length (cF (Cv v b))⟩}
noncomputable def Nt (v:SV) (b:Block):SV:={ v with ns:=Cv v b }
noncomputable def Q8 (s:aM) (v:SV) (b:Block):aM:=xL (Qq s v b) (Nt v b) b.gY b.fin
noncomputable def Q9 (s:aM) (v:SV) (b:Block):SV:=Hc (Qq s v b) (Nt v b) b.gY b.fin
noncomputable def tG (s:aM) (v:SV) (b:Block):aM:=if Dw s b.slot<Dw s s.now then xL (Q8 s v b) (Q9 s v b) b.dQ.pj b.dQ.pf else Q8 s v b
noncomputable def lH (s:aM) (v:SV) (b:Block):SV:=if Dw s b.slot<Dw s s.now then Hc (Q8 s v b) (Q9 s v b) b.dQ.pj b.dQ.pf else Q9 s v b
theorem D1 (b:Block):TG (Tz b)=true:=by unfold Tz;split<;>rfl
theorem ZH {s:aM} {v:SV} {q:Int} (h:GI s v q) {b:Block} (hb:Jz s v b=0):BM v.ns b (Tz b)=0∧(v.ns.length:Int)<s.cFg.mL.sO∧0≤aP v.ns b.parent:=by
 unfold Jz at hb;by_cases g1:b.root=dO
 ·rw[if_pos g1] at hb;omega
 rw[if_neg g1] at hb;by_cases g2:KnB v b.root
 ·rw[if_pos g2] at hb;omega
 rw[if_neg g2] at hb;by_cases g3:s.now<b.slot
 ·rw[if_pos g3] at hb;omega
 rw[if_neg g3] at hb;by_cases g4:b.slot≤(Dx s s.bN.fin.aK).1
 ·rw[if_pos g4] at hb;omega
 rw[if_neg g4] at hb;by_cases g5:aP v.ns b.parent<0
 ·rw[if_pos g5] at hb;omega
 rw[if_neg g5] at hb;by_cases g6:b.slot≤(nd v.ns (aP v.ns b.parent)).block.slot
 ·rw[if_pos g6] at hb;omega
 rw[if_neg g6] at hb;by_cases g7:(nd v.ns (aP v.ns b.parent)).status=2
 ·rw[if_pos g7] at hb;omega
 rw[if_neg g7] at hb;by_cases g8:¬GM s v b
 ·rw[if_pos g8] at hb;omega
 rw[if_neg g8] at hb;by_cases g9:¬C4 s.cFg.BP (nd v.ns (aP v.ns b.parent)).block b
 ·rw[if_pos g9] at hb;omega
 rw[if_neg g9] at hb;by_cases Q6:s.cFg.mL.sO≤(v.ns.length:Int)
 ·rw[if_pos Q6] at hb;omega
 have:=h.UF
 refine⟨?_,by omega,by omega⟩
 unfold BM;rw[D1,if_neg (by simp),if_neg (fun h=>g2 (.inr h)),if_neg g5,if_neg g6,if_neg (by omega)]
theorem GI.Qq {s:aM} {v:SV} {q:Int} (h:GI s v q) {b:Block} (hb:(v.ns.length:Int)<s.cFg.mL.sO) (hp:0≤aP v.ns b.parent):GI (Qq s v b) (Nt v b) q:=by
 have hlen:(Cv v b).length=v.ns.length+1:=by unfold Cv;simp
 have hnB:=h.UF
 have hsd:SD (Tryz.Qq s v b) (Nt v b):=⟨h.sd.jP,h.sd.dT,h.sd.gX,h.sd.early,h.sd.bW,rfl,h.sd.tables,h.sd.eV,h.sd.tB,h.sd.nB,h.sd.nL,h.sd.nQ,h.sd.nE,h.sd.nO,h.sd.nT,by show ((Cv v b).length:Int)<1000000;omega⟩
 have rp:=eY v.ns b.parent
 refine⟨hsd,fun i h0 h1=>?_, ?_, ?_, ?_,h.UF,h.rD,h.MV,h.nB,h.nO,h.MW,h.nE,h.SW,h.nT,h.UG,h.nQ,h.Q7, ?_⟩
 ·have h1:i<((Cv v b).length:Int):=h1
  show 0≤(nd (Cv v b) i).up∧(nd (Cv v b) i).up<i
  by_cases hi:i<(v.ns.length:Int)
  ·unfold Cv;rw[Iu (by omega) hi];exact h.up i h0 hi
  ·unfold Cv;rw[DW (by omega)];exact⟨hp,by show aP v.ns b.parent<i;omega⟩
 ·show (nd (Cv v b) 0).up=-1
  unfold Cv;rw[Iu (by omega) (by have:=h.pos;omega)];exact h.LW
 ·show 0<(Cv v b).length;omega
 ·show ((Cv v b).length:Int)≤s.cFg.mL.sO;omega
 ·show 0≤aP (Cv v b) s.bN.gY.root
  have rj:=eY v.ns s.bN.gY.root
  refine Nr h.gY (by omega) ?_
  unfold Cv;rw[Iu h.gY rj.2];exact Xf _ _ h.gY
theorem GI.ins {s:aM} {v:SV} {q:Int} (h:GI s v q) {b:Block} (hb:Jz s v b=0):GI (tG s v b) (lH s v b) q:=by
 obtain⟨_,h2,h3⟩:=ZH h hb
 have g1:=h.Qq h2 h3
 have g2:=g1.dM b.gY b.fin
 unfold tG lH;split
 ·exact g2.dM _ _
 ·exact g2
theorem Be (s:aM) (v:SV) (b:Block):(tG s v b).cFg=s.cFg∧(tG s v b).now=s.now:=by
 unfold tG;split
 ·rw[wV,Ns];unfold Q8;rw[wV,Ns];exact⟨rfl,rfl⟩
 ·unfold Q8;rw[wV,Ns];exact⟨rfl,rfl⟩
theorem aLO {s:aM} {v:SV} {q:Int} (h:GI s v q) {b:Block} (hb:Jz s v b=0):aD Tryz.prog 217 [.agg (aB s),.agg (aT b)]=some (.agg (aB (tG s v b))):=by
 obtain⟨h1,h2,h3⟩:=ZH h hb
 have g1:=h.Qq h2 h3
 have g2:=g1.dM b.gY b.fin
 have hi:Gt v.ns b (Tz b)=.dZ [.agg (cU ⟨Cv v b⟩),.v (.int .i64 0)]:=if_pos h1
 have R0:=aPT v.ns h.sd.nn b (Tz b)
 rw[hi] at R0
 have k61a:=k61 g1.sd g1.up g1.sp b.gY b.fin
 have k61b:=k61 g2.sd g2.up g2.sp b.dQ.pj b.dQ.pf
 have hcfg:(xL (Tryz.Qq s v b) (Nt v b) b.gY b.fin).cFg.rD=s.cFg.rD:=by rw[wV];rfl
 have hnow:(xL (Tryz.Qq s v b) (Nt v b) b.gY b.fin).now=s.now:=by rw[Ns];rfl
 have hep:∀x,Dw (xL (Tryz.Qq s v b) (Nt v b) b.gY b.fin) x=Dw s x:=fun x=>by unfold Dw;rw[hcfg]
 have k98':=Mo (xL (Tryz.Qq s v b) (Nt v b) b.gY b.fin) g2.sp g2.sd.flat
 have e1:({ cFg:=s.cFg,gG:=s.gG,bN:=s.bN,dV:=s.dV,tree:=⟨.sl (Cv v b).length (cF (Cv v b))⟩,now:=s.now,iR:=s.iR,tables:=s.tables }:aM)=Tryz.Qq s v b:=rfl
 rw[cL Tryz.func217 rfl aLP rfl];refine kN ?_
 by_cases c:Dw s b.slot<Dw s s.now
 ·have hv:tG s v b=_:=if_pos c
  have UH:=(g2.dM b.dQ.pj b.dQ.pf).sd.flat
  simp only[Z8,seval,h.sd.tree,aLw,R0,eC,e1,k61a,k98',hep,hnow,c,k61b];exact⟨_,fL rfl (by simp only[E8,seval,UH]<;>rfl) (by simp only[Z8,seval,UH]<;>rfl) (by simp only[dW,and_self,UH]),by rw[hv];rfl⟩
 ·have hv:tG s v b=_:=if_neg c
  have UH:=g2.sd.flat
  simp only[Z8,seval,h.sd.tree,aLw,R0,eC,e1,k61a,k98',hep,hnow,c];exact⟨_,fL rfl (by simp only[E8,seval,UH]<;>rfl) (by simp only[Z8,seval,UH]<;>rfl) (by simp only[dW,and_self,UH]),by rw[hv];rfl⟩
theorem Qr {L:List Block} {k:Nat} (hk:k≤L.length) (a g:Nat):∃X,(∀(st:St) (hi:Operand),st.ev hi=.v (.int .i64 k)→st.heap a g=some (.row 74 238 L.length (aH L))→cS Tryz.prog st 45 (.own a g) none (some hi)=some X) ∧
 (∀st:St,st.heap a g=some (.row 74 238 L.length (aH L))→aQ st X=some ((L.take k).length,aH (L.take k))):=by
 have hl:(L.take k).length=k:=by simp;omega
 by_cases h0:k=0∧L.length=0
 ·obtain⟨rfl,h1⟩:=h0
  refine⟨.sl 0 [],fun st hi he hh=>?_,fun st hh=>by simp[aQ,aH]⟩
  simp[cS,oR,hh,he,h1]
 ·refine⟨.vw a g 0 k,fun st hi he hh=>?_,fun st hh=>?_⟩
  ·have:¬((0:Int)=k∧¬((0:Int)=0∧0<L.length)):=by omega
   have h2:(0:Int)≤k∧(k:Int)≤L.length:=by omega
   simp only[cS,oR,hh,he,if_neg this,h2,Int.le_refl,and_self,if_true];simp
   intro h3 h4;rw[h4] at h0;simp at h0
   omega
  ·have hb:k * 238≤(aH L).length:=by rw[Bf];exact Nat.mul_le_mul_right _ hk
   have:=yA (c:=aT) (sz:=238) bO L k
   simp only[aQ,hh,Nat.zero_add,hb,if_true,List.drop_zero,hl];exact congrArg (fun z=>some (k,z)) this
theorem Cw {L:List Block} {k:Nat} (hk:k≤L.length) (a g:Nat):∃X,(∀(st:St) (lo:Operand),st.ev lo=.v (.int .i64 k)→st.heap a g=some (.row 74 238 L.length (aH L))→cS Tryz.prog st 45 (.own a g) (some lo) none=some X) ∧
 (∀st:St,st.heap a g=some (.row 74 238 L.length (aH L))→aQ st X=some ((L.drop k).length,aH (L.drop k))):=by
 have hl:(L.drop k).length=L.length-k:=by simp
 by_cases h0:k=L.length
 ·by_cases hz:0<k
  ·refine⟨.sl 0 [],fun st lo he hh=>?_,fun st hh=>by rw[h0];simp[aQ,aH]⟩
   have:(k:Int)=L.length∧¬((k:Int)=0∧0<L.length):=by omega
   have h2:(0:Int)≤k∧(k:Int)≤L.length:=by omega
   simp only[cS,oR,hh,he,if_pos this,h2,Int.le_refl,and_self,if_true]
  ·refine⟨.sl 0 [],fun st lo he hh=>?_,fun st hh=>by rw[h0];simp[aQ,aH]⟩
   have:(k:Int)=L.length∧¬((k:Int)=0∧0<L.length):=by omega
   have h2:(0:Int)≤k∧(k:Int)≤L.length:=by omega
   simp only[cS,oR,hh,he,if_pos this,h2,Int.le_refl,and_self,if_true]
 ·refine⟨.vw a g (k * 238) (L.length-k),fun st lo he hh=>?_,fun st hh=>?_⟩
  ·have h1:¬((k:Int)=L.length∧¬((k:Int)=0∧0<L.length)):=by omega
   have h2:((L.length:Int)-(k:Int)).toNat=L.length-k:=by omega
   have h3:(0:Int)≤k∧(k:Int)≤L.length:=by omega
   simp only[cS,oR,hh,he,if_neg h1,h3,Int.le_refl,and_self,if_true,h2,Int.toNat_natCast]
  ·have hb:k * 238+(L.length-k) * 238≤(aH L).length:=by rw[Bf,← Nat.add_mul];exact Nat.mul_le_mul_right _ (by omega)
   have:=yB (c:=aT) (sz:=238) bO L k
   have h3:((aH L).drop (k * 238)).length=(L.length-k) * 238:=by rw[List.length_drop,Bf,Nat.sub_mul]
   simp only[aQ,hh,hb,if_true,hl];rw[List.take_of_length_le (by omega)]
   exact congrArg (fun z=>some (L.length-k,z)) this
theorem GI.iR {s:aM} {v:SV} {q:Int} (h:GI s v q) (r:cK):GI { s with iR:=r } v q :=
 ⟨⟨h.sd.jP,h.sd.dT,h.sd.gX,h.sd.early,h.sd.bW,h.sd.tree,h.sd.tables,h.sd.eV,h.sd.tB,h.sd.nB,h.sd.nL,h.sd.nQ,h.sd.nE,h.sd.nO,h.sd.nT,h.sd.nn⟩,h.up,h.LW,h.pos,h.nl,h.UF,h.rD,h.MV,h.nB,h.nO,h.MW,h.nE,h.SW,h.nT,h.UG,h.nQ,h.Q7,h.gY⟩
def mV (s:aM) (x:AV):aM:={ s with dV:={ s.dV with bW:=x }}
theorem GI.UI {s:aM} {v:SV} {q:Int} (h:GI s v q) (O:Option (List Block)) (hO:((ol O).length:Int)≤s.cFg.mL.wU):GI (mV s (ov aH O)) { v with O:=O } q :=
 ⟨⟨h.sd.jP,h.sd.dT,h.sd.gX,h.sd.early,rfl,h.sd.tree,h.sd.tables,h.sd.eV,h.sd.tB,h.sd.nB,h.sd.nL,h.sd.nQ,h.sd.nE,by have:=h.MW;show ((ol O).length:Int)<1000000;omega,h.sd.nT,h.sd.nn⟩,h.up,h.LW,h.pos,h.nl,h.UF,h.rD,h.MV,h.nB,hO,h.MW,h.nE,h.SW,h.nT,h.UG,h.nQ,h.Q7,h.gY⟩
theorem UJ (s:aM) (v:SV) (c1 c2:fV):(ol (Hc s v c1 c2).O).length≤(ol v.O).length:=by
 unfold Hc;split
 ·exact Nat.le_refl _
 split
 ·exact Nat.le_refl _
 ·show (ol (nz _)).length≤_
  rw[nU];exact List.length_filter_le _ _
theorem UK (s:aM) (v:SV) (b:Block):(ol (lH s v b).O).length≤(ol v.O).length:=by
 unfold lH;split
 ·exact Nat.le_trans (UJ _ _ _ _) (UJ _ _ _ _)
 ·exact UJ _ _ _ _
theorem zN {s:aM} {v:SV} (h:SD s v) {O:List Block} {a g:Nat} (st:St) (hh:st.heap a g=some (.row 74 238 O.length (aH O))):fU st (.agg (aB (mV s (.own a g))))=some (.agg (aB (mV s (ov aH (some O))))):=by
 have kU:=h.fl
 unfold mV;simp only[bR,gH,bG,hh,uI,cH,dW,kU,cW];rfl
def Rg (x:Int):Prop:=0≤x∧x<18446744073709551616
structure RB (b:Block):Prop where
 sl:Rg b.slot
 j:Rg b.gY.aK
 f:Rg b.fin.aK
 pj:Rg b.dQ.pj.aK
 pf:Rg b.dQ.pf.aK
def Pr (r:cK):Prop:=r≠dO∧r≠mkRoot 99
theorem Xg {α:Type} (l:List α):nz l≠some []:=by
 unfold nz;split
 ·nofun
 ·rename_i h;intro e;injection e with e;exact h e
structure NEv (v:SV):Prop where
 q:v.Q≠some []
 e:v.E≠some []
 o:v.O≠some []
 t:v.T≠some []
 ea:∀a∈ol v.E,∃V,a.eW=ov aJ (some V)∧V≠[]
 tb:∀t∈ol v.T,∃B,t.jP=ov bF (some B)∧B≠[]
structure RG (s:aM) (v:SV):Prop where
 now:0≤s.now∧s.now≤1099511627776
 j:Rg s.bN.gY.aK
 f:Rg s.bN.fin.aK
 nd:∀n∈v.ns,RB n.block∧n.block.slot≤s.now
 or:∀b∈ol v.O,RB b∧Pr b.root
 rt:∀n∈v.ns,Pr n.block.root
 fe:s.bN.fin.aK≤s.bN.gY.aK∧s.bN.gY.aK≤Dw s s.now
 ds:(v.ns.map fun n=>n.block.root).Nodup
 tb:∃t∈ol v.T,t.ck=s.bN.gY
 ne:NEv v
theorem GU {ns:List Node} {i:Int} (h0:0≤i) (h1:i<ns.length):nd ns i∈ns:=by
 obtain⟨h,e⟩:=Ld h0 h1
 rw[e];exact List.getElem_mem h
theorem Vh (ns:List Node) (i:Int):∀k:Nat,k≤ns.length→∀n∈(oQ ns i k).1,∃a∈ns,n.block=a.block∧n.status=a.status
 | 0,_,n,hn=>by simp[oQ] at hn
 | k+1,hk,n,hn=>by
   unfold oQ at hn;simp only at hn
   split at hn
   ·rcases List.mem_append.1 hn with hn|hn
    ·exact Vh ns i k (by omega) n hn
    ·rw[List.mem_singleton] at hn;subst hn;exact⟨nd ns k,GU (by omega) (by omega),rfl,rfl⟩
   ·exact Vh ns i k (by omega) n hn
theorem ZI (ns:List Node) (i:Int):∀k:Nat,k≤ns.length→((oQ ns i k).1.map (·.block)).Sublist ((ns.take k).map (·.block))
 | 0,_=>by simp[oQ]
 | k+1,hk=>by
   have ih:=ZI ns i k (by omega)
   have e:ns.take (k+1)=ns.take k++[nd ns k]:=by
    rw[List.take_succ_eq_append_getElem (by omega)]
    have h:k<ns.length:=by omega
    simp[Go.Ab.nd,h]
   unfold oQ;simp only
   rw[e,List.map_append];split
   ·rw[List.map_append];exact ih.append (by simp)
   ·exact ih.trans (List.sublist_append_left ..)
theorem D2 {ns:List Node} (h:(ns.map fun n=>n.block.root).Nodup) (i:Int):((oQ ns i ns.length).1.map fun n=>n.block.root).Nodup:=by
 have h1:=(ZI ns i ns.length (Nat.le_refl _)).map (·.root)
 rw[List.take_length] at h1;simp only[List.map_map] at h1;exact h.sublist h1
theorem RG.dM {s:aM} {v:SV} (r:RG s v) {c1 c2:fV} (r1:Rg c1.aK) (r2:Rg c2.aK):RG (xL s v c1 c2) (Hc s v c1 c2):=by
 have hJ:Rg (Gl s c1).aK:=by unfold Gl;split;exact r1;exact r.j
 have hF:Rg (Dy s c2).aK:=by unfold Dy;split;exact r2;exact r.f
 by_cases b:mU s v (Gl s c1) (Dy s c2)
 ·rw[show xL s v c1 c2=s from if_pos b,show Hc s v c1 c2=v from if_pos b];exact r
 have fe:(Dy s c2).aK≤(Gl s c1).aK∧(Gl s c1).aK≤Dw s s.now:=by
  unfold mU at b;simp only[not_or] at b;obtain⟨_,_,_,_,_,_,_,b8,b9,_⟩:=b
  omega
 have tb:∃t∈ol (nz (yP (ol v.T) (Gl s c1).aK)),t.ck=Gl s c1:=by
  unfold mU at b;simp only[not_or] at b;obtain⟨_,_,_,_,_,_,_,_,_,b10⟩:=b
  unfold N4 at b10;rcases El (fun k=>(gx iY (ol v.T) k).ck=Gl s c1) (ol v.T).length with ⟨e,_⟩|⟨k,h1,h2,_,h3⟩
  ·rw[e] at b10;omega
  ·refine⟨gx iY (ol v.T) k, ?_,h2⟩
   rw[nU];refine List.mem_filter.2 ⟨vP (by omega) (by omega),decide_eq_true ?_⟩
   rw[h2];exact Int.le_refl _
 by_cases e:Dy s c2=s.bN.fin
 ·rw[show xL s v c1 c2=_ from (if_neg b).trans (if_pos e),show Hc s v c1 c2=_ from (if_neg b).trans (if_pos e)];exact⟨r.now,hJ,hF,r.nd,r.or,r.rt,fe,r.ds,tb,⟨r.ne.q,r.ne.e,r.ne.o,Xg _,r.ne.ea,fun t ht=>r.ne.tb t (by have ht:t∈ol (nz (yP (ol v.T) (Gl s c1).aK)):=ht;rw[nU] at ht;exact (List.mem_filter.1 ht).1)⟩⟩
 ·rw[show xL s v c1 c2=_ from (if_neg b).trans (if_neg e),show Hc s v c1 c2=_ from (if_neg b).trans (if_neg e)];refine⟨r.now,hJ,hF,fun n hn=>?_,fun o ho=>?_,fun n hn=>?_,fe,D2 r.ds _,tb,⟨r.ne.q,r.ne.e,Xg _,Xg _,r.ne.ea,fun t ht=>r.ne.tb t (by have ht:t∈ol (nz (yP (ol v.T) (Gl s c1).aK)):=ht;rw[nU] at ht;exact (List.mem_filter.1 ht).1)⟩⟩
  ·obtain⟨a,ha,e1,_⟩:=Vh _ _ _ (Nat.le_refl _) n hn
   rw[e1];exact r.nd a ha
  ·have ho:o∈ol (nz ((ol v.O).filter fun b=>decide ((Dx s (Dy s c2).aK).1<b.slot))):=ho
   rw[nU] at ho;exact r.or o (List.mem_filter.1 ho).1
  ·obtain⟨a,ha,e1,_⟩:=Vh _ _ _ (Nat.le_refl _) n hn
   rw[e1];exact r.rt a ha
theorem R1 {s:aM} {v:SV} {b:Block} (hb:Jz s v b=0∨Jz s v b=10):b.slot≤s.now:=by
 unfold Jz at hb;by_cases g1:b.root=dO
 ·rw[if_pos g1] at hb;omega
 rw[if_neg g1] at hb;by_cases g2:KnB v b.root
 ·rw[if_pos g2] at hb;omega
 rw[if_neg g2] at hb;by_cases g3:s.now<b.slot
 ·rw[if_pos g3] at hb;omega
 ·omega
theorem aCX {s:aM} {v:SV} {b:Block} (hb:Jz s v b=0):aP v.ns b.root<0:=by
 rcases Int.lt_or_le (aP v.ns b.root) 0 with h|h
 ·exact h
 ·unfold Jz at hb;by_cases g1:b.root=dO
  ·rw[if_pos g1] at hb;omega
  ·rw[if_neg g1,if_pos (.inr h)] at hb;omega
theorem D3 {ns:List Node} {r:cK} (h:aP ns r<0):r ∉ ns.map fun n=>n.block.root:=by
 intro hm;obtain⟨n,hn,e⟩:=List.mem_map.1 hm
 obtain⟨k,hk,rfl⟩:=List.getElem_of_mem hn
 have:0≤aP ns r:=Nr (j:=(k:Int)) (by omega) (by omega) (by
  have:Go.Ab.nd ns (k:Int)=ns[k]:=by simp[Go.Ab.nd,hk]
  rw[this];exact e)
 omega
theorem RG.ins {s:aM} {v:SV} (r:RG s v) {b:Block} (rb:RB b∧Pr b.root) (hc:Jz s v b=0):RG (tG s v b) (lH s v b):=by
 have hs:=R1 (.inl hc)
 have g1:RG (Tryz.Qq s v b) (Nt v b):=⟨r.now,r.j,r.f,fun n hn=>by
  rcases List.mem_append.1 (show n∈v.ns++[⟨b,aP v.ns b.parent,Tz b⟩] from hn) with hn|hn
  ·exact r.nd n hn
  ·rw[List.mem_singleton] at hn;subst hn;exact⟨rb.1,hs⟩,r.or,fun n hn=>by
  rcases List.mem_append.1 (show n∈v.ns++[⟨b,aP v.ns b.parent,Tz b⟩] from hn) with hn|hn
  ·exact r.rt n hn
  ·rw[List.mem_singleton] at hn;subst hn;exact rb.2,r.fe,by
  show ((v.ns++[(⟨b,aP v.ns b.parent,Tz b⟩:Node)]).map fun n:Node=>n.block.root).Nodup
  rw[List.map_append];refine List.nodup_append.2 ⟨r.ds,by simp,fun x hx y hy=>?_⟩
  simp only[List.map_cons,List.map_nil,List.mem_singleton] at hy;rintro rfl
  exact D3 (aCX hc) (hy ▸ hx),r.tb,⟨r.ne.q,r.ne.e,r.ne.o,r.ne.t,r.ne.ea,r.ne.tb⟩⟩
 have g2:=g1.dM rb.1.j rb.1.f
 unfold tG lH;split
 ·exact RG.dM g2 rb.1.pj rb.1.pf
 ·exact g2
theorem RG.UI {s:aM} {v:SV} (r:RG s v) (O:Option (List Block)) (x:AV) (h:∀b∈ol O,RB b∧Pr b.root) (hO:O≠some []):RG (mV s x) { v with O:=O }:=⟨r.now,r.j,r.f,r.nd,h,r.rt,r.fe,r.ds,r.tb,⟨r.ne.q,r.ne.e,hO,r.ne.t,r.ne.ea,r.ne.tb⟩⟩
theorem RG.iR {s:aM} {v:SV} (r:RG s v) (x:cK):RG { s with iR:=x } v:=⟨r.now,r.j,r.f,r.nd,r.or,r.rt,r.fe,r.ds,r.tb,r.ne⟩
theorem GI.mono {s:aM} {v:SV} {q q':Int} (h:GI s v q) (h1:q≤q') (h2:q'≤900000):GI s v q' :=
 ⟨h.sd,h.up,h.LW,h.pos,h.nl,h.UF,h.rD,h.MV,h.nB,h.nO,h.MW,h.nE,h.SW,h.nT,h.UG,by have:=h.nQ;omega,h2,h.gY⟩
theorem Iw:Flat (.agg (aB gL)):=by simp only[dW,gL,nY,Lg,Ep,Qn,and_self]
def StR (s:aM) (q:Int) (r:AV):Prop:=∃(s':aM) (e:Int),r=.dZ [.agg (aB s'),.v (.int .i64 e)]∧Flat (.agg (aB s'))∧e≠21∧(e=0→∃v',GI s' v' q∧RG s' v'∧s'.cFg=s.cFg)
def StN (s:aM) (v:SV) (q:Int) (r:AV):Prop:=∃(s':aM) (e:Int),r=.dZ [.agg (aB s'),.v (.int .i64 e)]∧Flat (.agg (aB s'))∧e≠21∧(e=0→∃v',GI s' v' q∧RG s' v'∧s'.cFg=s.cFg∧v'.ns=v.ns)
theorem aG5 (s:aM) (v:SV) (b:Block):Jz s v b≠21:=by
 unfold Jz;repeat (split;simp)
 simp
end Go.Ab.Tryz
namespace Go.Ab.Tryz
open Classical Go.Proofs Go.Ab
end Go.Ab.Tryz
namespace Go.Ab.Tryz
open Classical Go.Proofs Go.Ab
theorem aCY (o:Option (List cK)) (hn:((ol o).length:Int)<1000000) (r:cK):∃x,aD Tryz.prog 250 [ov gV o,.agg (aX r)]=some x∧∃b:Bool,x=.v (.bool b):=by
 rw[cL Tryz.func250 rfl aLQ (by cases o<;>rfl)]
 simp only[Z8,seval];refine cB (fun m st=>∃k:Nat,(st.env 0=ov gV o∧st.env 3=.ptr 3 0 0∧st.heap 3 0=some (.cells (aX r))∧st.env 5=.v (.int .i64 k))∧(∀j:Nat,j<k→¬(gx dO (ol o) (j:Int)=r))∧k≤(ol o).length∧m=(ol o).length-k)
  (fun e st=>(e=.ret∧∃k:Nat,k<(ol o).length∧(gx dO (ol o) (k:Int)=r)∧(∀j:Nat,j<k→¬(gx dO (ol o) (j:Int)=r))∧st.env 4=.v (.bool true))∨(e=.exit 0∧(∀j:Nat,j<(ol o).length→¬(gx dO (ol o) (j:Int)=r))∧st.env 0=ov gV o∧st.env 3=.ptr 3 0 0∧st.heap 3 0=some (.cells (aX r)))) ((ol o).length) ?step ?start ?rest
 case step =>
  rintro m st ⟨k,hI,hj,hk,hm⟩
  by_cases aZ:(k:Int)<(ol o).length
  ·have q0:(0:Int)≤k:=by omega
   have hw:IntKind.i64.wrap ((k:Int)+1)=((k+1:Nat):Int):=by rw[pM _ (by omega) (by omega)];omega
   by_cases hh:gx dO (ol o) (k:Int)=r
   ·apply oT (.ret)
    ·simp only[Z8,seval,hI,aZ,q0,hh];rfl
    ·exact .inl ⟨rfl,k,by omega,hh,hj,by simp only[E8,seval]⟩
   ·apply oN ((ol o).length-(k+1))
    ·simp only[Z8,seval,hI,aZ,q0,hh,hw];rfl
    ·exact⟨k+1,by simp only[E8,seval,hI],fun j h=>(Nat.lt_succ_iff_lt_or_eq.1 h).elim (hj j) fun e=>by subst e;exact hh,by omega,rfl⟩
  ·apply oT (.exit 0)
   ·simp only[Z8,seval,hI,aZ];rfl
   ·exact .inr ⟨rfl,fun j h=>hj j (by omega),by simp only[E8,seval,hI]⟩
 case start=>exact⟨0,by simp only[E8,seval]<;>rfl,fun j h=>by omega,by omega,by omega⟩
 case rest =>
  rintro e st (⟨rfl,k,hk,hh,hj,h⟩|⟨rfl,hj,hI⟩)
  ·simp only[Z8,seval];exact⟨_,bX rfl (by simp only[E8,seval,h]<;>rfl) (by first|exact .v _|simp only[dW,h]),_,rfl⟩
  ·simp only[Z8,seval];exact⟨_,bX rfl (by simp only[E8,seval]<;>rfl) (by first|exact .v _|simp only[dW]),_,rfl⟩
theorem D4 (l:List Table) (c:fV):-1≤N4 l c∧N4 l c<l.length:=TZ _ _
theorem aQZ {s:aM} {v:SV} (hs:SD s v):∃x,aD Tryz.prog 239 [.agg (aB s)]=some x∧∃o:Option (List Int),x=ov bF o∧((ol o).length:Int)<1000000:=by
 have SS:=hs.fT
 rw[cL Tryz.func239 rfl aLR rfl];have r1:=D4 (ol v.T) s.bN.gY
 by_cases g1:N4 (ol v.T) s.bN.gY<0
 ·simp only[Z8,seval,hs.tables,ZB _ hs.nT SS,g1];exact⟨_,bX rfl (by simp only[E8,seval]<;>rfl) (by first|exact .v _|simp only[dW]),none,rfl,by simp[ol]⟩
 have q0:0≤N4 (ol v.T) s.bN.gY:=by omega
 obtain⟨b,hb,hl⟩:=hs.tB _ (vP (z:=iY) q0 r1.2)
 simp only[Z8,seval,hs.tables,ZB _ hs.nT SS,g1,q0,r1,hb];exact⟨_,bX rfl (by simp only[E8,seval,hb]<;>rfl) (dU b),b,rfl,hl⟩
theorem aQ0 (a b:Claim) (ha:Flat a.eW) (hb:Flat b.eW):∃x,aD Tryz.prog 234 [.agg (gO a),.agg (gO b)]=some x∧∃c:Bool,x=.v (.bool c):=by
 rw[cL Tryz.func234 rfl aLS rfl];by_cases g1:a.target=b.target
 ·by_cases g2:a.source=b.source
  ·by_cases g3:a.root=b.root
   all_goals
    have g4:¬a.source<b.source:=by omega
    have g5:¬b.source<a.source:=by omega
    simp only[Z8,seval,bt g1,bt g2,g3,g4,g5];exact⟨_,bX rfl (by simp only[E8,seval]<;>rfl) (by first|exact .v _|simp only[dW]),_,rfl⟩
  ·by_cases g4:a.source<b.source
   all_goals
    by_cases g5:b.source<a.source
    all_goals
     by_cases g6:b.target<a.target
     all_goals
      by_cases g7:a.target<b.target
      all_goals
       simp only[Z8,seval,bt g1,bf g2,g4,g5,g6,g7];exact⟨_,bX rfl (by simp only[E8,seval]<;>rfl) (by first|exact .v _|simp only[dW]),_,rfl⟩
 ·by_cases g4:a.source<b.source
  all_goals
   by_cases g5:b.source<a.source
   all_goals
    by_cases g6:b.target<a.target
    all_goals
     by_cases g7:a.target<b.target
     all_goals
      simp only[Z8,seval,bf g1,g4,g5,g6,g7];exact⟨_,bX rfl (by simp only[E8,seval]<;>rfl) (by first|exact .v _|simp only[dW]),_,rfl⟩
theorem aQ1 {s:aM} {v:SV} (hs:SD s v):∃x,aD Tryz.prog 209 [.agg (aB s)]=some x∧∃r:cK,x=.agg (aX r):=by
 rw[cL Tryz.func209 rfl aLT rfl];have r1:=eY v.ns s.bN.gY.root
 by_cases g1:0≤aP v.ns s.bN.gY.root
 ·by_cases g2:(nd v.ns (aP v.ns s.bN.gY.root)).status=1
  ·simp only[Z8,seval,hs.tree,mS _ _ hs.nn,g1,r1,bt g2];exact⟨_,fL rfl (by simp only[E8,seval]<;>rfl) (by simp only[Z8,seval]<;>rfl) (by simp only[dW,and_self]),_,rfl⟩
  ·simp only[Z8,seval,hs.tree,mS _ _ hs.nn,g1,r1,bf g2];exact⟨_,fL rfl (by simp only[E8,seval]<;>rfl) (by simp only[Z8,seval]<;>rfl) (by simp only[dW,and_self]),_,rfl⟩
 ·simp only[Z8,seval,hs.tree,mS _ _ hs.nn,g1];exact⟨_,fL rfl (by simp only[E8,seval]<;>rfl) (by simp only[Z8,seval]<;>rfl) (by simp only[dW,and_self]),_,rfl⟩
theorem aQ2 (c:Config) (hc:Flat c.jP) (x:Int):∃r,aD Tryz.prog 240 [.agg (bV c),.v (.int .u64 x)]=some r∧∃a e:Int,r=.dZ [.v (.int .u64 a),.v (.int .i64 e)]:=by
 rw[cL Tryz.func240 rfl aLU rfl];by_cases g1:c.rD<1
 ·simp only[Z8,seval,g1];exact⟨_,dP rfl rfl rfl (by simp only[E8,seval]<;>rfl) (by simp only[E8,seval]<;>rfl),_,_,rfl⟩
 by_cases g2:64<c.rD
 ·simp only[Z8,seval,g1,g2];exact⟨_,dP rfl rfl rfl (by simp only[E8,seval]<;>rfl) (by simp only[E8,seval]<;>rfl),_,_,rfl⟩
 by_cases g3:100<c.Hf
 ·simp only[Z8,seval,g1,g2,g3];exact⟨_,dP rfl rfl rfl (by simp only[E8,seval]<;>rfl) (by simp only[E8,seval]<;>rfl),_,_,rfl⟩
 by_cases g4:4611686018427387904<x
 ·simp only[Z8,seval,g1,g2,g3,g4];exact⟨_,dP rfl rfl rfl (by simp only[E8,seval]<;>rfl) (by simp only[E8,seval]<;>rfl),_,_,rfl⟩
 have g5:(c.rD=0)=False:=eq_false (by omega)
 simp only[Z8,seval,g1,g2,g3,g4,g5];exact⟨_,dP rfl rfl rfl (by simp only[E8,seval]<;>rfl) (by simp only[E8,seval]<;>rfl),_,_,rfl⟩
noncomputable def aG6 (o:Option (List cK)) (r:cK):Bool:=if h:((ol o).length:Int)<1000000 then Classical.choose (Classical.choose_spec (aCY o h r)).2 else false
theorem aQ3 (o:Option (List cK)) (hn:((ol o).length:Int)<1000000) (r:cK) (st:St) (d:Option Nat):aN (aD Tryz.prog) 250 [ov gV o,.agg (aX r)] st d=some { dst:=d,val:=.v (.bool (aG6 o r))}:=by
 have h:=(Classical.choose_spec (aCY o hn r)).1
 rw[Classical.choose_spec (Classical.choose_spec (aCY o hn r)).2] at h;rw[show aG6 o r=Classical.choose (Classical.choose_spec (aCY o hn r)).2 from dif_pos hn];exact bL (bI (Hg o) (qT r)) h (.v _)
theorem aQ4 (o:Option (List Int)) (hn:((ol o).length:Int)<999999) (x:Int):∃r,aD Tryz.prog 235 [ov aJ o,.v (.int .i64 x)]=some r∧(r=ov aJ o∨∃L:List Int,r=.uniq 3 1 L.length (aJ L)∧L.length=(ol o).length+1):=by
 rw[cG Tryz.func235 rfl aLV (by kernel_rfl) (by cases o<;>rfl)]
 simp only[ZG,seval,Bool.false_and,Prod.mk.injEq,Xh];refine mH (fun m st=>∃k:Nat,(st.env 0=ov aJ o∧st.env 1=.v (.int .i64 x)∧st.env 5=.v (.int .i64 k))∧k≤(ol o).length∧m=(ol o).length-k)
  (fun e st=>e=.exit 0∧∃k:Nat,(st.env 0=ov aJ o∧st.env 1=.v (.int .i64 x)∧st.env 5=.v (.int .i64 k))∧k≤(ol o).length) (ol o).length ?step ?start ?rest
 case step =>
  rintro m st ⟨k,hI,hk,hm⟩
  by_cases aZ:(k:Int)<(ol o).length
  ·have q0:(0:Int)≤k:=by omega
   have hw:IntKind.i64.wrap ((k:Int)+1)=((k+1:Nat):Int):=by rw[pM _ (by omega) (by omega)];omega
   by_cases h1:gx (0:Int) (ol o) (k:Int)<x
   ·apply En ((ol o).length-(k+1))
    ·simp only[ZG,seval,Bool.false_and,Prod.mk.injEq,Xh,hI,aZ,q0,h1,hw];rfl
    ·exact⟨k+1,by simp only[E8,seval,hI],by omega,rfl⟩
   ·apply LB (.exit 0)
    ·simp only[ZG,seval,Bool.false_and,Prod.mk.injEq,Xh,hI,aZ,q0,h1];rfl
    ·exact⟨rfl,k,by simp only[E8,seval,hI],hk⟩
  ·apply LB (.exit 0)
   ·simp only[ZG,seval,Bool.false_and,Prod.mk.injEq,Xh,hI,aZ];rfl
   ·exact⟨rfl,k,by simp only[E8,seval,hI],hk⟩
 case start=>exact⟨0,by simp only[E8,seval]<;>rfl,by omega,by omega⟩
 case rest =>
  rintro e st ⟨rfl,k,hI,hk⟩
  have e1:ol (o.map (·.take k))=(ol o).take k:=by cases o<;>simp[ol]
  have e2:ol (o.map (·.drop k))=(ol o).drop k:=by cases o<;>simp[ol]
  have n1:((((ol o).take k).length:Nat):Int)<1000000:=by rw[List.length_take];omega
  have n2:((((ol o).drop k).length:Nat):Int)<1000000:=by rw[List.length_drop];omega
  have n3:((((ol o).take k++[x]).length:Nat):Int)<1000000:=by rw[List.length_append,List.length_take];simp;omega
  have q0:(0:Int)≤k:=by omega
  have q1:(k:Int)≤((ol o).length:Int):=by omega
  have go:∃r,some (AV.uniq 3 1 ((ol o).take k++[x]++(ol o).drop k).length (aJ ((ol o).take k++[x]++(ol o).drop k)))=some r∧(r=ov aJ o∨∃L:List Int,r=.uniq 3 1 L.length (aJ L)∧L.length=(ol o).length+1) :=
   ⟨_,rfl,.inr ⟨_,rfl,by simp;omega⟩⟩
  by_cases aZ:(k:Int)<(ol o).length
  ·by_cases h2:gx (0:Int) (ol o) (k:Int)=x
   ·simp only[ZG,seval,Bool.false_and,Prod.mk.injEq,Xh,hI,aZ,q0,bt h2];exact⟨_,bX rfl (by simp only[E8,seval,hI]<;>rfl) (bQ o),.inl rfl⟩
   ·simp only[ZG,seval,Bool.false_and,Prod.mk.injEq,Xh,Bc,Bd,and_self,hI,aZ,q0,q1,bf h2,Int.toNat_natCast,e1,e2,Nu _ n1,Er _ _ _ _ n1,GV _ _ _ _ n3 n2];refine⟨_,tD rfl (by simp only[E8,seval]<;>rfl) (by simp only[E8,seval]<;>rfl) (gD _),.inr ⟨_,rfl,by simp;omega⟩⟩
  ·simp only[ZG,seval,Bool.false_and,Prod.mk.injEq,Xh,Bc,Bd,and_self,hI,aZ,q0,q1,Int.toNat_natCast,e1,e2,Nu _ n1,Er _ _ _ _ n1,GV _ _ _ _ n3 n2];refine⟨_,tD rfl (by simp only[E8,seval]<;>rfl) (by simp only[E8,seval]<;>rfl) (gD _),.inr ⟨_,rfl,by simp;omega⟩⟩
theorem aQ5 (o:Option (List Int)) (hn:((ol o).length:Int)<1000000) (a:Int):aD Tryz.prog 49 [ov aJ o,.v (.int .i64 a)]=some (.v (.bool (decide (a∈ol o)))):=by
 cases o with
 | none=>rw[show ol (none:Option (List Int))=[] from rfl];simp only[List.not_mem_nil,decide_false];exact aLW a
 | some l=>exact c49 l a hn
theorem aG7 (o:Option (List Int)) (hn:((ol o).length:Int)<1000000) (a:Int) (st:St) (d:Option Nat):aN (aD Tryz.prog) 49 [ov aJ o,.v (.int .i64 a)] st d=some { dst:=d,val:=.v (.bool (decide (a∈ol o)))}:=bL (bI (bQ o) (.v _)) (aQ5 o hn a) (.v _)
theorem aQ6 (t:uZ) (L:Option (List kS)) (Q:Option (List Int)) (hL:t.dT=ov cO L) (hQ:t.gX=ov aJ Q) (nL:((ol L).length:Int)<1000000) (nQ:((ol Q).length:Int)<1000000)
 (B:Option (List Int)) (nB:((ol B).length:Int)<1000000) (R:Option (List cK)) (nR:((ol R).length:Int)<1000000) :
 ∃r,aD Tryz.prog 248 [.agg (fB t),ov bF B,ov gV R]=some r∧∃a:Int,r=.v (.int .u64 a):=by
 rw[cL Tryz.func248 rfl aLX (by cases B<;>cases R<;>rfl)]
 simp only[Z8,seval];refine cB (fun m st=>∃(k:Nat) (a:Int),(st.env 1=ov bF B∧st.env 2=ov gV R∧st.env 3=.ptr 3 0 0∧st.heap 3 0=some (.cells (fB t))∧st.env 7=.v (.int .u64 a)∧st.env 8=.v (.int .i64 k))∧k≤(ol B).length∧m=(ol B).length-k)
  (fun e st=>e=.exit 0∧∃a:Int,st.env 7=.v (.int .u64 a)) (ol B).length ?step ?start ?rest
 case step =>
  rintro m st ⟨k,a,hI,hk,hm⟩
  by_cases aZ:(k:Int)<(ol B).length
  ·have q0:(0:Int)≤k:=by omega
   have hw:IntKind.i64.wrap ((k:Int)+1)=((k+1:Nat):Int):=by rw[pM _ (by omega) (by omega)];omega
   by_cases h1:(k:Int)<(ol L).length
   ·cases h2:(gx tT (ol L) (k:Int)).has
    ·apply oN ((ol B).length-(k+1))
     ·simp only[Z8,seval,hI,aZ,q0,hL,hQ,h1,h2,hw];rfl
     ·exact⟨k+1,_,by simp only[E8,seval,hI]<;>rfl,by omega,rfl⟩
    ·by_cases h3:(k:Int)∈ol Q
     ·apply oN ((ol B).length-(k+1))
      ·simp only[Z8,seval,hI,aZ,q0,hL,hQ,h1,h2,aG7 Q nQ,h3,decide_true,hw];rfl
      ·exact⟨k+1,_,by simp only[E8,seval,hI]<;>rfl,by omega,rfl⟩
     ·cases h4:aG6 R (gx tT (ol L) (k:Int)).root
      all_goals
       refine oV (st':=?_) ?_ ((ol B).length-(k+1)) (by omega) ?_
       rotate_left
       ·simp only[Z8,seval,hI,aZ,q0,hL,hQ,h1,h2,aG7 Q nQ,h3,decide_false,aQ3 R nR,h4,hw];rfl
       ·exact⟨k+1,_,by simp only[E8,seval,hI]<;>rfl,by omega,rfl⟩
   ·apply oT (.exit 0)
    ·simp only[Z8,seval,hI,aZ,q0,hL,h1];rfl
    ·exact⟨rfl,a,by simp only[E8,seval,hI]⟩
  ·apply oT (.exit 0)
   ·simp only[Z8,seval,hI,aZ];rfl
   ·exact⟨rfl,a,by simp only[E8,seval,hI]⟩
 case start=>exact⟨0,0,by simp only[E8,seval]<;>rfl,by omega,by omega⟩
 case rest =>
  rintro e st ⟨rfl,a,h⟩
  simp only[Z8,seval,h];exact⟨_,bX rfl (by simp only[E8,seval,h]<;>rfl) (by first|exact .v _|simp only[dW,h]),_,rfl⟩
theorem aQ7 (ns:List Node) (hn:(ns.length:Int)<1000000) (l:List Int) (hl:l.length=ns.length) (r:cK) (a:Int):∃x,aD Tryz.prog 243 [.agg (cU ⟨ns⟩),.sl l.length (bF l),.agg (aX r),.v (.int .u64 a)]=some x∧∃m:List Int,x=.uniq 23 1 m.length (bF m)∧m.length=ns.length:=by
 have Gj:(l.length:Int)<1000000:=by omega
 have rr:=eY ns r
 rw[cL Tryz.func243 rfl aLY rfl];by_cases g1:0≤aP ns r
 case neg =>
  simp only[Z8,seval,Eo _ Gj,mS _ _ hn,g1];exact⟨_,tD rfl (by simp only[E8,seval]<;>rfl) (by simp only[E8,seval]<;>rfl) (iC _),l,rfl,hl⟩
 by_cases g2:(nd ns (aP ns r)).status=2
 ·simp only[Z8,seval,Eo _ Gj,mS _ _ hn,g1,rr,bt g2];exact⟨_,tD rfl (by simp only[E8,seval]<;>rfl) (by simp only[E8,seval]<;>rfl) (iC _),l,rfl,hl⟩
 by_cases g3:r=dO
 ·subst g3;simp only[Z8,seval,Eo _ Gj,mS _ _ hn,g1,rr,bf g2];exact⟨_,tD rfl (by simp only[E8,seval]<;>rfl) (by simp only[E8,seval]<;>rfl) (iC _),l,rfl,hl⟩
 have q1:aP ns r<(l.length:Int):=by omega
 have q2:(aP ns r).toNat<l.length:=by omega
 have q3:(aP ns r).toNat+1≤l.length:=by omega
 have hy:=D5 g1 q1
 have Wk:∀z:Int,dM (bF l) (aP ns r).toNat [.v (.int .u64 z)] ((aP ns r).toNat+1)=bF (l.set (aP ns r).toNat z):=fun z=>by
  have:=R2 l (aP ns r) z q2
  simpa using this
 have ld:=R3 (T:=23) (n:=l.length) (k:=1) g1 q1 MQ (by decide) (by decide)
 rw[Nat.mul_one] at ld;simp only[Z8,seval,Eo _ Gj,mS ns r hn,g1,rr,bf g2,g3,q1,q2,q3,hy,Wk,ld,Nat.mul_one];exact⟨_,tD rfl (by simp only[E8,seval]<;>rfl) (by simp only[E8,seval]<;>rfl) (iC _),_,by rw[List.length_set],by rw[List.length_set];exact hl⟩
theorem aCZ (r:cK):gV [r]=aX r:=by simp[gV]
theorem R4 (r:cK):jF (some (.row 27 32 1 (aX r)))=some (.sl 1 (gV [r])):=by rw[← aCZ];exact wK 1 [r]
noncomputable def aLZ (t:uZ) (B:Option (List Int)) (r:cK):Int:=if h:∃a:Int,aD Tryz.prog 248 [.agg (fB t),ov bF B,ov gV (some [r])]=some (.v (.int .u64 a)) then Classical.choose h else 0
theorem aL0 (t:uZ) (L:Option (List kS)) (Q:Option (List Int)) (hL:t.dT=ov cO L) (hQ:t.gX=ov aJ Q) (nL:((ol L).length:Int)<1000000) (nQ:((ol Q).length:Int)<1000000)
 (B:Option (List Int)) (nB:((ol B).length:Int)<1000000) (r:cK) (s g:Nat) (st:St) (d:Option Nat) (hh:st.heap s g=some (.row 27 32 1 (aX r))) :
 aN (aD Tryz.prog) 248 [.agg (fB t),ov bF B,.own s g] st d=some { dst:=d,val:=.v (.int .u64 (aLZ t B r))}:=by
 obtain⟨x,hx,a,rfl⟩:=aQ6 t L Q hL hQ nL nQ B nB (some [r]) (by simp[ol])
 have he:∃a:Int,aD Tryz.prog 248 [.agg (fB t),ov bF B,ov gV (some [r])]=some (.v (.int .u64 a)):=⟨a,hx⟩
 have hf:Flat (.agg (fB t)):=(Nh t).2 ⟨by rw[hL];exact rC L,by rw[hQ];exact bQ Q⟩
 rw[show aLZ t B r=Classical.choose he from dif_pos he];rw[nD,List.map_cons,List.map_cons,List.map_cons,List.map_nil,dY hf,dY (dU B),vR,hh,R4,bT,bT,bT,iD];exact LZ (Classical.choose_spec he)
theorem aQ8 (ns:List Node) (hn:(ns.length:Int)<1000000) (h0:0<ns.length) (t:uZ) (L:Option (List kS)) (Q:Option (List Int)) (hL:t.dT=ov cO L) (hQ:t.gX=ov aJ Q) (nL:((ol L).length:Int)<1000000) (nQ:((ol Q).length:Int)<1000000)
 (B:Option (List Int)) (nB:((ol B).length:Int)<1000000) :
 ∃x,aD Tryz.prog 241 [.agg (cU ⟨ns⟩),.agg (fB t),ov bF B]=some x∧∃m:List Int,x=.uniq 23 1 m.length (bF m)∧m.length=ns.length:=by
 have kw:=fun r g=>aL0 t L Q hL hQ nL nQ B nB r 33 g
 rw[cL Tryz.func241 rfl aL1 (by cases B<;>rfl)]
 simp only[Z8,seval];refine cB (fun m st=>∃k:Nat,(st.env 3=.ptr 3 0 0∧st.heap 3 0=some (.cells (cU ⟨ns⟩))∧st.env 4=.ptr 4 0 0∧st.heap 4 0=some (.cells (fB t))∧st.env 2=ov bF B∧st.env 8=.v (.int .i64 k))∧((k=0∧st.env 7=.v (.slice none 0 0))∨∃(l:List Int) (g:Nat),st.env 7=.own 38 g∧g<st.aO 38∧st.heap 38 g=some (.row 23 1 l.length (bF l))∧l.length=k)∧k≤ns.length∧m=ns.length-k)
  (fun e st=>e=.exit 0∧∃(l:List Int) (g:Nat),st.env 7=.own 38 g∧st.heap 38 g=some (.row 23 1 l.length (bF l))∧l.length=ns.length) ns.length ?step ?start ?rest
 case step =>
  rintro m st ⟨k,hI,h7,hk,hm⟩
  by_cases aZ:(k:Int)<ns.length
  ·have q0:(0:Int)≤k:=by omega
   have hw:IntKind.i64.wrap ((k:Int)+1)=((k+1:Nat):Int):=by rw[pM _ (by omega) (by omega)];omega
   by_cases h1:(nd ns k).status=2
   ·rcases h7 with ⟨vI,h7⟩|⟨l,g,h7,hg,Fz,hl⟩
    ·apply oN (ns.length-(k+1))
     ·simp only[Z8,seval,hI,h7,aZ,q0,bt h1,hw];rfl
     ·exact⟨k+1,by simp only[E8,seval,hI],.inr ⟨[0],st.aO 38,by simp only[E8,seval]<;>rfl,by simp only[E8,seval]<;>omega,by simp only[E8,seval]<;>rfl,by simp;omega⟩,by omega,rfl⟩
    ·have nl:(l.length:Int)<1000000:=by omega
     apply oN (ns.length-(k+1))
     ·simp only[Z8,seval,hI,h7,Fz,aZ,q0,bt h1,hw,yC _ _ _ _ nl];rfl
     ·exact⟨k+1,by simp only[E8,seval,hI],.inr ⟨_,st.aO 38,by simp only[E8,seval]<;>rfl,by simp only[E8,seval]<;>omega,by simp only[E8,seval]<;>rfl,by rw[List.length_append];simp;omega⟩,by omega,rfl⟩
   ·rcases h7 with ⟨vI,h7⟩|⟨l,g,h7,hg,Fz,hl⟩
    ·apply oN (ns.length-(k+1))
     ·simp only[Z8,seval,hI,h7,aZ,q0,bf h1,kw (nd ns k).block.root,hw];rfl
     ·exact⟨k+1,by simp only[E8,seval,hI],.inr ⟨[_],st.aO 38,by simp only[E8,seval]<;>rfl,by simp only[E8,seval]<;>omega,by simp only[E8,seval]<;>rfl,by simp;omega⟩,by omega,rfl⟩
    ·have nl:(l.length:Int)<1000000:=by omega
     apply oN (ns.length-(k+1))
     ·simp only[Z8,seval,hI,h7,Fz,aZ,q0,bf h1,kw (nd ns k).block.root,hw,yC _ _ _ _ nl];rfl
     ·exact⟨k+1,by simp only[E8,seval,hI],.inr ⟨_,st.aO 38,by simp only[E8,seval]<;>rfl,by simp only[E8,seval]<;>omega,by simp only[E8,seval]<;>rfl,by rw[List.length_append];simp;omega⟩,by omega,rfl⟩
  ·have Dv:k=ns.length:=by omega
   rcases h7 with ⟨vI,h7⟩|⟨l,g,h7,hg,Fz,hl⟩
   ·omega
   ·apply oT (.exit 0)
    ·simp only[Z8,seval,hI,aZ];rfl
    ·exact⟨rfl,l,g,by simp only[E8,seval,h7],by simp only[E8,seval,Fz],by omega⟩
 case start=>exact⟨0,by simp only[E8,seval]<;>rfl,.inl ⟨rfl,by simp only[E8,seval]⟩,by omega,by omega⟩
 case rest =>
  rintro e st ⟨rfl,l,g,h7,Fz,hl⟩
  simp only[Z8,seval,h7];exact⟨_,tD rfl (by simp only[E8,seval,h7]<;>rfl) (by simp only[E8,seval,Fz]<;>rfl) (iC _),l,rfl,hl⟩
theorem aQ9 (ns:List Node) (hu:iB ns) (hn:(ns.length:Int)<1000000) (h0:0<ns.length) (l:List Int) (hl:l.length=ns.length) :
 ∃x,aD Tryz.prog 242 [.agg (cU ⟨ns⟩),.sl l.length (bF l)]=some x∧∃m:List Int,x=.uniq 23 1 m.length (bF m)∧m.length=ns.length:=by
 rw[cL Tryz.func242 rfl aL2 rfl];simp only[Z8,seval];refine cB (fun m st=>∃k:Nat,(st.env 2=.ptr 2 0 0∧st.heap 2 0=some (.cells (cU ⟨ns⟩))∧st.env 1=.sl l.length (bF l)∧st.env 6=.v (.int .i64 k))∧((k=0∧st.env 5=.v (.slice none 0 0))∨∃(l:List Int) (g:Nat),st.env 5=.own 38 g∧g<st.aO 38∧st.heap 38 g=some (.row 23 1 l.length (bF l))∧l.length=k)∧k≤ns.length∧m=ns.length-k)
  (fun e st=>e=.exit 0∧∃(l:List Int) (g:Nat),st.env 5=.own 38 g∧st.heap 38 g=some (.row 23 1 l.length (bF l))∧l.length=ns.length) ns.length ?step ?start ?rest
 case step =>
  rintro m st ⟨k,hI,h5,hk,hm⟩
  by_cases aZ:(k:Int)<ns.length
  ·have q0:(0:Int)≤k:=by omega
   have hw:IntKind.i64.wrap ((k:Int)+1)=((k+1:Nat):Int):=by rw[pM _ (by omega) (by omega)];omega
   have kd:=k64 ns hu hn k (TK hu q0 aZ ns.length aZ)
   have hrg:=YX ns k
   have hdl:=Vc ns k ns.length
   obtain⟨D,hD⟩:∃D,Ga ns k ns.length=D:=⟨_,rfl⟩
   rw[hD] at kd hrg hdl;simp only[Z8,seval,hI,aZ,q0,kd];refine A1 (fun mm st'=>∃(j:Nat) (a:Int),(st'.env 2=.ptr 2 0 0∧st'.heap 2 0=some (.cells (cU ⟨ns⟩))∧st'.env 1=.sl l.length (bF l)∧st'.env 6=.v (.int .i64 k)∧st'.env 5=st.env 5∧st'.aO 38=st.aO 38∧(∀g,st'.heap 38 g=st.heap 38 g)∧st'.env 7=.v (.int .u64 a)∧st'.env 8=.own 19 (st.aO 19)∧st'.heap 19 (st.aO 19)=some (.row 3 1 D.length (aJ D))∧st'.env 9=.v (.int .i64 j))∧j≤D.length∧mm=D.length-j)
    (fun e st'=>e=.exit 2∧∃a:Int,(st'.env 2=.ptr 2 0 0∧st'.heap 2 0=some (.cells (cU ⟨ns⟩))∧st'.env 1=.sl l.length (bF l)∧st'.env 6=.v (.int .i64 k)∧st'.env 5=st.env 5∧st'.aO 38=st.aO 38∧(∀g,st'.heap 38 g=st.heap 38 g)∧st'.env 7=.v (.int .u64 a))) D.length ?Nv ?Es ?Hh
   case Nv =>
    rintro mm st' ⟨j,a,hJ,hj,hmm⟩
    by_cases hjl:(j:Int)<D.length
    ·have p0:(0:Int)≤j:=by omega
     have hw2:IntKind.i64.wrap ((j:Int)+1)=((j+1:Nat):Int):=by rw[pM _ (by omega) (by omega)];omega
     obtain⟨hjt,hje⟩:=xI p0 hjl
     have hx:=hrg _ (List.getElem_mem hjt)
     rw[← hje] at hx;have x0:=hx.1
     have x1:it D j<(l.length:Int):=by omega
     have gi:=pG p0 hjl
     apply oN (D.length-(j+1))
     ·simp only[Z8,seval,hJ,hjl,p0,x0,x1,gi,hw2];rfl
     ·exact⟨j+1,IntKind.u64.wrap (a+gx (0:Int) l (it D j)),by simp only[E8,seval,hJ,implies_true,and_self],by omega,rfl⟩
    ·apply oT (.exit 2)
     ·simp only[Z8,seval,hJ,hjl];rfl
     ·exact⟨rfl,a,by simp only[E8,seval,hJ,implies_true,and_self]⟩
   case Es=>exact⟨0,0,by simp only[E8,seval,hI,implies_true,and_self]<;>rfl,by omega,by omega⟩
   case Hh =>
    rintro e st' ⟨rfl,a,hJ⟩
    obtain⟨j2,j2',j1,j6,j5,jc,jh,j7⟩:=hJ
    rcases h5 with ⟨vI,h5⟩|⟨l',g,h5,hg,Ak,Gj⟩
    ·rw[h5] at j5;refine P2 (st':=?s3) ?h3 (ns.length-(k+1)) (by omega) ?q3
     case h3 =>
      simp only[Z8,seval,j2,j2',j1,j6,j5,jc,j7,hw];rfl
     case q3=>exact⟨k+1,by simp only[E8,seval,j2,j2',j1],.inr ⟨[a],st.aO 38,by simp only[E8,seval,jc]<;>rfl,by simp only[E8,seval,jc]<;>omega,by simp only[E8,seval,jc]<;>rfl,by simp;omega⟩,by omega,rfl⟩
    ·rw[h5] at j5;have nl:(l'.length:Int)<1000000:=by omega
     have jhh:=jh g
     rw[Ak] at jhh;refine P2 (st':=?s4) ?h4 (ns.length-(k+1)) (by omega) ?q4
     case h4 =>
      simp only[Z8,seval,j2,j2',j1,j6,j5,jc,jhh,j7,hw,yC _ _ _ _ nl];rfl
     case q4=>exact⟨k+1,by simp only[E8,seval,j2,j2',j1],.inr ⟨l'++[a],st.aO 38,by simp only[E8,seval,jc]<;>rfl,by simp only[E8,seval,jc]<;>omega,by simp only[E8,seval,jc]<;>rfl,by rw[List.length_append];simp;omega⟩,by omega,rfl⟩
  ·have Dv:k=ns.length:=by omega
   rcases h5 with ⟨vI,h5⟩|⟨l,g,h5,hg,Ak,hl⟩
   ·omega
   ·apply oT (.exit 0)
    ·simp only[Z8,seval,hI,aZ];rfl
    ·exact⟨rfl,l,g,by simp only[E8,seval,h5],by simp only[E8,seval,Ak],by omega⟩
 case start=>exact⟨0,by simp only[E8,seval]<;>rfl,.inl ⟨rfl,by simp only[E8,seval]⟩,by omega,by omega⟩
 case rest =>
  rintro e st ⟨rfl,l,g,h5,Ak,hl⟩
  simp only[Z8,seval,h5];exact⟨_,tD rfl (by simp only[E8,seval,h5]<;>rfl) (by simp only[E8,seval,Ak]<;>rfl) (iC _),l,rfl,hl⟩
theorem aRa {s:aM} {v:SV} {q:Int} (h:GI s v q):∃x,aD Tryz.prog 223 [.agg (aB s)]=some x∧∃m:List Int,x=.uniq 23 1 m.length (bF m)∧m.length=v.ns.length:=by
 have hf:=h.sd.flat
 have hn:=h.sd.nn
 obtain⟨r1,e1,o,rfl,ho⟩:=aQZ h.sd
 have k239:=kx e1 (cP hf) (dU o)
 obtain⟨r2,e2,a,c,rfl,_⟩:=aLx o ho
 have C5:=kx e2 (cP (dU o)) (.dZ _ (bI (.v _) (.v _)))
 have hcb:Flat s.cFg.jP:=h.sd.fl.1
 obtain⟨r3,e3,a3,c3,rfl⟩:=aQ2 s.cFg hcb a
 have k240:=kx e3 (bI ((Cq _).2 hcb) (.v _)) (.dZ _ (bI (.v _) (.v _)))
 obtain⟨r4,e4,m1,rfl,hm1⟩:=aQ8 v.ns hn h.pos s.gG v.L v.Q h.sd.dT h.sd.gX h.sd.nL h.sd.nQ o ho
 have hfv:Flat (.agg (fB s.gG)):=(Nh _).2 ⟨h.sd.fl.2.1,h.sd.fl.2.2.1⟩
 have k241:∀(st:St),aN (aD Tryz.prog) 241 [.agg (cU ⟨v.ns⟩),.agg (fB s.gG),ov bF o] st (some 28)=_:=fun st=>jE (st:=st) (d:=28) (oE (nC _) hfv (dU o)) e4
 obtain⟨r5,e5,m2,rfl,ZJ⟩:=aQ7 v.ns hn m1 hm1 s.iR a3
 have k243:∀(st:St) (g:Nat),st.heap 28 g=some (.row 23 1 m1.length (bF m1))→aN (aD Tryz.prog) 243 [.agg (cU ⟨v.ns⟩),.own 28 g,.agg (aX s.iR),.v (.int .u64 a3)] st (some 37)=some { dst:=some 37,val:=.own 37 (st.aO 37),new:=some (37,[.row 23 1 m2.length (bF m2)])}:=by
  intro st g hh;rw[nD,List.map_cons,List.map_cons,List.map_cons,List.map_cons,List.map_nil,Ix,vR,hh,vQ,Qs,Ql,bT,bT,bT,bT,iD];exact R5 e5 (DV m2)
 obtain⟨r6,e6,m3,rfl,hm3⟩:=aQ9 v.ns h.up hn h.pos m2 ZJ
 have k242:∀(st:St) (g:Nat),st.heap 37 g=some (.row 23 1 m2.length (bF m2))→aN (aD Tryz.prog) 242 [.agg (cU ⟨v.ns⟩),.own 37 g] st (some 38)=some { dst:=some 38,val:=.own 38 (st.aO 38),new:=some (38,[.row 23 1 m3.length (bF m3)])}:=by
  intro st g hh;rw[nD,List.map_cons,List.map_cons,List.map_nil,Ix,vR,hh,vQ,bT,bT,iD];exact R5 e6 (DV m3)
 rw[cL Tryz.func223 rfl aL3 rfl];simp only[Z8,seval,k239,C5,eC,k240,h.sd.tree,k241,k243,k242];exact⟨_,tD rfl (by simp only[E8,seval]<;>rfl) (by simp only[E8,seval]<;>rfl) (iC _),m3,rfl,hm3⟩
noncomputable def BS (s:aM) (v:SV) (i:Int):fV:=if 0≤i∧i<v.ns.length then (if Dw s (nd v.ns i).block.slot<Dw s s.now then (nd v.ns i).block.dQ.pj else (nd v.ns i).block.gY) else gZ
theorem aRb {s:aM} {v:SV} (hs:SD s v) (hp:s.cFg.rD≠0) (i:Int):aD Tryz.prog 252 [.agg (aB s),.v (.int .i64 i)]=some (.agg (bZ (BS s v i))):=by
 have hf:=hs.flat
 rw[cL Tryz.func252 rfl aL4 rfl];refine kN ?_
 by_cases g1:0≤i
 case neg =>
  have hv:BS s v i=gZ:=if_neg (fun h=>g1 h.1)
  simp only[Z8,seval,Wy hs,g1,Bool.false_and];exact⟨_,fL rfl (by simp only[E8,seval]<;>rfl) (by simp only[Z8,seval]<;>rfl) (by simp only[dW,and_self]),by rw[hv]⟩
 by_cases g2:i<(v.ns.length:Int)
 case neg =>
  have hv:BS s v i=gZ:=if_neg (fun h=>g2 h.2)
  simp only[Z8,seval,Wy hs,g1,g2,Bool.and_false];exact⟨_,fL rfl (by simp only[E8,seval]<;>rfl) (by simp only[Z8,seval]<;>rfl) (by simp only[dW,and_self]),by rw[hv]⟩
 by_cases g3:Dw s (nd v.ns i).block.slot<Dw s s.now
 ·have hv:BS s v i=(nd v.ns i).block.dQ.pj:=by unfold BS;rw[if_pos ⟨g1,g2⟩,if_pos g3]
  simp only[Z8,seval,Wy hs,g1,g2,hs.tree,Mo s hp hf,g3];exact⟨_,fL rfl (by simp only[E8,seval]<;>rfl) (by simp only[Z8,seval]<;>rfl) (by simp only[dW,and_self]),by rw[hv]⟩
 ·have hv:BS s v i=(nd v.ns i).block.gY:=by unfold BS;rw[if_pos ⟨g1,g2⟩,if_neg g3]
  simp only[Z8,seval,Wy hs,g1,g2,hs.tree,Mo s hp hf,g3];exact⟨_,fL rfl (by simp only[E8,seval]<;>rfl) (by simp only[Z8,seval]<;>rfl) (by simp only[dW,and_self]),by rw[hv]⟩
theorem aC1 {s:aM} {v:SV} (hs:SD s v) (hp:s.cFg.rD≠0) (i:Int) (st:St) (d:Option Nat):aN (aD Tryz.prog) 252 [.agg (aB s),.v (.int .i64 i)] st d=some { dst:=d,val:=.agg (bZ (BS s v i))}:=bL (bI hs.flat (.v _)) (aRb hs hp i) (.agg _ (dD _))
theorem aL5 {s:aM} {v:SV} (hs:SD s v) (hp:s.cFg.rD≠0) (i:Int):∃r,aD Tryz.prog 249 [.agg (aB s),.v (.int .i64 i)]=some r∧∃b:Bool,r=.v (.bool b):=by
 have hf:=hs.flat
 rw[cL Tryz.func249 rfl aL6 rfl];by_cases g1:0≤i
 case neg =>
  simp only[Z8,seval,Wy hs,g1,Bool.false_and];exact⟨_,bX rfl (by simp only[E8,seval]<;>rfl) (by first|exact .v _|simp only[dW]),_,rfl⟩
 by_cases g2:i<(v.ns.length:Int)
 case neg =>
  simp only[Z8,seval,Wy hs,g1,g2,Bool.and_false];exact⟨_,bX rfl (by simp only[E8,seval]<;>rfl) (by first|exact .v _|simp only[dW]),_,rfl⟩
 by_cases g3:(nd v.ns i).status=2
 ·simp only[Z8,seval,Wy hs,g1,g2,hs.tree,bt g3];exact⟨_,bX rfl (by simp only[E8,seval]<;>rfl) (by first|exact .v _|simp only[dW]),_,rfl⟩
 by_cases g4:s.bN.gY.aK=0
 ·simp only[Z8,seval,Wy hs,g1,g2,hs.tree,bf g3,aC1 hs hp,bt g4];exact⟨_,bX rfl (by simp only[E8,seval]<;>rfl) (by first|exact .v _|simp only[dW]),_,rfl⟩
 by_cases g5:(BS s v i).aK=s.bN.gY.aK
 ·simp only[Z8,seval,Wy hs,g1,g2,hs.tree,bf g3,aC1 hs hp,bf g4,bt g5];exact⟨_,bX rfl (by simp only[E8,seval]<;>rfl) (by first|exact .v _|simp only[dW]),_,rfl⟩
 by_cases g6:Dw s s.now≤(BS s v i).aK
 ·simp only[Z8,seval,Wy hs,g1,g2,hs.tree,bf g3,aC1 hs hp,bf g4,bf g5,Mo s hp hf,g6];exact⟨_,bX rfl (by simp only[E8,seval]<;>rfl) (by first|exact .v _|simp only[dW]),_,rfl⟩
 ·simp only[Z8,seval,Wy hs,g1,g2,hs.tree,bf g3,aC1 hs hp,bf g4,bf g5,Mo s hp hf,g6];exact⟨_,bX rfl (by simp only[E8,seval]<;>rfl) (by first|exact .v _|simp only[dW]),_,rfl⟩
theorem aG9 (ns:List Node) (i x:Int):∀k:Nat,x∈Sv ns i k→(0≤x∧x<k)∧(nd ns x).up=i:=by
 intro k;induction k with
 | zero=>intro h;simp[Sv] at h
 | succ k ih =>
   intro h;unfold Sv at h;split at h
   ·rename_i hc;rcases List.mem_append.1 h with h|h
    ·have:=ih h;omega
    ·have hx:=List.mem_singleton.1 h
     subst hx;exact⟨by omega,hc⟩
   ·have:=ih h;omega
theorem GW {ns:List Node} (hu:iB ns) (hr:(nd ns 0).up=-1) {i x:Int} (h:x∈wS ns i):i<x∧0≤x∧x<ns.length:=by
 unfold wS at h;split at h
 ·simp at h
 ·rename_i hi;obtain⟨⟨x0,x1⟩,Wk⟩:=aG9 ns i x _ h
  by_cases hx:x=0
  ·subst hx;rw[hr] at Wk;omega
  ·have:=(hu x (by omega) x1).2;omega
theorem aL7 {s:aM} {v:SV} (hs:SD s v) (hu:iB v.ns) (hr:(nd v.ns 0).up=-1) (hp:s.cFg.rD≠0):∀(n:Nat) (i:Int),((v.ns.length:Int)-i).toNat≤n→∃b:Bool,aD Tryz.prog 244 [.agg (aB s),.v (.int .i64 i)]=some (.v (.bool b)):=by
 have base:∀(i:Int),wS v.ns i=[]→∃b:Bool,aD Tryz.prog 244 [.agg (aB s),.v (.int .i64 i)]=some (.v (.bool b)):=by
  intro i hc;obtain⟨r,hr9,b,rfl⟩:=aL5 hs hp i
  have R6:=kx hr9 (bI hs.flat (.v _)) (.v _)
  have kc:=fun st d=>aFy v.ns hu hr hs.nn i hc st d
  suffices h:∃r,aD Tryz.prog 244 [.agg (aB s),.v (.int .i64 i)]=some r∧∃b:Bool,r=.v (.bool b) by
   obtain⟨r,h,b,rfl⟩:=h;exact⟨b,h⟩
  rw[cL Tryz.func244 rfl aFK rfl];cases b
  ·simp only[Z8,seval,R6,hs.tree,kc];refine cB (fun m st=>st.env 5=.v (.slice none 0 0)∧st.env 6=.v (.int .i64 0)∧m=0) (fun e st=>e=.exit 0) 0 ?step ?start ?rest
   case step =>
    rintro m st ⟨h5,h6,_⟩
    apply oT (.exit 0)
    ·simp only[Z8,seval,h5,h6,Int.lt_irrefl];rfl
    ·exact rfl
   case start=>exact⟨by simp only[E8,seval]<;>rfl,by simp only[E8,seval]<;>rfl,rfl⟩
   case rest =>
    rintro e st rfl
    simp only[Z8,seval];exact⟨_,bX rfl (by simp only[E8,seval]<;>rfl) (by first|exact .v _|simp only[dW]),_,rfl⟩
  ·simp only[Z8,seval,R6];exact⟨_,bX rfl (by simp only[E8,seval]<;>rfl) (by first|exact .v _|simp only[dW]),_,rfl⟩
 intro n;induction n with
 | zero =>
   intro i hi;exact base i (MB hu hr (by omega))
 | succ n ih =>
   intro i hi;by_cases hc:wS v.ns i=[]
   ·exact base i hc
   obtain⟨r,hr9,b,rfl⟩:=aL5 hs hp i
   have R6:=kx hr9 (bI hs.flat (.v _)) (.v _)
   have kc:=fun st d=>aK0 v.ns hu hr hs.nn i hc st d
   have hB:∀x:Int,∃b:Bool,x∈wS v.ns i→aD Tryz.prog 244 [.agg (aB s),.v (.int .i64 x)]=some (.v (.bool b)):=by
    intro x;by_cases hx:x∈wS v.ns i
    ·have:=GW hu hr hx
     obtain⟨b,hb⟩:=ih x (by omega)
     exact⟨b,fun _=>hb⟩
    ·exact⟨false,fun h=>absurd h hx⟩
   obtain⟨B,hB⟩:∃B:Int→Bool,∀x,x∈wS v.ns i→aD Tryz.prog 244 [.agg (aB s),.v (.int .i64 x)]=some (.v (.bool (B x))):=⟨fun x=>Classical.choose (hB x),fun x=>Classical.choose_spec (hB x)⟩
   have hgt:∀x∈wS v.ns i,i<x∧0≤x∧x<v.ns.length:=fun x hx=>GW hu hr hx
   have hin:((wS v.ns i).length:Int)<1000000:=by
    have h1:(wS v.ns i).length≤v.ns.length:=by
     unfold wS;split
     ·simp
     ·exact Vd v.ns i v.ns.length
    have:=hs.nn;omega
   obtain⟨l,el⟩:∃l,wS v.ns i=l:=⟨_,rfl⟩
   rw[el] at kc hB hin;suffices h:∃r,aD Tryz.prog 244 [.agg (aB s),.v (.int .i64 i)]=some r∧∃b:Bool,r=.v (.bool b) by
    obtain⟨r,h,b,rfl⟩:=h;exact⟨b,h⟩
   rw[cL Tryz.func244 rfl aFK rfl];cases b
   case true =>
    simp only[Z8,seval,R6];exact⟨_,bX rfl (by simp only[E8,seval]<;>rfl) (by first|exact .v _|simp only[dW]),_,rfl⟩
   simp only[Z8,seval,R6,hs.tree,kc];refine cB (fun m st=>∃k:Nat,(st.env 2=.ptr 2 0 0∧st.heap 2 0=some (.cells (aB s))∧st.env 5=.own 13 0∧st.heap 13 0=some (.row 3 1 l.length (aJ l))∧st.env 6=.v (.int .i64 k))∧(∀j:Nat,j<k→¬(B (it l (j:Int))=true))∧k≤l.length∧m=l.length-k)
    (fun e st=>(e=.ret∧∃k:Nat,k<l.length∧(B (it l (k:Int))=true)∧(∀j:Nat,j<k→¬(B (it l (j:Int))=true))∧st.env 4=.v (.bool true))∨(e=.exit 0∧(∀j:Nat,j<l.length→¬(B (it l (j:Int))=true))∧st.env 2=.ptr 2 0 0∧st.heap 2 0=some (.cells (aB s))∧st.env 5=.own 13 0∧st.heap 13 0=some (.row 3 1 l.length (aJ l)))) (l.length) ?step ?start ?rest
   case step =>
    rintro m st ⟨k,hI,hj,hk,hm⟩
    by_cases aZ:(k:Int)<l.length
    ·have q0:(0:Int)≤k:=by omega
     have hw:IntKind.i64.wrap ((k:Int)+1)=((k+1:Nat):Int):=by rw[pM _ (by omega) (by omega)];omega
     have gi:=pG q0 aZ
     have ZJ:it l (k:Int)∈l:=by obtain⟨h1,h2⟩:=xI q0 aZ;rw[h2];exact List.getElem_mem h1
     have kb:=kx (hB _ ZJ) (bI hs.flat (.v _)) (.v _)
     by_cases hh:B (it l (k:Int))=true
     ·apply oT (.ret)
      ·simp only[Z8,seval,hI,aZ,q0,kb,gi,hh];rfl
      ·exact .inl ⟨rfl,k,by omega,hh,hj,by simp only[E8,seval,kb,gi]⟩
     ·have hn:B (it l (k:Int))=false:=by simpa using hh
      apply oN (l.length-(k+1))
      ·simp only[Z8,seval,hI,aZ,q0,kb,gi,hn,hw];rfl
      ·exact⟨k+1,by simp only[E8,seval,hI],fun j h=>(Nat.lt_succ_iff_lt_or_eq.1 h).elim (hj j) fun e=>by subst e;exact hh,by omega,rfl⟩
    ·apply oT (.exit 0)
     ·simp only[Z8,seval,hI,aZ,aZ];rfl
     ·exact .inr ⟨rfl,fun j h=>hj j (by omega),by simp only[E8,seval,hI]⟩
   case start=>exact⟨0,by simp only[E8,seval]<;>rfl,fun j h=>by omega,by omega,by omega⟩
   case rest =>
    rintro e st (⟨rfl,k,hk,hh,hj,h⟩|⟨rfl,hj,hI⟩)
    ·simp only[Z8,seval];exact⟨_,bX rfl (by simp only[E8,seval,h]<;>rfl) (by first|exact .v _|simp only[dW,h]),_,rfl⟩
    ·simp only[Z8,seval];exact⟨_,bX rfl (by simp only[E8,seval]<;>rfl) (by first|exact .v _|simp only[dW]),_,rfl⟩
theorem aRe {s:aM} {v:SV} {q:Int} (h:GI s v q):∃x,aD Tryz.prog 224 [.agg (aB s)]=some x∧∃m:List Bool,x=.uniq 4 1 m.length (mX m)∧m.length=v.ns.length:=by
 have hn:=h.sd.nn
 have h0:=h.pos
 obtain⟨B,hB⟩:∃B:Int→Bool,∀x,aD Tryz.prog 244 [.agg (aB s),.v (.int .i64 x)]=some (.v (.bool (B x))):=⟨fun x=>Classical.choose (aL7 h.sd h.up h.LW h.sp _ x (Nat.le_refl _)),fun x=>Classical.choose_spec (aL7 h.sd h.up h.LW h.sp _ x (Nat.le_refl _))⟩
 have kb:∀(x:Int) (st:St) (d:Option Nat),aN (aD Tryz.prog) 244 [.agg (aB s),.v (.int .i64 x)] st d=some { dst:=d,val:=.v (.bool (B x))}:=fun x=>kx (hB x) (bI h.sd.flat (.v _)) (.v _)
 rw[cL Tryz.func224 rfl aL8 rfl];simp only[Z8,seval];refine cB (fun m st=>∃k:Nat,(st.env 1=.ptr 1 0 0∧st.heap 1 0=some (.cells (aB s))∧st.env 4=.v (.int .i64 k))∧((k=0∧st.env 3=.v (.slice none 0 0))∨∃(l:List Bool) (g:Nat),st.env 3=.own 18 g∧g<st.aO 18∧st.heap 18 g=some (.row 4 1 l.length (mX l))∧l.length=k)∧k≤v.ns.length∧m=v.ns.length-k)
  (fun e st=>e=.exit 0∧∃(l:List Bool) (g:Nat),st.env 3=.own 18 g∧st.heap 18 g=some (.row 4 1 l.length (mX l))∧l.length=v.ns.length) v.ns.length ?step ?start ?rest
 case step =>
  rintro m st ⟨k,hI,h5,hk,hm⟩
  by_cases aZ:(k:Int)<v.ns.length
  ·have q0:(0:Int)≤k:=by omega
   have hw:IntKind.i64.wrap ((k:Int)+1)=((k+1:Nat):Int):=by rw[pM _ (by omega) (by omega)];omega
   rcases h5 with ⟨vI,h5⟩|⟨l',g,h5,hg,Ak,Gj⟩
   ·apply oN (v.ns.length-(k+1))
    ·simp only[Z8,seval,hI,h5,aZ,q0,h.sd.tree,kb,hw];rfl
    ·exact⟨k+1,by simp only[E8,seval,hI],.inr ⟨[B k],st.aO 18,by simp only[E8,seval]<;>rfl,by simp only[E8,seval]<;>omega,by simp only[E8,seval]<;>rfl,by simp;omega⟩,by omega,rfl⟩
   ·have nl:(l'.length:Int)<1000000:=by omega
    apply oN (v.ns.length-(k+1))
    ·simp only[Z8,seval,hI,h5,Ak,aZ,q0,h.sd.tree,kb,hw,MX _ _ _ _ nl];rfl
    ·exact⟨k+1,by simp only[E8,seval,hI],.inr ⟨l'++[B k],st.aO 18,by simp only[E8,seval]<;>rfl,by simp only[E8,seval]<;>omega,by simp only[E8,seval]<;>rfl,by rw[List.length_append];simp;omega⟩,by omega,rfl⟩
  ·have Dv:k=v.ns.length:=by omega
   rcases h5 with ⟨vI,h5⟩|⟨l,g,h5,hg,Ak,hl⟩
   ·omega
   ·apply oT (.exit 0)
    ·simp only[Z8,seval,hI,aZ,h.sd.tree];rfl
    ·exact⟨rfl,l,g,by simp only[E8,seval,h5],by simp only[E8,seval,Ak],by omega⟩
 case start=>exact⟨0,by simp only[E8,seval]<;>rfl,.inl ⟨rfl,by simp only[E8,seval]⟩,by omega,by omega⟩
 case rest =>
  rintro e st ⟨rfl,l,g,h5,Ak,hl⟩
  simp only[Z8,seval,h5];exact⟨_,tD rfl (by simp only[E8,seval,h5]<;>rfl) (by simp only[E8,seval,Ak]<;>rfl) (Sx _),l,rfl,hl⟩
theorem yQ {x:AV} (h:Flat x):iW x=[]:=by
 have one:∀c,Flat c→gF c=[]:=fun c hc=>by cases hc<;>rfl
 cases h with
 | agg cs h =>
   simp only[iW];rw[List.flatMap_eq_nil_iff];exact fun c hc=>one c (h c hc)
 | _=>rfl
theorem UL {args:List AV} (h:∀x∈args,Flat x):args.flatMap iW=[]:=List.flatMap_eq_nil_iff.2 fun x hx=>yQ (h x hx)
theorem MY {call:Nat→List AV→Option AV} {g:Nat} {args:List AV} {st:St} {d:Option Nat} (h:∀x∈args,Flat x):fC call g args st d=aN call g args st d:=by
 unfold fC;rw[UL h]
theorem Hi {call:Nat→List AV→Option AV} {g:Nat} {args:List AV} {r:AV} {st:St} {d:Option Nat} (hf:∀x∈args,Flat x) (h:call g args=some r) (hr:Flat r):fC call g args st d=some { dst:=d,val:=r }:=by
 rw[MY hf];exact bL hf h hr
noncomputable def Lh (call:Nat→List AV→Option AV) (g:Nat) (xs:Option (List AV)) (s k:Nat) (st:St) (d:Option Nat):Option mT :=
 cC xs fun xs=>cC (call g xs) fun r=>yX r st d s k
theorem Vi {call:Nat→List AV→Option AV} {g:Nat} {args:List AV} {st:St} {d:Option Nat} {s k:Nat} (hk:args.flatMap iW=[(s,k)]) (he:∀x∈args,LD x):fC call g args st d=Lh call g (bP (args.map (fU st))) s k st d:=by
 unfold fC Lh;rw[hk];simp only
 rw[if_pos he];cases bP (args.map (fU st))<;>rfl
theorem ZK {call:Nat→List AV→Option AV} {g:Nat} {xs:List AV} {r:AV} {s k:Nat} {st:St} {d:Option Nat} (h:call g xs=some r) (hr:Flat r):Lh call g (some xs) s k st d=some { dst:=d,val:=r,dM:=some (s,k,none)}:=by
 unfold Lh yX;simp only[cW,h,if_pos hr]
theorem aC2 {call:Nat→List AV→Option AV} {g:Nat} {xs:List AV} {e sz n:Nat} {cs:List AV} {s k:Nat} {st:St} {d:Nat} (h:call g xs=some (.uniq e sz n cs)) (hm:∀c∈cs,fJ c):Lh call g (some xs) s k st (some d)=some { dst:=some d,val:=.own d (st.aO d),dM:=some (s,k,none),new:=some (d,[.row e sz n cs])}:=by
 have hnf:¬Flat (.uniq e sz n cs):=by intro h;cases h
 unfold Lh yX;simp only[cW,h,if_neg hnf,if_pos hm]
theorem R7 {call:Nat→List AV→Option AV} {g:Nat} {args:List AV} {e sz n:Nat} {cs:List AV} {st:St} {d:Nat} (hf:∀x∈args,Flat x) (h:call g args=some (.uniq e sz n cs)):fC call g args st (some d)=some { dst:=some d,val:=.own d (st.aO d),new:=some (d,[.row e sz n cs])}:=by
 have hnf:¬Flat (.uniq e sz n cs):=by intro h;cases h
 rw[MY hf];unfold aN;rw[if_pos hf,h];simp only[cW];unfold iM;rw[if_neg hnf];rfl
theorem Qt {st:St} {a g:Nat} {L:List Int} (hh:st.heap a g=some (.row 3 1 L.length (aJ L))):fU st (.own a g)=some (ov aJ (some L)):=by
 rw[vR,hh];exact jZ L.length L
theorem aL9 (o:Option (List Int)) (hn:((ol o).length:Int)<999999) (x:Int) :
 ((∀(st:St) (d:Nat),fC (aD Tryz.prog) 235 [ov aJ o,.v (.int .i64 x)] st (some d)=some { dst:=some d,val:=ov aJ o }) ∧
  ∀(st:St) (d a g:Nat) (L:List Int),o=some L→st.heap a g=some (.row 3 1 L.length (aJ L))→fC (aD Tryz.prog) 235 [.own a g,.v (.int .i64 x)] st (some d)=some { dst:=some d,val:=ov aJ (some L),dM:=some (a,g,none)}) ∨
 ∃M:List Int,M.length=(ol o).length+1∧(∀(st:St) (d:Nat),fC (aD Tryz.prog) 235 [ov aJ o,.v (.int .i64 x)] st (some d)=some { dst:=some d,val:=.own d (st.aO d),new:=some (d,[.row 3 1 M.length (aJ M)])}) ∧
  ∀(st:St) (d a g:Nat) (L:List Int),o=some L→st.heap a g=some (.row 3 1 L.length (aJ L))→fC (aD Tryz.prog) 235 [.own a g,.v (.int .i64 x)] st (some d)=some { dst:=some d,val:=.own d (st.aO d),dM:=some (a,g,none),new:=some (d,[.row 3 1 M.length (aJ M)])}:=by
 have one:∀(st:St) (d a g:Nat) (L:List Int),o=some L→st.heap a g=some (.row 3 1 L.length (aJ L))→fC (aD Tryz.prog) 235 [.own a g,.v (.int .i64 x)] st (some d)=Lh (aD Tryz.prog) 235 (some [ov aJ o,.v (.int .i64 x)]) a g st (some d):=by
  rintro st d a g L rfl hh
  rw[Vi (s:=a) (k:=g) rfl (by intro y hy;simp only[List.mem_cons,List.not_mem_nil,or_false] at hy;rcases hy with rfl|rfl;exact .inr (.inl ⟨a,g,rfl⟩);exact .inl (.v _)),
   List.map_cons,List.map_cons,List.map_nil,Qt hh,Ql,bT,bT,iD]
  rfl
 obtain⟨r,hr,h⟩:=aQ4 o hn x
 rcases h with rfl|⟨M,rfl,hM⟩
 ·refine .inl ⟨fun st d=>Hi (bI (bQ o) (.v _)) hr (bQ o),fun st d a g L ho hh=>?_⟩
  rw[one st d a g L ho hh];subst ho;exact ZK hr (bQ _)
 ·refine .inr ⟨M,hM,fun st d=>R7 (bI (bQ o) (.v _)) hr,fun st d a g L ho hh=>?_⟩
  rw[one st d a g L ho hh];exact aC2 hr (D6 M)
theorem aMa (x:fW) (V W:Option (List Int)) (hV:x.first.eW=ov aJ V) (hW:x.second.eW=ov aJ W) (nV:((ol V).length:Int)<99999) (nW:((ol W).length:Int)<99999) :
 ∃r,aD Tryz.prog 221 [.agg (cA x)]=some r∧∃o:Option (List Int),((ol o).length:Int)≤(ol V).length∧(r=ov aJ o∨∃L,o=some L∧r=.uniq 3 1 L.length (aJ L)):=by
 have f1:Flat x.first.eW:=by rw[hV];exact bQ V
 have f2:Flat x.second.eW:=by rw[hW];exact bQ W
 rw[cL Tryz.func221 rfl aMb rfl];simp only[Z8,seval];refine cB (fun m st=>∃k:Nat,(st.env 1=.ptr 1 0 0∧st.heap 1 0=some (.cells (cA x))∧st.env 4=.v (.int .i64 k))∧(∃o:Option (List Int),(ol o).length≤k∧(st.env 3=ov aJ o∨∃g L,o=some L∧st.env 3=.own 30 g∧g<st.aO 30∧st.heap 30 g=some (.row 3 1 L.length (aJ L))))∧k≤(ol V).length∧m=(ol V).length-k)
  (fun e st=>e=.exit 0∧∃o:Option (List Int),(ol o).length≤(ol V).length∧(st.env 3=ov aJ o∨∃g L,o=some L∧st.env 3=.own 30 g∧st.heap 30 g=some (.row 3 1 L.length (aJ L)))) (ol V).length ?step ?start ?rest
 case step =>
  rintro m st ⟨k,hI,⟨o,ho,h3⟩,hk,hm⟩
  by_cases aZ:(k:Int)<(ol V).length
  ·have q0:(0:Int)≤k:=by omega
   have hw:IntKind.i64.wrap ((k:Int)+1)=((k+1:Nat):Int):=by rw[pM _ (by omega) (by omega)];omega
   have R9:=aG7 W (by omega) (gx (0:Int) (ol V) (k:Int))
   by_cases h1:gx (0:Int) (ol V) (k:Int)∈ol W
   ·have DT:=eq_true h1
    rcases aL9 o (by omega) (gx (0:Int) (ol V) (k:Int)) with ⟨ea,eb⟩|⟨M,hM,ea,eb⟩
    ·rcases h3 with h3|⟨g,L,hL,h3,hg,hh⟩
     ·apply oN ((ol V).length-(k+1))
      ·simp only[Z8,seval,hI,h3,aZ,q0,hV,hW,R9,DT,ea,hw];rfl
      ·exact⟨k+1,by simp only[E8,seval,hI],⟨o,by omega,.inl (by simp only[E8,seval])⟩,by omega,rfl⟩
     ·have S3:=fun st d a g=>eb st d a g L hL
      have ho':(ol (some L)).length≤k:=by rw[← hL];exact ho
      apply oN ((ol V).length-(k+1))
      ·simp only[Z8,seval,hI,h3,hh,aZ,q0,hV,hW,R9,DT,S3,hw];rfl
      ·exact⟨k+1,by simp only[E8,seval,hI],⟨some L,by omega,.inl (by simp only[E8,seval])⟩,by omega,rfl⟩
    ·rcases h3 with h3|⟨g,L,hL,h3,hg,hh⟩
     ·apply oN ((ol V).length-(k+1))
      ·simp only[Z8,seval,hI,h3,aZ,q0,hV,hW,R9,DT,ea,hw];rfl
      ·exact⟨k+1,by simp only[E8,seval,hI],⟨some M,by show M.length≤_;omega,.inr ⟨_,M,rfl,by simp only[E8,seval]<;>rfl,by simp only[E8,seval]<;>omega,by simp only[E8,seval]<;>rfl⟩⟩,by omega,rfl⟩
     ·have S3:=fun st d a g=>eb st d a g L hL
      have vA:(g=st.aO 30)=False:=eq_false (by omega)
      apply oN ((ol V).length-(k+1))
      ·simp only[Z8,seval,hI,h3,hh,vA,aZ,q0,hV,hW,R9,DT,S3,hw];rfl
      ·exact⟨k+1,by simp only[E8,seval,hI],⟨some M,by show M.length≤_;omega,.inr ⟨_,M,rfl,by simp only[E8,seval]<;>rfl,by simp only[E8,seval]<;>omega,by simp only[E8,seval]<;>rfl⟩⟩,by omega,rfl⟩
   ·have DT:=eq_false h1
    have h3':st.env 3=ov aJ o∨∃g L,o=some L∧st.env 3=.own 30 g∧g<st.aO 30∧st.heap 30 g=some (.row 3 1 L.length (aJ L)):=h3
    apply oN ((ol V).length-(k+1))
    ·simp only[Z8,seval,hI,aZ,q0,hV,hW,R9,DT,hw];rfl
    ·exact⟨k+1,by simp only[E8,seval,hI],⟨o,by omega,by simpa only[E8,seval] using h3'⟩,by omega,rfl⟩
  ·have h3':st.env 3=ov aJ o∨∃g L,o=some L∧st.env 3=.own 30 g∧st.heap 30 g=some (.row 3 1 L.length (aJ L)):=h3.imp id fun ⟨g,L,a,b,_,c⟩=>⟨g,L,a,b,c⟩
   apply oT (.exit 0)
   ·simp only[Z8,seval,hI,aZ,hV];rfl
   ·exact⟨rfl,o,by omega,by simpa only[E8,seval] using h3'⟩
 case start=>exact⟨0,by simp only[E8,seval]<;>rfl,⟨none,by simp[ol],.inl (by simp only[E8,seval]<;>rfl)⟩,by omega,by omega⟩
 case rest =>
  rintro e st ⟨rfl,o,ho,h3⟩
  rcases h3 with h3|⟨g,L,hL,h3,hh⟩
  ·simp only[Z8,seval,h3];exact⟨_,bX rfl (by simp only[E8,seval,h3]<;>rfl) (bQ o),o,by omega,.inl rfl⟩
  ·simp only[Z8,seval,h3];exact⟨_,tD rfl (by simp only[E8,seval,h3]<;>rfl) (by simp only[E8,seval,hh]<;>rfl) (gD _),o,by omega,.inr ⟨L,hL,rfl⟩⟩
theorem aMc {o:Option (List Int)} {L:List Int} (h:(ol o).length≤L.length):IntKind.i64.wrap ((L.length:Int)-((ol o).length:Int))≠0→L≠[]:=by
 rintro hn rfl
 have h0:(ol o).length=0:=by simpa using h
 rw[h0] at hn;exact hn (by decide)
theorem aRf (o V:Option (List Int)) (no:((ol o).length:Int)<900000) (nV:((ol V).length:Int)<99999) :
 ∃r,aD Tryz.prog 220 [ov aJ o,ov aJ V]=some r∧∃(L:List Int) (n:Int),r=.dZ [ov aJ (some L),.v (.int .i64 n)]∧L.length≤(ol o).length+(ol V).length∧(n≠0→L≠[]):=by
 rw[cL Tryz.func220 rfl aMd (by cases o<;>cases V<;>rfl)]
 have no':((ol o).length:Int)<1000000:=by omega
 simp only[Z8,seval,Nu _ no'];refine cB (fun m st=>∃k:Nat,(st.env 0=ov aJ o∧st.env 1=ov aJ V∧st.env 7=.v (.int .i64 k))∧(∃L:List Int,((ol o).length≤L.length∧L.length≤(ol o).length+k)∧(st.env 6=ov aJ (some L)∨(∃g,st.env 6=.own 21 g∧g<st.aO 21∧st.heap 21 g=some (.row 3 1 L.length (aJ L)))∨(st.env 6=.own 9 0∧st.heap 9 0=some (.row 3 1 L.length (aJ L)))))∧k≤(ol V).length∧m=(ol V).length-k)
  (fun e st=>e=.exit 0∧(st.env 0=ov aJ o)∧∃L:List Int,((ol o).length≤L.length∧L.length≤(ol o).length+(ol V).length)∧(st.env 6=ov aJ (some L)∨∃a g,st.env 6=.own a g∧st.heap a g=some (.row 3 1 L.length (aJ L)))) (ol V).length ?step ?start ?rest
 case step =>
  rintro m st ⟨k,hI,⟨L,hL,h3⟩,hk,hm⟩
  by_cases aZ:(k:Int)<(ol V).length
  ·have q0:(0:Int)≤k:=by omega
   have hw:IntKind.i64.wrap ((k:Int)+1)=((k+1:Nat):Int):=by rw[pM _ (by omega) (by omega)];omega
   rcases aL9 (some L) (by show (L.length:Int)<_;omega) (gx (0:Int) (ol V) (k:Int)) with ⟨ea,eb⟩|⟨M,hM,ea,eb⟩
   ·rcases h3 with h3|⟨g,h3,hg,hh⟩|⟨h3,hh⟩
    ·apply oN ((ol V).length-(k+1))
     ·simp only[Z8,seval,hI,h3,aZ,q0,ea,hw];rfl
     ·exact⟨k+1,by simp only[E8,seval,hI],⟨L,by omega,.inl (by simp only[E8,seval])⟩,by omega,rfl⟩
    ·have S3:=fun st d a g=>eb st d a g L rfl
     apply oN ((ol V).length-(k+1))
     ·simp only[Z8,seval,hI,h3,hh,aZ,q0,S3,hw];rfl
     ·exact⟨k+1,by simp only[E8,seval,hI],⟨L,by omega,.inl (by simp only[E8,seval])⟩,by omega,rfl⟩
    ·have S3:=fun st d a g=>eb st d a g L rfl
     apply oN ((ol V).length-(k+1))
     ·simp only[Z8,seval,hI,h3,hh,aZ,q0,S3,hw];rfl
     ·exact⟨k+1,by simp only[E8,seval,hI],⟨L,by omega,.inl (by simp only[E8,seval])⟩,by omega,rfl⟩
   ·have hM':M.length=L.length+1:=hM
    rcases h3 with h3|⟨g,h3,hg,hh⟩|⟨h3,hh⟩
    ·apply oN ((ol V).length-(k+1))
     ·simp only[Z8,seval,hI,h3,aZ,q0,ea,hw];rfl
     ·exact⟨k+1,by simp only[E8,seval,hI],⟨M,by omega,.inr (.inl ⟨_,by simp only[E8,seval]<;>rfl,by simp only[E8,seval]<;>omega,by simp only[E8,seval]<;>rfl⟩)⟩,by omega,rfl⟩
    ·have S3:=fun st d a g=>eb st d a g L rfl
     have vA:(g=st.aO 21)=False:=eq_false (by omega)
     apply oN ((ol V).length-(k+1))
     ·simp only[Z8,seval,hI,h3,hh,vA,aZ,q0,S3,hw];rfl
     ·exact⟨k+1,by simp only[E8,seval,hI],⟨M,by omega,.inr (.inl ⟨_,by simp only[E8,seval]<;>rfl,by simp only[E8,seval]<;>omega,by simp only[E8,seval]<;>rfl⟩)⟩,by omega,rfl⟩
    ·have S3:=fun st d a g=>eb st d a g L rfl
     apply oN ((ol V).length-(k+1))
     ·simp only[Z8,seval,hI,h3,hh,aZ,q0,S3,hw];rfl
     ·exact⟨k+1,by simp only[E8,seval,hI],⟨M,by omega,.inr (.inl ⟨_,by simp only[E8,seval]<;>rfl,by simp only[E8,seval]<;>omega,by simp only[E8,seval]<;>rfl⟩)⟩,by omega,rfl⟩
  ·have h3':st.env 6=ov aJ (some L)∨∃a g,st.env 6=.own a g∧st.heap a g=some (.row 3 1 L.length (aJ L)):=by
    rcases h3 with h3|⟨g,h3,hg,hh⟩|⟨h3,hh⟩
    ·exact .inl h3
    ·exact .inr ⟨21,g,h3,hh⟩
    ·exact .inr ⟨9,0,h3,hh⟩
   apply oT (.exit 0)
   ·simp only[Z8,seval,hI,aZ];rfl
   ·exact⟨rfl,by simp only[E8,seval,hI],L,by omega,by simpa only[E8,seval] using h3'⟩
 case start=>exact⟨0,by simp only[E8,seval]<;>rfl,⟨ol o,by omega,.inr (.inr ⟨by simp only[E8,seval],by simp only[E8,seval]⟩)⟩,by omega,by omega⟩
 case rest =>
  rintro e st ⟨rfl,h0,L,hL,h3⟩
  rcases h3 with h3|⟨a,g,h3,hh⟩
  ·simp only[Z8,seval,h3,h0];exact⟨_,dP rfl rfl rfl (by simp only[E8,seval,h3,Et]<;>rfl) (by simp only[E8,seval,h3,Et]<;>rfl),L,_,rfl,hL.2,aMc hL.1⟩
  ·simp only[Z8,seval,h3,hh,h0];exact⟨_,dP rfl rfl rfl (by simp only[E8,seval,h3,hh,jZ]<;>rfl) (by simp only[E8,seval,h3,hh,jZ]<;>rfl),L,_,rfl,hL.2,aMc hL.1⟩
theorem aRg (x:fW) (V W:Option (List Int)) (hV:x.first.eW=ov aJ V) (hW:x.second.eW=ov aJ W) (nV:((ol V).length:Int)<99999) (nW:((ol W).length:Int)<99999) (n:Int) :
 ∃r,aD Tryz.prog 219 [.agg (cA x),.v (.int .i64 n)]=some r∧∃e:Int,r=.v (.int .i64 e)∧e≠21:=by
 have f1:Flat x.first.eW:=by rw[hV];exact bQ V
 have f2:Flat x.second.eW:=by rw[hW];exact bQ W
 have fx:Flat (.agg (cA x)):=(nF x).2 ⟨f1,f2⟩
 have kV:=kx (c40 V (by omega) n) (bI (bQ V) (.v _)) (.v _)
 have kW:=kx (c40 W (by omega) n) (bI (bQ W) (.v _)) (.v _)
 obtain⟨ev,BG⟩:∃e,BF (ol V) n=e:=⟨_,rfl⟩
 obtain⟨ew,hew⟩:∃e,BF (ol W) n=e:=⟨_,rfl⟩
 rw[BG] at kV;rw[hew] at kW;obtain⟨r1,N6,c,rfl⟩:=aQ0 x.first x.second f1 f2
 have S4:=kx N6 (bI ((zL _).2 f1) ((zL _).2 f2)) (.v _)
 obtain⟨r2,hr2,o,ho,hro⟩:=aMa x V W hV hW nV nW
 rw[cL Tryz.func219 rfl aMe rfl];by_cases g1:ev=0
 case neg =>
  simp only[Z8,seval,hV,hW,kV,bf g1];exact⟨_,bX rfl (by simp only[E8,seval]<;>rfl) (by first|exact .v _|simp only[dW]),_,rfl,by rw[← BG];exact UB _ _⟩
 by_cases g2:ew=0
 case neg =>
  simp only[Z8,seval,hV,hW,kV,kW,bt g1,bf g2];exact⟨_,bX rfl (by simp only[E8,seval]<;>rfl) (by first|exact .v _|simp only[dW]),_,rfl,by rw[← hew];exact UB _ _⟩
 by_cases g3:x.first.target<x.first.source
 ·simp only[Z8,seval,hV,hW,kV,kW,bt g1,bt g2,g3];exact⟨_,bX rfl (by simp only[E8,seval]<;>rfl) (by first|exact .v _|simp only[dW]),_,rfl,by decide⟩
 by_cases g4:x.second.target<x.second.source
 ·simp only[Z8,seval,hV,hW,kV,kW,bt g1,bt g2,g3,g4];exact⟨_,bX rfl (by simp only[E8,seval]<;>rfl) (by first|exact .v _|simp only[dW]),_,rfl,by decide⟩
 cases c
 ·simp only[Z8,seval,hV,hW,kV,kW,bt g1,bt g2,g3,g4,S4];exact⟨_,bX rfl (by simp only[E8,seval]<;>rfl) (by first|exact .v _|simp only[dW]),_,rfl,by decide⟩
 rcases hro with rfl|⟨L,hL,rfl⟩
 ·have Xi:=kx hr2 (cP fx) (bQ o)
  by_cases g5:((ol o).length:Int)=0
  ·simp only[Z8,seval,hV,hW,kV,kW,bt g1,bt g2,g3,g4,S4,Xi,bt g5];exact⟨_,bX rfl (by simp only[E8,seval]<;>rfl) (by first|exact .v _|simp only[dW]),_,rfl,by decide⟩
  ·simp only[Z8,seval,hV,hW,kV,kW,bt g1,bt g2,g3,g4,S4,Xi,bf g5];exact⟨_,bX rfl (by simp only[E8,seval]<;>rfl) (by first|exact .v _|simp only[dW]),_,rfl,by decide⟩
 ·have Xi:∀(st:St) (d:Nat),aN (aD Tryz.prog) 221 [.agg (cA x)] st (some d)=_:=fun st d=>jE (st:=st) (d:=d) (cP fx) hr2
  by_cases g5:(L.length:Int)=0
  ·simp only[Z8,seval,hV,hW,kV,kW,bt g1,bt g2,g3,g4,S4,Xi,bt g5];exact⟨_,bX rfl (by simp only[E8,seval]<;>rfl) (by first|exact .v _|simp only[dW]),_,rfl,by decide⟩
  ·simp only[Z8,seval,hV,hW,kV,kW,bt g1,bt g2,g3,g4,S4,Xi,bf g5];exact⟨_,bX rfl (by simp only[E8,seval]<;>rfl) (by first|exact .v _|simp only[dW]),_,rfl,by decide⟩
theorem aRi {s:aM} {v:SV} {q:Int} (h:GI s v q) (r:RG s v) (x:fW) (V W:Option (List Int)) (hV:x.first.eW=ov aJ V) (hW:x.second.eW=ov aJ W) (nV:((ol V).length:Int)≤1000) (nW:((ol W).length:Int)≤1000) (hq:q+1000≤900000) :
 ∃r,aD Tryz.prog 205 [.agg (aB s),.agg (cA x)]=some r∧StN s v (q+1000) r:=by
 have hf:=h.sd.flat
 have kU:=h.sd.fl
 have hz:=Iw
 have f1:Flat x.first.eW:=by rw[hV];exact bQ V
 have f2:Flat x.second.eW:=by rw[hW];exact bQ W
 have fx:Flat (.agg (cA x)):=(nF x).2 ⟨f1,f2⟩
 obtain⟨r1,N6,e1,rfl,he1⟩:=aRg x V W hV hW (by omega) (by omega) (ol v.B).length
 have S5:=kx N6 (bI fx (.v _)) (.v _)
 obtain⟨r2,hr2,o,ho,hro⟩:=aMa x V W hV hW (by omega) (by omega)
 have nq:=h.nQ
 obtain⟨r3,hr3,L,n,rfl,hL,BT⟩:=aRf v.Q o (by omega) (by omega)
 have fr:Flat (.dZ [ov aJ (some L),.v (.int .i64 n)]):=.dZ _ (bI (bQ _) (.v _))
 have k220:∀(st:St) (d:Option Nat),fC (aD Tryz.prog) 220 [ov aJ v.Q,ov aJ o] st d=_:=fun st d=>Hi (st:=st) (d:=d) (bI (bQ _) (bQ _)) hr3 fr
 rw[cL Tryz.func205 rfl aMf rfl];by_cases g1:e1=0
 case neg =>
  simp only[Z8,seval,Wx h.sd,S5,bf g1];exact⟨_,by apply dP;rfl;all_goals simp only[aI,bY,Z8,seval,hz]<;>rfl,gL,e1,rfl,hz,he1,fun h=>absurd h g1⟩
 have hQ:((ol (some L)).length:Int)≤q+1000:=by show (L.length:Int)≤_;omega
 have h':GI { s with gG:={ s.gG with gX:=ov aJ (some L)} } { v with Q:=some L } (q+1000) :=
  ⟨⟨h.sd.jP,h.sd.dT,rfl,h.sd.early,h.sd.bW,h.sd.tree,h.sd.tables,h.sd.eV,h.sd.tB,h.sd.nB,h.sd.nL,by show ((ol (some L)).length:Int)<1000000;omega,h.sd.nE,h.sd.nO,h.sd.nT,h.sd.nn⟩,h.up,h.LW,h.pos,h.nl,h.UF,h.rD,h.MV,h.nB,h.nO,h.MW,h.nE,h.SW,h.nT,h.UG,hQ,hq,h.gY⟩
 have D7:=h'.sd.flat
 rcases hro with rfl|⟨M,hM,rfl⟩
 ·have Xi:=kx hr2 (cP fx) (bQ o)
  by_cases g2:n=0
  ·simp only[Z8,seval,Wx h.sd,S5,bt g1,h.sd.gX,Xi,k220,eC,bt g2];exact⟨_,by apply dP;rfl;all_goals simp only[aI,bY,Z8,seval,hz]<;>rfl,gL,9,rfl,hz,by decide,fun h=>by cases h⟩
  ·simp only[Z8,seval,Wx h.sd,S5,bt g1,h.sd.gX,Xi,k220,eC,bf g2];exact⟨_,by apply dP;rfl;all_goals simp only[aI,bY,Z8,seval,D7]<;>rfl,_,0,rfl,D7,by decide,fun _=>⟨_,h',⟨r.now,r.j,r.f,r.nd,r.or,r.rt,r.fe,r.ds,r.tb,⟨fun e=>BT g2 (by injection e),r.ne.e,r.ne.o,r.ne.t,r.ne.ea,r.ne.tb⟩⟩,rfl,rfl⟩⟩
 ·have Xi:∀(st:St) (d:Nat),aN (aD Tryz.prog) 221 [.agg (cA x)] st (some d)=_:=fun st d=>jE (st:=st) (d:=d) (cP fx) hr2
  have k220':∀(st:St) (a g:Nat) (d:Option Nat),st.heap a g=some (.row 3 1 M.length (aJ M))→fC (aD Tryz.prog) 220 [ov aJ v.Q,.own a g] st d=some { dst:=d,val:=.dZ [ov aJ (some L),.v (.int .i64 n)],dM:=some (a,g,none)}:=by
   intro st a g d hh;rw[Vi (s:=a) (k:=g) (by rw[List.flatMap_cons,yQ (bQ v.Q)];rfl) (by intro y hy;simp only[List.mem_cons,List.not_mem_nil,or_false] at hy;rcases hy with rfl|rfl;exact .inl (bQ _);exact .inr (.inl ⟨a,g,rfl⟩)),
    List.map_cons,List.map_cons,List.map_nil,Et,Qt hh,bT,bT,iD,← hM]
   exact ZK hr3 fr
  by_cases g2:n=0
  ·simp only[Z8,seval,Wx h.sd,S5,bt g1,h.sd.gX,Xi,k220',eC,bt g2];exact⟨_,by apply dP;rfl;all_goals simp only[aI,bY,Z8,seval,hz]<;>rfl,gL,9,rfl,hz,by decide,fun h=>by cases h⟩
  ·simp only[Z8,seval,Wx h.sd,S5,bt g1,h.sd.gX,Xi,k220',eC,bf g2];exact⟨_,by apply dP;rfl;all_goals simp only[aI,bY,Z8,seval,D7]<;>rfl,_,0,rfl,D7,by decide,fun _=>⟨_,h',⟨r.now,r.j,r.f,r.nd,r.or,r.rt,r.fe,r.ds,r.tb,⟨fun e=>BT g2 (by injection e),r.ne.e,r.ne.o,r.ne.t,r.ne.ea,r.ne.tb⟩⟩,rfl,rfl⟩⟩
theorem UM {l:List Int} {n:Int} (h:BF l n=0):∀x∈l,0≤x∧x<n:=by
 intro x hx;unfold BF at h;have gT:l≠[]:=fun e=>by subst e;cases hx
 rw[if_neg gT] at h;by_cases g:Jj (Ua l n) l.length<0
 ·rcases El (Ua l n) l.length with ⟨_,hj⟩|⟨k,h1,_,_,h3⟩
  ·obtain⟨j,hj1,rfl⟩:=List.getElem_of_mem hx
   have hb:=hj j hj1
   have e:gx (0:Int) l j=l[j]:=by simp[gx,hj1]
   unfold Ua at hb;rw[e] at hb;omega
  ·omega
 ·rw[if_neg g] at h;split at h<;>omega
theorem GX {s:aM} {v:SV} {a:sJ} {V:List Int} (h:(Gk s v a V).2=0):BF V (ol v.B).length=0:=by
 unfold Gk at h;by_cases g:BF V (ol v.B).length≠0
 ·rw[if_pos g] at h;exact h
 ·exact Classical.not_not.1 g
theorem GI.cast {s:aM} {v:SV} {q:Int} (h:GI s v q) (a:sJ) (V:List Int):GI (Qp s v a V) { v with L:=some (uJ (ol v.L) a.target.aK a.root V).1 } q:=by
 have hl:(uJ (ol v.L) a.target.aK a.root V).1.length=(ol v.L).length:=Qo _ _ _ _
 exact⟨⟨h.sd.jP,rfl,h.sd.gX,h.sd.early,h.sd.bW,h.sd.tree,h.sd.tables,h.sd.eV,h.sd.tB,h.sd.nB,by show ((uJ (ol v.L) a.target.aK a.root V).1.length:Int)<1000000;rw[hl];exact h.sd.nL,h.sd.nQ,h.sd.nE,h.sd.nO,h.sd.nT,h.sd.nn⟩,h.up,h.LW,h.pos,h.nl,h.UF,h.rD,hl.trans h.MV,h.nB,h.nO,h.MW,h.nE,h.SW,h.nT,h.UG,h.nQ,h.Q7,h.gY⟩
def wW (s:aM) (x:AV):aM:={ s with dV:={ s.dV with early:=x }}
theorem UN {e sz n:Nat} {cs:List AV} (h:¬ ∀c∈cs,Flat c):jF (some (.row e sz n cs))=none:=by
 unfold jF;simp only[if_neg h]
theorem aHb {a:sJ} {x g:Nat} (h:a.eW=.own x g) (l:List sJ):¬ ∀c∈dH (l++[a]),Flat c:=by
 intro hf;have hm:AV.own x g∈dH (l++[a]):=by
  unfold dH;rw[List.flatMap_append,List.mem_append];refine .inr ?_
  rw[List.flatMap_cons,List.flatMap_nil,List.append_nil];unfold hU;rw[h];simp
 have:=hf _ hm
 cases this
theorem lT {α:Type} {a b:List (Option α)} {x y:List α} (ha:bP a=some x) (hb:bP b=some y):bP (a++b)=some (x++y):=by
 induction a generalizing x with
 | nil=>simp only[iD,Option.some.injEq] at ha;subst ha;simpa using hb
 | cons c a ih =>
   cases c with
   | none=>simp[bP] at ha
   | some c =>
     rw[bT] at ha;simp only[Option.map_eq_some_iff] at ha;obtain⟨z,hz,rfl⟩:=ha
     rw[List.cons_append,bT,ih hz];rfl
theorem Cx {cs:List AV} {f:AV→Option AV} (h:∀c∈cs,f c=some c):bP (cs.map f)=some cs:=by
 induction cs with
 | nil=>rfl
 | cons c cs ih=>rw[List.map_cons,h c (List.mem_cons_self ..),bT,ih fun x hx=>h x (List.mem_cons_of_mem _ hx)];rfl
theorem Xj {st:St} {c:AV} (h:Flat c):cM st c=some c:=by unfold cM;rw[if_pos h]
theorem S6 {st:St} {c:AV} (h:Flat c):Ck st c=some c:=by
 unfold Ck;cases h<;>exact Xj (by constructor;try assumption)
theorem D8 {s:aM} {v:SV} (h:SD s v) (st:St) {E:List sJ} (hE:∀x∈E,Flat x.eW) {a:sJ} {V:List Int} {x g x' g' n:Nat}
 (hh:st.heap x g=some (.row 87 67 n (dH (E++[{ a with eW:=.own x' g' }])))) (uX:st.heap x' g'=some (.row 3 1 V.length (aJ V))) :
 Ms st (.agg (aB (wW s (.own x g))))=some (.agg (aB (wW s (.sl n (dH (E++[{ a with eW:=ov aJ (some V)}])))))):=by
 obtain⟨h1,h2,h3,h4,h5,h6,h7⟩:=h.fl
 have fl:∀ {cs:List AV},(∀c∈cs,Flat c)→bP (cs.map (Ck st))=some cs:=fun hc=>Cx fun c m=>S6 (hc c m)
 have fl1:∀ {cs:List AV},(∀c∈cs,Flat c)→bP (cs.map (cM st))=some cs:=fun hc=>Cx fun c m=>Xj (hc c m)
 have hv:cM st (.own x' g')=some (ov aJ (some V)):=by rw[bG,uX];exact jZ _ _
 have hatt:bP ((dH (E++[{ a with eW:=.own x' g' }])).map (cM st))=some (dH (E++[{ a with eW:=ov aJ (some V)}])):=by
  unfold dH;rw[List.flatMap_append,List.flatMap_append,List.map_append];refine lT (fl1 (tH E hE)) ?_
  simp only[List.flatMap_cons,List.flatMap_nil,List.append_nil];unfold hU;rw[List.map_append,List.map_append,List.map_append];refine lT (fl1 (eA _)) (lT (fl1 (dL _)) (lT (fl1 (dD _)) ?_))
  rw[List.map_cons,List.map_nil,hv];rfl
 have hea:Ck st (.own x g)=some (.sl n (dH (E++[{ a with eW:=ov aJ (some V)}]))):=by
  unfold Ck;simp only[hh,hatt];rfl
 unfold Ms;simp only
 have:bP ((aB (wW s (.own x g))).map (Ck st))=some (aB (wW s (.sl n (dH (E++[{ a with eW:=ov aJ (some V)}]))))):=by
  unfold wW aB jY;simp only[List.map_append];refine lT (fl (uD _ h1)) (lT (fl (qV _ h2 h3)) (lT (fl (lF _)) (lT (lT ?_ (fl (by simpa using h5))) (lT (fl (wT _ h6)) (lT (fl (eA _)) (lT (fl (dL _)) (fl (by simpa using h7))))))))
  rw[List.map_cons,List.map_nil,hea];rfl
 rw[this];rfl
theorem S7 {s:aM} {v:SV} (h:SD s v) (st:St) {E:List sJ} {a:sJ} {x g x' g' n:Nat} (ha:a.eW=.own x' g')
 (hh:st.heap x g=some (.row 87 67 n (dH (E++[a])))):fU st (.agg (aB (wW s (.own x g))))=none:=by
 have kU:=h.fl
 have hn:=UN (e:=87) (sz:=67) (n:=n) (aHb ha E)
 unfold wW;simp only[bR,gH,bG,hh,hn,cH,dW,kU,cW,MZ]
theorem GI.early {s:aM} {v:SV} {q:Int} (h:GI s v q) (E:Option (List sJ)) (hE:∀a∈ol E,Cs a) (hn:((ol E).length:Int)≤s.cFg.mL.qG):GI (wW s (ov dH E)) { v with E:=E } q :=
 ⟨⟨h.sd.jP,h.sd.dT,h.sd.gX,rfl,h.sd.bW,h.sd.tree,h.sd.tables,hE,h.sd.tB,h.sd.nB,h.sd.nL,h.sd.nQ,by have:=h.SW;show ((ol E).length:Int)<1000000;omega,h.sd.nO,h.sd.nT,h.sd.nn⟩,h.up,h.LW,h.pos,h.nl,h.UF,h.rD,h.MV,h.nB,h.nO,h.MW,hn,h.SW,h.nT,h.UG,h.nQ,h.Q7,h.gY⟩
theorem aHc (s:aM) (v:SV) (a:sJ) (V:List Int):(Gk s v a V).2≠21:=by
 unfold Gk;split
 ·exact UB _ _
 repeat (split;simp)
 simp
theorem aRj {s:aM} {v:SV} {q:Int} (h:GI s v q) (r:RG s v) (a:sJ) (V:Option (List Int)) (hV:a.eW=ov aJ V) (nV:((ol V).length:Int)<99999) :
 ∃r,aD Tryz.prog 204 [.agg (aB s),.agg (hU a)]=some r∧StN s v q r:=by
 have hf:=h.sd.flat
 have kU:=h.sd.fl
 have hz:=Iw
 have fa:Flat (.agg (hU a)):=(zK a).2 (by rw[hV];exact bQ V)
 have k39:=kx (c39 h.sd h.up h.sp a V hV (by omega)) (bI hf fa) (.dZ _ (bI (.v _) (.v _)))
 rw[cL Tryz.func204 rfl aMg rfl];by_cases g1:(Gk s v a (ol V)).2=0
 case neg =>
  simp only[Z8,seval,k39,eC,bf g1];exact⟨_,by apply dP;rfl;all_goals simp only[aI,bY,Z8,seval,hz]<;>rfl,gL,_,rfl,hz,aHc _ _ _ _,fun h=>absurd h g1⟩
 cases g2:(Gk s v a (ol V)).1
 ·have hr:∀x∈ol V,0≤x∧x<(ol v.L).length:=by rw[h.MV];exact UM (GX g1)
  have h':=h.cast a (ol V)
  have D7:=h'.sd.flat
  have k44:=kx (c44 h.sd a V hV (by omega) hr) (bI hf fa) D7
  simp only[Z8,seval,k39,eC,bt g1,g2,k44];exact⟨_,by apply dP;rfl;all_goals simp only[aI,bY,Z8,seval,D7]<;>rfl,_,0,rfl,D7,by decide,fun _=>⟨_,h',⟨r.now,r.j,r.f,r.nd,r.or,r.rt,r.fe,r.ds,r.tb,⟨r.ne.q,r.ne.e,r.ne.o,r.ne.t,r.ne.ea,r.ne.tb⟩⟩,rfl,rfl⟩⟩
 ·by_cases g3:s.cFg.mL.qG≤((ol v.E).length:Int)
  ·simp only[Z8,seval,k39,eC,bt g1,g2,h.sd.early,g3];exact⟨_,by apply dP;rfl;all_goals simp only[aI,bY,Z8,seval,hz]<;>rfl,gL,11,rfl,hz,by decide,fun h=>by cases h⟩
  ·have hE:∀b∈ol (some (ol v.E++[{ a with eW:=ov aJ (some (ol V))}])),Cs b:=by
    intro b hb;rcases List.mem_append.1 (show b∈ol v.E++[{ a with eW:=ov aJ (some (ol V))}] from hb) with hb|hb
    ·exact h.sd.eV b hb
    ·rw[List.mem_singleton] at hb;subst hb;exact⟨some (ol V),rfl,by show ((ol V).length:Int)<_;omega⟩
   have hVne:ol V≠[]:=fun e=>by have h0:=GX g1;rw[e] at h0;simp[BF] at h0
   have hEa:∀b∈ol (some (ol v.E++[{ a with eW:=ov aJ (some (ol V))}])),∃W,b.eW=ov aJ (some W)∧W≠[]:=by
    intro b hb;rcases List.mem_append.1 (show b∈ol v.E++[{ a with eW:=ov aJ (some (ol V))}] from hb) with hb|hb
    ·exact r.ne.ea b hb
    ·rw[List.mem_singleton] at hb;subst hb;exact⟨ol V,rfl,hVne⟩
   have h':=h.early (some (ol v.E++[{ a with eW:=ov aJ (some (ol V))}])) hE (by show (((ol v.E++[{ a with eW:=ov aJ (some (ol V))}]).length:Nat):Int)≤_;rw[List.length_append,List.length_cons,List.length_nil];omega)
   have D7:=h'.sd.flat
   have nE:=h.sd.nE
   have hEf:∀x∈ol v.E,Flat x.eW:=fun x m=>(h.sd.eV x m).fl
   simp only[Z8,seval,k39,eC,bt g1,g2,h.sd.early,g3,hV,Nu _ (show ((ol V).length:Int)<1000000 by omega),ZL _ nE,Vj _ _ _ _ nE]
   have hlen:(ol v.E++[{ a with eW:=.own 35 0 }]).length=(ol v.E++[{ a with eW:=ov aJ (some (ol V))}]).length:=by rw[List.length_append,List.length_append];rfl
   exact⟨_,aMh rfl (by simp only[bY,Z8,seval]<;>rfl) (by simp only[bY,E8,seval]<;>rfl)
    (S7 h.sd _ rfl (by simp only[E8,seval]<;>rfl)) (D8 (x':=35) (g':=0) h.sd _ hEf (by simp only[E8,seval,hlen]<;>rfl) (by simp only[E8,seval]<;>rfl)) (by simp only[Z8,seval]<;>rfl),_,0,rfl,D7,by decide,fun _=>⟨_,h',⟨r.now,r.j,r.f,r.nd,r.or,r.rt,r.fe,r.ds,r.tb,⟨r.ne.q,by simp,r.ne.o,r.ne.t,hEa,r.ne.tb⟩⟩,rfl,rfl⟩⟩
end Go.Ab.Tryz
