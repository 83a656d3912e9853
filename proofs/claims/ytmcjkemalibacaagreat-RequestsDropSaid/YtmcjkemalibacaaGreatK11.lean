/-
  Part 11 of the proof: an evaluator of programs, its soundness, and what functions of this program compute.
-/
import Derived.Test.YtmcjkemalibacaaGreatK10
import Derived.Test.YtmcjkemalibacaaGreatK9
set_option linter.all false
set_option maxRecDepth 20000
set_option maxHeartbeats 40000000
namespace Go.Ab.Tryz
open Classical Go.Proofs Go.Ab
theorem yI (s:Config):Flat (.agg (bU s))↔Flat s.jN:=by
 constructor
 ·intro h;have h:∀x∈bU s,Flat x:=by cases h with|agg _ h=>exact h
  exact h _ (List.mem_of_getElem? (yZ s))
 ·intro h0;exact .agg _ (tV s h0)
theorem Nj (s:uU):Flat (.agg (eX s))↔Flat s.dQ∧Flat s.gZ:=by
 constructor
 ·intro h;have h:∀x∈eX s,Flat x:=by cases h with|agg _ h=>exact h
  exact⟨h _ (List.mem_of_getElem? (vE s)),h _ (List.mem_of_getElem? (xB s))⟩
 ·rintro⟨h0,h1⟩
  exact .agg _ (qL s h0 h1)
theorem DP (s:zA):Flat (.agg (jO s))↔Flat s.early∧Flat s.bX:=by
 constructor
 ·intro h;have h:∀x∈jO s,Flat x:=by cases h with|agg _ h=>exact h
  exact⟨h _ (List.mem_of_getElem? (vF s)),h _ (List.mem_of_getElem? (sQ s))⟩
 ·rintro⟨h0,h1⟩
  exact .agg _ (Nk s h0 h1)
theorem LO (s:Fo):Flat (.agg (mM s))↔Flat s.nodes:=by
 constructor
 ·intro h;have h:∀x∈mM s,Flat x:=by cases h with|agg _ h=>exact h
  exact h _ (List.mem_of_getElem? (xC s))
 ·intro h0;exact .agg _ (wH s h0)
theorem Gx (s:aO):Flat (.agg (aB s))↔Flat s.cFg.jN∧Flat s.gG.dQ∧Flat s.gG.gZ∧Flat s.dV.early∧Flat s.dV.bX∧Flat s.tree.nodes∧Flat s.tables:=by
 constructor
 ·intro h;have h:∀x∈aB s,Flat x:=by cases h with|agg _ h=>exact h
  exact⟨h _ (List.mem_of_getElem? (qM s)),h _ (List.mem_of_getElem? (oZ s)),h _ (List.mem_of_getElem? (pW s)),h _ (List.mem_of_getElem? (pA s)),h _ (List.mem_of_getElem? (nX s)),h _ (List.mem_of_getElem? (qN s)),h _ (List.mem_of_getElem? (vG s))⟩
 ·rintro⟨h0,h1,h2,h3,h4,h5,h6⟩
  exact .agg _ (Sv s h0 h1 h2 h3 h4 h5 h6)
theorem mN (s:State):Flat (.agg (aF s))↔Flat s.store.cFg.jN∧Flat s.store.gG.dQ∧Flat s.store.gG.gZ∧Flat s.store.dV.early∧Flat s.store.dV.bX∧Flat s.store.tree.nodes∧Flat s.store.tables∧Flat s.dN∧Flat s.kH:=by
 constructor
 ·intro h;have h:∀x∈aF s,Flat x:=by cases h with|agg _ h=>exact h
  exact⟨h _ (List.mem_of_getElem? (qO s)),h _ (List.mem_of_getElem? (pH s)),h _ (List.mem_of_getElem? (qD s)),h _ (List.mem_of_getElem? (pI s)),h _ (List.mem_of_getElem? (oG s)),h _ (List.mem_of_getElem? (qP s)),h _ (List.mem_of_getElem? (tW s)),h _ (List.mem_of_getElem? (zB s)),h _ (List.mem_of_getElem? (Au s))⟩
 ·rintro⟨h0,h1,h2,h3,h4,h5,h6,h7,h8⟩
  exact .agg _ (LP s h0 h1 h2 h3 h4 h5 h6 h7 h8)
theorem zC (s:rX):Flat (.agg (iB s))↔Flat s.eY:=by
 constructor
 ·intro h;have h:∀x∈iB s,Flat x:=by cases h with|agg _ h=>exact h
  exact h _ (List.mem_of_getElem? (Ej s))
 ·intro h0;exact .agg _ (Qm s h0)
theorem zD (s:Claim):Flat (.agg (gV s))↔Flat s.eY:=by
 constructor
 ·intro h;have h:∀x∈gV s,Flat x:=by cases h with|agg _ h=>exact h
  exact h _ (List.mem_of_getElem? (tX s))
 ·intro h0;exact .agg _ (Gy s h0)
theorem nG (s:fZ):Flat (.agg (cB s))↔Flat s.first.eY∧Flat s.second.eY:=by
 constructor
 ·intro h;have h:∀x∈cB s,Flat x:=by cases h with|agg _ h=>exact h
  exact⟨h _ (List.mem_of_getElem? (oH s)),h _ (List.mem_of_getElem? (nY s))⟩
 ·rintro⟨h0,h1⟩
  exact .agg _ (Gz s h0 h1)
theorem kK (s:Table):Flat (.agg (cI s))↔Flat s.jN:=by
 constructor
 ·intro h;have h:∀x∈cI s,Flat x:=by cases h with|agg _ h=>exact h
  exact h _ (List.mem_of_getElem? (Bt s))
 ·intro h0;exact .agg _ (Ha s h0)
theorem TB (s:wZ):Flat (.agg (lC s))↔Flat s.Ge.eY∧Flat s.oU.first.eY∧Flat s.oU.second.eY∧Flat s.table.jN:=by
 constructor
 ·intro h;have h:∀x∈lC s,Flat x:=by cases h with|agg _ h=>exact h
  exact⟨h _ (List.mem_of_getElem? (Cp s)),h _ (List.mem_of_getElem? (sB s)),h _ (List.mem_of_getElem? (rQ s)),h _ (List.mem_of_getElem? (Av s))⟩
 ·rintro⟨h0,h1,h2,h3⟩
  exact .agg _ (v9 s h0 h1 h2 h3)
theorem aFH (x:Value):Flat (.v x)=True:=eq_true (.v x)
theorem LQ (o:Option (List Int)):Flat (ov bD o)=True:=eq_true (dR o)
theorem LR (o:Option (List Int)):Flat (ov aJ o)=True:=eq_true (bS o)
theorem DQ (o:Option (List kS)):Flat (ov cU o)=True:=eq_true (qQ o)
theorem Wi (o:Option (List Block)):Flat (ov aH o)=True:=eq_true (Ek o)
theorem Nl (o:Option (List Request)):Flat (ov aA o)=True:=eq_true (cH o)
theorem LS (n:Nat) (o:List Int):Flat (.sl n (bD o))=True:=eq_true (.sl _ _ (iE o))
theorem LU (n:Nat) (o:List Int):Flat (.sl n (aJ o))=True:=eq_true (.sl _ _ (gF o))
theorem DR (n:Nat) (o:List kS):Flat (.sl n (cU o))=True:=eq_true (.sl _ _ (nH o))
theorem Wj (n:Nat) (o:List Block):Flat (.sl n (aH o))=True:=eq_true (.sl _ _ (pB o))
theorem Nm (n:Nat) (o:List Request):Flat (.sl n (aA o))=True:=eq_true (.sl _ _ (dX o))
theorem DS (n:Nat) (o:List Node):Flat (.sl n (cD o))=True:=eq_true (.sl _ _ (kD o))
theorem YE (r:cK):Flat (.agg (aX r))=True:=eq_true (qK r)
theorem LV (r:Block):Flat (.agg (aU r))=True:=eq_true (uT r)
theorem YF (r:qR):Flat (.agg (gH r))=True:=eq_true (.agg _ (iO r))
theorem Aw (r:fS):Flat (.agg (bY r))=True:=eq_true (.agg _ (dC r))
theorem N0 (r:Request):Flat (.agg (bL r))=True:=eq_true (.agg _ (fQ r))
theorem Wk (r:fM):Flat (.agg (bZ r))=True:=eq_true (.agg _ (gN r))
theorem DT (r:pC):Flat (.agg (fN r))=True:=eq_true (.agg _ (El r))
theorem LW (x:AV):Flat (.agg [x])↔Flat x:=by
 constructor
 ·intro h;cases h with|agg _ h=>exact h x (by simp)
 ·intro h;exact .agg _ (by simpa using h)
theorem dW:(type_of% aFH)∧(type_of% LQ)∧(type_of% LR)∧(type_of% DQ)∧(type_of% Wi)∧(type_of% Nl)∧(type_of% LS)∧(type_of% LU)∧(type_of% DR)∧(type_of% Wj)∧(type_of% Nm)∧(type_of% DS)∧(type_of% YE)∧(type_of% LV)∧(type_of% YF)∧(type_of% Aw)∧(type_of% N0)∧(type_of% Wk)∧(type_of% DT)∧(type_of% LW)∧(type_of% yI)∧(type_of% Nj)∧(type_of% DP)∧(type_of% LO)∧(type_of% Gx)∧(type_of% mN)∧(type_of% zC)∧(type_of% zD)∧(type_of% nG)∧(type_of% kK)∧(type_of% TB) :=
 ⟨aFH,LQ,LR,DQ,Wi,Nl,LS,LU,DR,Wj,Nm,DS,YE,LV,YF,Aw,N0,Wk,DT,LW,yI,Nj,DP,LO,Gx,mN,zC,zD,nG,kK,TB⟩
structure SV where
 B:Option (List Int)
 L:Option (List kS)
 Q:Option (List Int)
 E:Option (List rX)
 O:Option (List Block)
 T:Option (List Table)
 ns:List Node
def Cq (a:rX):Prop:=∃V:Option (List Int),a.eY=ov aJ V∧((ol V).length:Int)<1000000
def sC (t:Table):Prop:=∃b:Option (List Int),t.jN=ov bD b∧((ol b).length:Int)<1000000
structure SD (s:aO) (v:SV):Prop where
 jN:s.cFg.jN=ov bD v.B
 dQ:s.gG.dQ=ov cU v.L
 gZ:s.gG.gZ=ov aJ v.Q
 early:s.dV.early=ov dG v.E
 bX:s.dV.bX=ov aH v.O
 tree:s.tree=⟨.sl v.ns.length (cD v.ns)⟩
 tables:s.tables=ov aT v.T
 eV:∀a∈ol v.E,Cq a
 tB:∀t∈ol v.T,sC t
 nB:((ol v.B).length:Int)<1000000
 nL:((ol v.L).length:Int)<1000000
 nQ:((ol v.Q).length:Int)<1000000
 nE:((ol v.E).length:Int)<1000000
 nO:((ol v.O).length:Int)<1000000
 nT:((ol v.T).length:Int)<1000000
 nn:(v.ns.length:Int)<1000000
theorem Cq.fl {a:rX} (h:Cq a):Flat a.eY:=by obtain⟨V,h,_⟩:=h;rw[h];exact bS V
theorem sC.fl {a:Table} (h:sC a):Flat a.jN:=by obtain⟨V,h,_⟩:=h;rw[h];exact dR V
theorem SD.fE {s:aO} {v:SV} (h:SD s v):Flat (ov dG v.E):=Wl v.E fun a ha=>(h.eV a ha).fl
theorem SD.fT {s:aO} {v:SV} (h:SD s v):Flat (ov aT v.T):=lX v.T fun a ha=>(h.tB a ha).fl
theorem SD.flat {s:aO} {v:SV} (h:SD s v):Flat (.agg (aB s)):=by
 rw[Gx,h.jN,h.dQ,h.gZ,h.early,h.bX,h.tree,h.tables];exact⟨dR _,qQ _,bS _,h.fE,Ek _,.sl _ _ (kD _),h.fT⟩
theorem c97 {s:aO} {v:SV} (hs:SD s v):aC Tryz.prog 97 [.agg (aB s)]=some (.v (.int .i64 (ol v.B).length)):=by
 rw[cL Tryz.func97 rfl aOO rfl];simp only[Z8,seval,hs.jN];exact bW rfl (by simp only[E8,seval]<;>rfl) (.v _)
theorem Wm {s:aO} {v:SV} (hs:SD s v) (st:St) (d:Option Nat):aL (aC Tryz.prog) 97 [.agg (aB s)] st d=some { dst:=d,val:=.v (.int .i64 (ol v.B).length)}:=bK (cV hs.flat) (c97 hs) (.v _)
noncomputable def Dv (s:aO) (x:Int):Int:=IntKind.u64.wrap (x.tdiv s.cFg.qS)
theorem c98 (s:aO) (h:s.cFg.qS≠0) (x:Int):aC Tryz.prog 98 [.agg (aB s),.v (.int .u64 x)]=some (.v (.int .u64 (Dv s x))):=by
 rw[cL Tryz.func98 rfl aOP rfl];have h0:(s.cFg.qS=0)=False:=eq_false h
 simp only[Z8,seval,h0];exact bW rfl (by simp only[E8,seval,Dv]<;>rfl) (.v _)
theorem Mp (s:aO) (h:s.cFg.qS≠0) (hf:Flat (.agg (aB s))) (x:Int) (st:St) (d:Option Nat):aL (aC Tryz.prog) 98 [.agg (aB s),.v (.int .u64 x)] st d=some { dst:=d,val:=.v (.int .u64 (Dv s x))}:=bK (bH hf (.v _)) (c98 s h x) (.v _)
noncomputable def Dw (s:aO) (e:Int):Int × Int:=KW e s.cFg.qS
theorem c99 (s:aO) (x:Int):aC Tryz.prog 99 [.agg (aB s),.v (.int .u64 x)]=some (.eN [.v (.int .u64 (Dw s x).1),.v (.bool ((Dw s x).2 == 0))]):=by
 rw[cL Tryz.func99 rfl aOR rfl];simp only[Z8,seval,aOj,eB];exact dO rfl rfl rfl (by simp only[E8,seval,Dw]<;>rfl) (by simp only[E8,seval,Dw]<;>rfl)
theorem Uy (s:aO) (hf:Flat (.agg (aB s))) (x:Int) (st:St) (d:Option Nat):aL (aC Tryz.prog) 99 [.agg (aB s),.v (.int .u64 x)] st d=some { dst:=d,val:=.eN [.v (.int .u64 (Dw s x).1),.v (.bool ((Dw s x).2 == 0))]}:=bK (bH hf (.v _)) (c99 s x) (.eN _ (bH (.v _) (.v _)))
theorem aOS {s:aO} {v:SV} (hs:SD s v) (i:Int):aC Tryz.prog 251 [.agg (aB s),.v (.int .i64 i)]=some (.v (.bool (decide (0≤i) && decide (i<v.ns.length)))):=by
 rw[cL Tryz.func251 rfl aJT rfl];by_cases h:0≤i
 all_goals
  simp only[Z8,seval,h,hs.tree,decide_true,decide_false,Bool.true_and,Bool.false_and];exact bW rfl (by simp only[E8,seval,h,decide_true,decide_false,Bool.true_and,Bool.false_and]<;>rfl) (.v _)
theorem Wn {s:aO} {v:SV} (hs:SD s v) (i:Int) (st:St) (d:Option Nat):aL (aC Tryz.prog) 251 [.agg (aB s),.v (.int .i64 i)] st d=some { dst:=d,val:=.v (.bool (decide (0≤i) && decide (i<v.ns.length)))}:=bK (bH hs.flat (.v _)) (aOS hs i) (.v _)
def N1 (s:aO) (b:Block):Prop:=b.fin.aK≤b.hU.aK∧b.hU.aK≤b.dS.pj.aK∧b.fin.aK≤b.dS.pf.aK∧b.dS.pf.aK≤b.dS.pj.aK∧b.dS.pj.aK≤Dv s b.slot
theorem aOT (s:aO) (h:s.cFg.qS≠0) (hf:Flat (.agg (aB s))) (b:Block):aC Tryz.prog 137 [.agg (aB s),.agg (aU b)]=some (.v (.bool (decide (N1 s b)))):=by
 rw[cL Tryz.func137 rfl aJU rfl];have h98:=Mp s h hf
 unfold N1;by_cases h1:b.fin.aK≤b.hU.aK
 ·by_cases h2:b.hU.aK≤b.dS.pj.aK
  ·by_cases h3:b.fin.aK≤b.dS.pf.aK
   ·by_cases h4:b.dS.pf.aK≤b.dS.pj.aK
    ·simp only[*,true_and,false_and,and_true,and_false,decide_true,decide_false];simp only[Z8,seval, *];exact bW rfl (by simp only[E8,seval, *]<;>rfl) (.v _)
    ·simp only[*,true_and,false_and,and_true,and_false,decide_true,decide_false];simp only[Z8,seval, *];exact bW rfl (by simp only[E8,seval, *]<;>rfl) (.v _)
   ·simp only[*,true_and,false_and,and_true,and_false,decide_true,decide_false];simp only[Z8,seval, *];exact bW rfl (by simp only[E8,seval, *]<;>rfl) (.v _)
  ·simp only[*,true_and,false_and,and_true,and_false,decide_true,decide_false];simp only[Z8,seval, *];exact bW rfl (by simp only[E8,seval, *]<;>rfl) (.v _)
 ·simp only[*,true_and,false_and,and_true,and_false,decide_true,decide_false];simp only[Z8,seval, *];exact bW rfl (by simp only[E8,seval, *]<;>rfl) (.v _)
theorem aJV (s:aO) (h:s.cFg.qS≠0) (hf:Flat (.agg (aB s))) (b:Block) (st:St) (d:Option Nat):aL (aC Tryz.prog) 137 [.agg (aB s),.agg (aU b)] st d=some { dst:=d,val:=.v (.bool (decide (N1 s b)))}:=bK (bH hf (uT _)) (aOT s h hf b) (.v _)
noncomputable def TC (s:aO) (ns:List Node) (i e:Int):Prop:=(Dw s e).2≠0∨(nd ns i).block.slot≤(Dw s e).1
theorem aOU {s:aO} {v:SV} (hs:SD s v) (i e:Int) (i0:0≤i) (i1:i<v.ns.length):aC Tryz.prog 122 [.agg (aB s),.v (.int .i64 i),.v (.int .u64 e)]=some (.v (.bool (decide (TC s v.ns i e)))):=by
 rw[cL Tryz.func122 rfl aJW rfl];unfold TC;by_cases h:(Dw s e).2=0
 ·have hq:((Dw s e).2 == 0)=true:=by simp[h]
  simp only[h,ne_eq,not_true_eq_false,false_or];simp only[Z8,seval,Uy s hs.flat,eB,hq,hs.tree,i0,i1];exact bW rfl (by simp only[E8,seval]<;>rfl) (.v _)
 ·have hq:((Dw s e).2 == 0)=false:=by simp[h]
  simp only[h,ne_eq,not_false_eq_true,true_or,decide_true];simp only[Z8,seval,Uy s hs.flat,eB,hq,hs.tree,i0,i1];exact bW rfl (by simp only[E8,seval]<;>rfl) (.v _)
theorem aJX {s:aO} {v:SV} (hs:SD s v) (i e:Int) (i0:0≤i) (i1:i<v.ns.length) (st:St) (d:Option Nat):aL (aC Tryz.prog) 122 [.agg (aB s),.v (.int .i64 i),.v (.int .u64 e)] st d=some { dst:=d,val:=.v (.bool (decide (TC s v.ns i e)))}:=bK (nD hs.flat (.v _) (.v _)) (aOU hs i e i0 i1) (.v _)
theorem pR (x:Int) (h1:-9223372036854775808≤x) (h2:x≤9223372036854775807):IntKind.i64.wrap x=x:=wrap_i64 x h1 h2
theorem yJ {α:Type} (z:α) (p:α→Bool) (l:List α) (k:Nat) (h:k<l.length):(l.take (k+1)).filter p=(l.take k).filter p++if p (gx z l k)=true then [gx z l k] else []:=by
 have hg:gx z l k=l[k]:=by simp[gx,h]
 rw[List.take_succ_eq_append_getElem h,List.filter_append,hg];congr 1
 by_cases hp:p l[k]=true<;>simp[hp]
noncomputable def wI (p:Nat→Prop):Nat→Int
 | 0=>-1
 | k+1=>if 0≤wI p k then wI p k else if p k then k else -1
theorem rH {p:Nat→Prop}:∀n:Nat,(∀j,j<n→¬p j)→wI p n=-1
 | 0,_=>rfl
 | n+1,h=>by
   simp only[wI];rw[rH n fun j hj=>h j (by omega),if_neg (by omega),if_neg (h n (by omega))]
theorem Em {p:Nat→Prop} {k:Nat} (hk:p k) (hj:∀j,j<k→¬p j):∀n:Nat,k<n→wI p n=k
 | 0,h=>by omega
 | n+1,h=>by
   simp only[wI];by_cases Eh:k=n
   ·subst Eh;rw[rH k hj,if_neg (by omega),if_pos hk]
   ·rw[Em hk hj n (by omega),if_pos (by omega)]
theorem vH (p:Nat→Prop) (n:Nat):(wI p n=-1∧∀j,j<n→¬p j)∨∃k:Nat,k<n∧p k∧(∀j,j<k→¬p j)∧wI p n=k:=by
 by_cases h:∃k,k<n∧p k
 ·obtain⟨k,⟨hk,hp⟩,hm⟩:=En h
  have hj:∀j,j<k→¬p j:=fun j hj hpj=>by have:=hm j ⟨by omega,hpj⟩;omega
  exact .inr ⟨k,hk,hp,hj,Em hp hj n hk⟩
 ·have h':∀j,j<n→¬p j:=fun j hj hp=>h ⟨j,hj,hp⟩
  exact .inl ⟨rH n h',h'⟩
theorem TE (p:Nat→Prop) (n:Nat):-1≤wI p n∧wI p n<n:=by
 rcases vH p n with ⟨h,_⟩|⟨k,hk,_,_,h⟩<;>rw[h]<;>omega
noncomputable def K0 (l:List Table) (c:fS):Int:=wI (fun k=>(gx iW l k).ck=c) l.length
theorem c65 (o:Option (List Table)) (hn:((ol o).length:Int)<1000000) (c:fS):aC Tryz.prog 65 [ov aT o,.agg (bY c)]=some (.v (.int .i64 (K0 (ol o) c))):=by
 rw[cL Tryz.func65 rfl aOV (by cases o<;>rfl)]
 simp only[Z8,seval];refine lV (fun m st=>∃k:Nat,(st.env 0=ov aT o∧st.env 3=.ptr 3 0 0∧st.heap 3 0=some (.cells (bY c))∧st.env 5=.v (.int .i64 k))∧(∀j:Nat,j<k→¬((gx iW (ol o) (j:Int)).ck=c))∧k≤(ol o).length∧m=(ol o).length-k)
  (fun e st=>(e=.ret∧∃k:Nat,k<(ol o).length∧((gx iW (ol o) (k:Int)).ck=c)∧(∀j:Nat,j<k→¬((gx iW (ol o) (j:Int)).ck=c))∧st.env 4=.v (.int .i64 (k:Nat)))∨(e=.exit 0∧(∀j:Nat,j<(ol o).length→¬((gx iW (ol o) (j:Int)).ck=c))∧st.env 0=ov aT o∧st.env 3=.ptr 3 0 0∧st.heap 3 0=some (.cells (bY c)))) ((ol o).length) ?step ?start ?rest
 case step =>
  rintro m st ⟨k,hI,hj,hk,hm⟩
  by_cases bA:(k:Int)<(ol o).length
  ·have q0:(0:Int)≤k:=by omega
   have hw:IntKind.i64.wrap ((k:Int)+1)=((k+1:Nat):Int):=by rw[pR _ (by omega) (by omega)];omega
   by_cases hh:(gx iW (ol o) (k:Int)).ck=c
   ·apply oT (.ret)
    ·simp only[Z8,seval,hI,bA,q0,hh];rfl
    ·exact .inl ⟨rfl,k,by omega,hh,hj,by simp only[E8,seval]⟩
   ·apply oN ((ol o).length-(k+1))
    ·simp only[Z8,seval,hI,bA,q0,hh,hw];rfl
    ·exact⟨k+1,by simp only[E8,seval,hI],fun j h=>(Nat.lt_succ_iff_lt_or_eq.1 h).elim (hj j) fun e=>by subst e;exact hh,by omega,rfl⟩
  ·apply oT (.exit 0)
   ·simp only[Z8,seval,hI,bA];rfl
   ·exact .inr ⟨rfl,fun j h=>hj j (by omega),by simp only[E8,seval,hI]⟩
 case start=>exact⟨0,by simp only[E8,seval]<;>rfl,fun j h=>by omega,by omega,by omega⟩
 case rest =>
  rintro e st (⟨rfl,k,hk,hh,hj,h⟩|⟨rfl,hj,h⟩)
  ·have hv:K0 (ol o) c=k:=Em hh hj _ hk
   simp only[Z8,seval];exact bW rfl (by simp only[E8,seval,h,hv]<;>rfl) (.v _)
  ·have hv:K0 (ol o) c=-1:=rH _ hj
   simp only[Z8,seval];exact bW rfl (by simp only[E8,seval,h,hv]<;>rfl) (.v _)
theorem YG (o:Option (List Table)) (hn:((ol o).length:Int)<1000000) (hf:Flat (ov aT o)) (c:fS) (st:St) (d:Option Nat):aL (aC Tryz.prog) 65 [ov aT o,.agg (bY c)] st d=some { dst:=d,val:=.v (.int .i64 (K0 (ol o) c))}:=bK (bH hf (.agg _ (dC c))) (c65 o hn c) (.v _)
noncomputable def nz {α:Type} (l:List α):Option (List α):=if l=[] then none else some l
theorem mU {α:Type} (l:List α):ol (nz l)=l:=by unfold nz;split<;>simp[ol, *]
noncomputable def yK (l:List Table) (x:Int):List Table:=l.filter fun t=>decide (x≤t.ck.aK)
noncomputable def Nn (e sz:Nat) {α:Type} (c:List α→List AV) (l:List α):AV:=if l=[] then .v (.slice none 0 0) else .uniq e sz l.length (c l)
theorem aOW (o:Option (List Table)) (hn:((ol o).length:Int)<1000000) (ht:∀t∈ol o,Flat t.jN) (x:Int):aC Tryz.prog 128 [ov aT o,.v (.int .u64 x)]=some (Nn 118 34 aT (yK (ol o) x)):=by
 rw[cL Tryz.func128 rfl aJY (by cases o<;>rfl)]
 have KM:∀l:List Table,(∀t∈l,t∈ol o)→∀y∈aT l,Flat y:=fun l h=>lY l fun t m=>ht t (h t m)
 simp only[Z8,seval];refine lV (fun m st=>∃k:Nat,(st.env 0=ov aT o∧st.env 1=.v (.int .u64 x)∧st.env 6=.v (.int .i64 k))∧(((((ol o).take k).filter (fun t=>decide (x≤t.ck.aK)))=[]∧st.env 5=.v (.slice none 0 0))∨((((ol o).take k).filter (fun t=>decide (x≤t.ck.aK)))≠[]∧∃g,st.env 5=.own 27 g∧g<st.aP 27∧st.heap 27 g=some (.row 118 34 (((ol o).take k).filter (fun t=>decide (x≤t.ck.aK))).length (aT (((ol o).take k).filter (fun t=>decide (x≤t.ck.aK)))))))∧k≤(ol o).length∧m=(ol o).length-k)
  (fun e st=>e=.exit 0∧(((((ol o).take (ol o).length).filter (fun t=>decide (x≤t.ck.aK)))=[]∧st.env 5=.v (.slice none 0 0))∨((((ol o).take (ol o).length).filter (fun t=>decide (x≤t.ck.aK)))≠[]∧∃g,st.env 5=.own 27 g∧g<st.aP 27∧st.heap 27 g=some (.row 118 34 (((ol o).take (ol o).length).filter (fun t=>decide (x≤t.ck.aK))).length (aT (((ol o).take (ol o).length).filter (fun t=>decide (x≤t.ck.aK)))))))∧st.env 0=ov aT o∧st.env 1=.v (.int .u64 x)) ((ol o).length) ?step ?start ?rest
 case step =>
  rintro m st ⟨k,hI,h5,hk,hm⟩
  have Gl:(((((ol o).take k).filter (fun t=>decide (x≤t.ck.aK))).length:Nat):Int)<1000000:=by have:=List.length_filter_le (fun t=>decide (x≤t.ck.aK)) ((ol o).take k);have h2:=List.length_take_le' k (ol o);omega
  by_cases bA:(k:Int)<(ol o).length
  ·have q0:(0:Int)≤k:=by omega
   have hw:IntKind.i64.wrap ((k:Int)+1)=((k+1:Nat):Int):=by rw[pR _ (by omega) (by omega)];omega
   have hs:=yJ iW (fun t=>decide (x≤t.ck.aK)) (ol o) k (by omega)
   have aFI:Flat (.agg (cI (gx iW (ol o) (k:Int)))):=(kK _).2 (ht _ (tY q0 bA))
   by_cases hh:x≤(gx iW (ol o) (k:Int)).ck.aK
   ·rw[if_pos (decide_eq_true hh)] at hs;rcases h5 with ⟨hy,h5⟩|⟨hy,g,h5⟩
    ·rw[hy] at hs;apply oN ((ol o).length-(k+1))
     ·simp only[Z8,seval,hI,h5,bA,hw,q0,aFI,hh];rfl
     ·exact⟨k+1,by simp only[E8,seval,hI],.inr ⟨by rw[hs];simp,_,by simp only[E8,seval]<;>rfl,(by simp only[E8,seval]<;>omega),(by rw[hs];simp only[E8,seval]<;>rfl)⟩,by omega,rfl⟩
    ·apply oN ((ol o).length-(k+1))
     ·simp only[Z8,seval,hI,h5,Gl,bA,hw,q0,aFI,hh];rfl
     ·exact⟨k+1,by simp only[E8,seval,hI],.inr ⟨by rw[hs];simp,_,by simp only[E8,seval]<;>rfl,(by simp only[E8,seval]<;>omega),(by rw[hs];simp only[E8,seval]<;>rfl)⟩,by omega,rfl⟩
   ·rw[if_neg (by simpa using hh),List.append_nil] at hs
    apply oN ((ol o).length-(k+1))
    ·simp only[Z8,seval,hI,bA,hw,q0,aFI,hh];rfl
    ·exact⟨k+1,by simp only[E8,seval,hI],by rw[hs];simpa only[E8,seval] using h5,by omega,rfl⟩
  ·have Eh:k=(ol o).length:=by omega
   rw[Eh] at h5;apply oT (.exit 0)
   ·simp only[Z8,seval,hI,bA];rfl
   ·exact⟨rfl,by simpa only[E8,seval] using h5,by simp only[E8,seval,hI]⟩
 case start=>exact⟨0,by simp only[E8,seval]<;>rfl,.inl ⟨rfl,by simp only[E8,seval]⟩,by omega,by omega⟩
 case rest =>
  rintro e st ⟨rfl,⟨hy,h5⟩|⟨hy,g,h5,hg,Ae⟩,hI⟩
  ·rw[List.take_length] at hy;rw[show Nn 118 34 aT (yK (ol o) x)=.v (.slice none 0 0) from if_pos hy];simp only[Z8,seval,h5];exact bW rfl (by simp only[E8,seval]<;>rfl) (.v _)
  ·rw[List.take_length] at hy Ae;rw[show Nn 118 34 aT (yK (ol o) x)=.uniq 118 34 (yK (ol o) x).length (aT (yK (ol o) x)) from if_neg hy];simp only[Z8,seval,h5,Ae];exact sP rfl (by simp only[E8,seval];rfl) (by simp only[E8,seval,Ae];rfl) (KM _ fun t m=>(List.mem_filter.1 m).1)
theorem FQ {T n sz:Nat} (ha:jM Tryz.prog T=some (n,sz)) (st:St) (x:AV) {k:IntKind} {i:Int} (h0:0≤i) (h1:i<n):bF Tryz.prog st T x (.v (.int k i))=vA x (i.toNat * sz):=by
 simp only[bF,ha];rw[if_pos ⟨h0,h1⟩]
theorem TF (st:St) (x:AV) {k:IntKind} {i:Int} (h0:0≤i) (h1:i<32):bF Tryz.prog st 27 x (.v (.int k i))=vA x (i.toNat * 1):=FQ aFJ st x h0 h1
theorem Hb (st:St) (x:AV) {k:IntKind} {i:Int} (h0:0≤i) (h1:i<4):bF Tryz.prog st 33 x (.v (.int k i))=vA x (i.toNat * 1):=FQ aJZ st x h0 h1
def rb (r:cK) (i:Int):Int:=r.toList.getD i.toNat 0
def wb (r:qR) (i:Int):Int:=r.toList.getD i.toNat 0
theorem DU (r:cK) {i:Int} (h0:0≤i) (h1:i<32):(aX r)[i.toNat]? = some (.v (.int .u8 (rb r i))):=by
 have h:i.toNat<r.toList.length:=by simp;omega
 unfold aX rb;rw[List.getElem?_map,List.getElem?_eq_getElem h,List.getD_eq_getElem?_getD,List.getElem?_eq_getElem h];rfl
theorem Qn (r:qR) {i:Int} (h0:0≤i) (h1:i<4):(gH r)[i.toNat]? = some (.v (.int .u64 (wb r i))):=by
 have h:i.toNat<r.toList.length:=by simp;omega
 unfold gH wb;rw[List.getElem?_map,List.getElem?_eq_getElem h,List.getD_eq_getElem?_getD,List.getElem?_eq_getElem h];rfl
theorem aJ0 (a b:cK):∃c:Int,aC Tryz.prog 176 [.agg (aX a),.agg (aX b)]=some (.v (.int .i64 c)):=by
 rw[cL Tryz.func176 rfl aJ1 rfl];suffices h:∃r,cN (yX Tryz.prog _ (St.init [.agg (aX a),.agg (aX b)])) (Af Tryz.prog 176 Tryz.f176)=some r∧∃c:Int,r=.v (.int .i64 c) by
  obtain⟨r,h,c,rfl⟩:=h;exact⟨c,h⟩
 simp only[Z8,seval];refine cM (fun m st=>∃k:Nat,(st.env 2=.ptr 2 0 0∧st.heap 2 0=some (.cells (aX a))∧st.env 3=.ptr 3 0 0∧st.heap 3 0=some (.cells (aX b))∧st.env 5=.v (.int .i64 k))∧k≤32∧m=32-k)
  (fun e st=>(e=.ret∧∃c:Int,st.env 4=.v (.int .i64 c))∨e=.exit 0) 32 ?step ?start ?rest
 case step =>
  rintro m st ⟨k,hI,hk,hm⟩
  by_cases bA:(k:Int)<32
  ·have q0:(0:Int)≤k:=by omega
   have hw:IntKind.i64.wrap ((k:Int)+1)=((k+1:Nat):Int):=by rw[pR _ (by omega) (by omega)];omega
   have ga:=DU a q0 bA
   have gb:=DU b q0 bA
   by_cases h1:rb a k<rb b k
   ·apply oT (.ret)
    ·simp only[Z8,seval,hI,bA,q0,TF,ga,gb,h1];rfl
    ·exact .inl ⟨rfl,-1,by simp only[E8,seval]⟩
   ·by_cases h2:rb b k<rb a k
    ·apply oT (.ret)
     ·simp only[Z8,seval,hI,bA,q0,TF,ga,gb,h1,h2];rfl
     ·exact .inl ⟨rfl,1,by simp only[E8,seval]⟩
    ·apply oN (32-(k+1))
     ·simp only[Z8,seval,hI,bA,q0,TF,ga,gb,h1,h2,hw];rfl
     ·exact⟨k+1,by simp only[E8,seval,hI],by omega,rfl⟩
  ·apply oT (.exit 0)
   ·simp only[Z8,seval,hI,bA];rfl
   ·exact .inr rfl
 case start=>exact⟨0,by simp only[E8,seval]<;>rfl,by omega,by omega⟩
 case rest =>
  rintro e st (⟨rfl,c,h⟩|rfl)
  ·simp only[Z8,seval];exact⟨_,bW rfl h (.v _),c,rfl⟩
  ·simp only[Z8,seval];exact⟨_,bW rfl (by simp only[E8,seval]<;>rfl) (.v _),0,rfl⟩
noncomputable def aJ2 (a b:cK):Int:=Classical.choose (aJ0 a b)
theorem aFK (a b:cK) (st:St) (d:Option Nat):aL (aC Tryz.prog) 176 [.agg (aX a),.agg (aX b)] st d=some { dst:=d,val:=.v (.int .i64 (aJ2 a b))}:=bK (bH (qK a) (qK b)) (Classical.choose_spec (aJ0 a b)) (.v _)
theorem aJ3 (a b:qR):∃c:Int,aC Tryz.prog 170 [.agg (gH a),.agg (gH b)]=some (.v (.int .i64 c)):=by
 rw[cL Tryz.func170 rfl aJ4 rfl];suffices h:∃r,cN (yX Tryz.prog _ (St.init [.agg (gH a),.agg (gH b)])) (Af Tryz.prog 170 Tryz.f170)=some r∧∃c:Int,r=.v (.int .i64 c) by
  obtain⟨r,h,c,rfl⟩:=h;exact⟨c,h⟩
 simp only[Z8,seval];refine cM (fun m st=>∃k:Nat,(st.env 2=.ptr 2 0 0∧st.heap 2 0=some (.cells (gH a))∧st.env 3=.ptr 3 0 0∧st.heap 3 0=some (.cells (gH b))∧st.env 5=.v (.int .i64 ((k:Int)-1)))∧k≤4∧m=k)
  (fun e st=>(e=.ret∧∃c:Int,st.env 4=.v (.int .i64 c))∨e=.exit 0) 4 ?step ?start ?rest
 case step =>
  rintro m st ⟨k,hI,hk,hm⟩
  by_cases bA:(0:Int)≤(k:Int)-1
  ·have q1:(k:Int)-1<4:=by omega
   have hw:IntKind.i64.wrap ((k:Int)-1-1)=((k-1:Nat):Int)-1:=by rw[pR _ (by omega) (by omega)];omega
   have ga:=Qn a bA q1
   have gb:=Qn b bA q1
   by_cases h1:wb a ((k:Int)-1)<wb b ((k:Int)-1)
   ·apply oT (.ret)
    ·simp only[Z8,seval,hI,bA,q1,Hb,ga,gb,h1];rfl
    ·exact .inl ⟨rfl,-1,by simp only[E8,seval]⟩
   ·by_cases h2:wb b ((k:Int)-1)<wb a ((k:Int)-1)
    ·apply oT (.ret)
     ·simp only[Z8,seval,hI,bA,q1,Hb,ga,gb,h1,h2];rfl
     ·exact .inl ⟨rfl,1,by simp only[E8,seval]⟩
    ·apply oN (k-1)
     ·simp only[Z8,seval,hI,bA,q1,Hb,ga,gb,h1,h2,hw];rfl
     ·exact⟨k-1,by simp only[E8,seval,hI],by omega,rfl⟩
  ·apply oT (.exit 0)
   ·simp only[Z8,seval,hI,bA];rfl
   ·exact .inr rfl
 case start=>exact⟨4,by simp only[E8,seval]<;>rfl,by omega,by omega⟩
 case rest =>
  rintro e st (⟨rfl,c,h⟩|rfl)
  ·simp only[Z8,seval];exact⟨_,bW rfl h (.v _),c,rfl⟩
  ·simp only[Z8,seval];exact⟨_,bW rfl (by simp only[E8,seval]<;>rfl) (.v _),0,rfl⟩
noncomputable def aBP (a b:qR):Int:=Classical.choose (aJ3 a b)
theorem aJ5 (a b:qR) (st:St) (d:Option Nat):aL (aC Tryz.prog) 170 [.agg (gH a),.agg (gH b)] st d=some { dst:=d,val:=.v (.int .i64 (aBP a b))}:=bK (bH (.agg _ (iO a)) (.agg _ (iO b))) (Classical.choose_spec (aJ3 a b)) (.v _)
theorem aOX (p b:Block):aC Tryz.prog 169 [.agg (aU p),.agg (aU b)]=some (.v (.bool (!decide (b.iQ=dL) && decide (p.iQ=dL)))):=by
 rw[cL Tryz.func169 rfl aJ6 rfl];by_cases h:b.iQ=dL
 all_goals
  simp only[h,decide_true,decide_false,Bool.not_true,Bool.not_false,Bool.true_and,Bool.false_and];simp only[Z8,seval,h,decide_true,decide_false];exact bW rfl (by simp only[E8,seval]<;>rfl) (.v _)
theorem aFL (p b:Block) (st:St) (d:Option Nat):aL (aC Tryz.prog) 169 [.agg (aU p),.agg (aU b)] st d=some { dst:=d,val:=.v (.bool (!decide (b.iQ=dL) && decide (p.iQ=dL)))}:=bK (bH (uT p) (uT b)) (aOX p b) (.v _)
def w8 (AZ:qR) (p b:Block):Prop:=(b.iQ=dL→p.iQ=dL)∧(b.iQ≠dL→p.iQ=dL→aBP b.Wo AZ<0∧0≤aBP b.diff AZ)
theorem aOY (AZ:qR) (p b:Block):aC Tryz.prog 114 [.agg (gH AZ),.agg (aU p),.agg (aU b)]=some (.v (.bool (decide (w8 AZ p b)))):=by
 rw[cL Tryz.func114 rfl aJ7 rfl];unfold w8;by_cases h:b.iQ=dL
 ·simp only[h,forall_const,ne_eq,not_true_eq_false,false_implies,and_true];simp only[Z8,seval,h,decide_true];exact bW rfl (by simp only[E8,seval]<;>rfl) (.v _)
 ·by_cases hp:p.iQ=dL
  ·simp only[h,hp,ne_eq,not_false_eq_true,forall_const,false_implies,true_and];by_cases h1:aBP b.Wo AZ<0
   ·simp only[h1,true_and];simp only[Z8,seval,h,hp,aFL,aJ5,h1,decide_true,decide_false,Bool.not_false,Bool.true_and];exact bW rfl (by simp only[E8,seval]<;>rfl) (.v _)
   ·simp only[h1,false_and,decide_false];simp only[Z8,seval,h,hp,aFL,aJ5,h1,decide_true,decide_false,Bool.not_false,Bool.true_and];exact bW rfl (by simp only[E8,seval]<;>rfl) (.v _)
  ·simp only[h,hp,ne_eq,not_false_eq_true,forall_const,false_implies,and_self,decide_true];simp only[Z8,seval,h,hp,aFL,decide_false,Bool.not_false,Bool.true_and];exact bW rfl (by simp only[E8,seval]<;>rfl) (.v _)
theorem Wp (AZ:qR) (p b:Block) (st:St) (d:Option Nat):aL (aC Tryz.prog) 114 [.agg (gH AZ),.agg (aU p),.agg (aU b)] st d=some { dst:=d,val:=.v (.bool (decide (w8 AZ p b)))}:=bK (nD (.agg _ (iO AZ)) (uT p) (uT b)) (aOY AZ p b) (.v _)
noncomputable def Np (b:Block):Int:=if b.iQ=dL then 1 else 0
theorem aOZ (b:Block):aC Tryz.prog 233 [.agg (aU b)]=some (.v (.int .i64 (Np b))):=by
 rw[cL Tryz.func233 rfl aJ8 rfl];unfold Np;by_cases h:b.iQ=dL
 ·simp only[h,if_true];simp only[Z8,seval,h,decide_true];exact bW rfl (by simp only[E8,seval]<;>rfl) (.v _)
 ·simp only[h,if_false];simp only[Z8,seval,h,decide_false];exact bW rfl (by simp only[E8,seval]<;>rfl) (.v _)
theorem aJ9 (b:Block) (st:St) (d:Option Nat):aL (aC Tryz.prog) 233 [.agg (aU b)] st d=some { dst:=d,val:=.v (.int .i64 (Np b))}:=bK (cV (uT b)) (aOZ b) (.v _)
theorem kx {g:Nat} {args:List AV} {r:AV} (h:aC Tryz.prog g args=some r) (hf:∀x∈args,Flat x) (hr:Flat r):∀(st:St) (d:Option Nat),aL (aC Tryz.prog) g args st d=some { dst:=d,val:=r }:=fun st d=>bK hf h hr
theorem bf {x y:Int} (h:¬x=y):(x == y)=false∧(x != y)=true:=by simp[h]
theorem bt {x y:Int} (h:x=y):(x == y)=true∧(x != y)=false:=by simp[h]
def Tu (l:List Int) (n:Int) (k:Nat):Prop:=gx (0:Int) l k<0∨n≤gx (0:Int) l k∨(0<k∧gx (0:Int) l k≤gx (0:Int) l ((k:Int)-1))
noncomputable def AQ (l:List Int) (n:Int):Int:=if l=[] then 2 else if wI (Tu l n) l.length<0 then 0 else if gx (0:Int) l (wI (Tu l n) l.length)<0∨n≤gx (0:Int) l (wI (Tu l n) l.length) then 3 else 8
theorem c40 (o:Option (List Int)) (hn:((ol o).length:Int)<1000000) (n:Int):aC Tryz.prog 40 [ov aJ o,.v (.int .i64 n)]=some (.v (.int .i64 (AQ (ol o) n))):=by
 rw[cL Tryz.func40 rfl aO0 (by cases o<;>rfl)]
 refine jG ?_
 by_cases h0:ol o=[]
 ·have hv:AQ (ol o) n=2:=if_pos h0
  have hl:(ol o).length=0:=by rw[h0];rfl
  simp only[Z8,seval,hl];exact⟨_,bW rfl (by simp only[E8,seval,hv]<;>rfl) (by first|exact .v _|simp only[dW,hv]),rfl⟩
 have hl:=bf (x:=((ol o).length:Int)) (y:=0) (by have:=List.length_pos_iff.2 h0;omega)
 simp only[Z8,seval,hl];refine cM (fun m st=>∃k:Nat,(st.env 0=ov aJ o∧st.env 1=.v (.int .i64 n)∧st.env 5=.v (.int .i64 k))∧(∀j:Nat,j<k→¬Tu (ol o) n j)∧k≤(ol o).length∧m=(ol o).length-k)
  (fun e st=>(e=.ret∧∃k:Nat,k<(ol o).length∧Tu (ol o) n k∧(∀j:Nat,j<k→¬Tu (ol o) n j)∧st.env 4=.v (.int .i64 (if gx (0:Int) (ol o) k<0∨n≤gx (0:Int) (ol o) k then 3 else 8)))∨(e=.exit 0∧∀j:Nat,j<(ol o).length→¬Tu (ol o) n j)) (ol o).length ?step ?start ?rest
 case step =>
  rintro m st ⟨k,hI,hj,hk,hm⟩
  by_cases bA:(k:Int)<(ol o).length
  ·have q0:(0:Int)≤k:=by omega
   have hw:IntKind.i64.wrap ((k:Int)+1)=((k+1:Nat):Int):=by rw[pR _ (by omega) (by omega)];omega
   by_cases h1:gx (0:Int) (ol o) k<0
   ·apply oT (.ret)
    ·simp only[Z8,seval,hI,bA,q0,h1];rfl
    ·exact .inl ⟨rfl,k,by omega,.inl h1,hj,by simp only[E8,seval,h1,true_or]⟩
   by_cases h2:n≤gx (0:Int) (ol o) k
   ·apply oT (.ret)
    ·simp only[Z8,seval,hI,bA,q0,h1,h2];rfl
    ·exact .inl ⟨rfl,k,by omega,.inr (.inl h2),hj,by simp only[E8,seval,h2,or_true]⟩
   by_cases h3:(0:Int)<k
   ·have q1:(0:Int)≤(k:Int)-1:=by omega
    have q2:(k:Int)-1<(ol o).length:=by omega
    have M6:IntKind.i64.wrap ((k:Int)-1)=(k:Int)-1:=by rw[pR _ (by omega) (by omega)]
    by_cases h4:gx (0:Int) (ol o) k≤gx (0:Int) (ol o) ((k:Int)-1)
    ·apply oT (.ret)
     ·simp only[Z8,seval,hI,bA,q0,q1,q2,M6,h1,h2,h3,h4];rfl
     ·exact .inl ⟨rfl,k,by omega,.inr (.inr ⟨by omega,h4⟩),hj,by simp only[E8,seval,h1,h2,or_self]⟩
    ·apply oN ((ol o).length-(k+1))
     ·simp only[Z8,seval,hI,bA,q0,q1,q2,M6,h1,h2,h3,h4,hw];rfl
     ·exact⟨k+1,by simp only[E8,seval,hI],fun j h=>(Nat.lt_succ_iff_lt_or_eq.1 h).elim (hj j) fun e=>by subst e;unfold Tu;simp only[h1,h2,h4,and_false,or_self,not_false_eq_true],by omega,rfl⟩
   ·have h5:¬(0<k):=by omega
    apply oN ((ol o).length-(k+1))
    ·simp only[Z8,seval,hI,bA,q0,h1,h2,h3,hw];rfl
    ·exact⟨k+1,by simp only[E8,seval,hI],fun j h=>(Nat.lt_succ_iff_lt_or_eq.1 h).elim (hj j) fun e=>by subst e;unfold Tu;simp only[h1,h2,h5,false_and,or_self,not_false_eq_true],by omega,rfl⟩
  ·apply oT (.exit 0)
   ·simp only[Z8,seval,hI,bA];rfl
   ·exact .inr ⟨rfl,fun j h=>hj j (by omega)⟩
 case start=>exact⟨0,by simp only[E8,seval]<;>rfl,fun j h=>by omega,by omega,by omega⟩
 case rest =>
  rintro e st (⟨rfl,k,hk,hh,hj,h⟩|⟨rfl,hj⟩)
  ·have hv:AQ (ol o) n=if gx (0:Int) (ol o) k<0∨n≤gx (0:Int) (ol o) k then 3 else 8:=by
    unfold AQ;rw[if_neg h0,Em hh hj _ hk,if_neg (by omega)]
   rw[← hv] at h;simp only[Z8,seval];exact⟨_,bW rfl (by simp only[E8,seval,h]<;>rfl) (by first|exact .v _|simp only[dW,h]),rfl⟩
  ·have hv:AQ (ol o) n=0:=by
    unfold AQ;rw[if_neg h0,rH _ hj,if_pos (by omega)]
   simp only[Z8,seval];exact⟨_,bW rfl (by simp only[E8,seval,hv]<;>rfl) (by first|exact .v _|simp only[dW,hv]),rfl⟩
theorem aBQ (a b:Int):(AX a b).2≠21:=by unfold AX;split<;>simp
theorem TG (l:List Int) (n:Int):AQ l n≠21:=by unfold AQ;split;simp;split;simp;split<;>simp
theorem aKa (o:Option (List Int)) (hn:((ol o).length:Int)<1000000):∃r,aC Tryz.prog 175 [ov bD o]=some r∧∃a e:Int,r=.eN [.v (.int .u64 a),.v (.int .i64 e)]∧e≠21:=by
 rw[cL Tryz.func175 rfl aEs (by cases o<;>rfl)]
 simp only[Z8,seval];refine cM (fun m st=>∃(k:Nat) (a:Int),(st.env 0=ov bD o∧st.env 4=.v (.int .u64 a)∧st.env 5=.v (.int .i64 k))∧k≤(ol o).length∧m=(ol o).length-k)
  (fun e st=>(e=.ret∧∃a e:Int,st.env 2=.v (.int .u64 a)∧st.env 3=.v (.int .i64 e)∧e≠21)∨(e=.exit 0∧∃a:Int,st.env 4=.v (.int .u64 a))) (ol o).length ?step ?start ?rest
 case step =>
  rintro m st ⟨k,a,hI,hk,hm⟩
  by_cases bA:(k:Int)<(ol o).length
  ·have q0:(0:Int)≤k:=by omega
   have hw:IntKind.i64.wrap ((k:Int)+1)=((k+1:Nat):Int):=by rw[pR _ (by omega) (by omega)];omega
   by_cases h1:(AX a (gx (0:Int) (ol o) k)).2=0
   ·apply oN ((ol o).length-(k+1))
    ·simp only[Z8,seval,hI,bA,q0,aFx,eB,h1,hw];rfl
    ·exact⟨k+1,_,by simp only[E8,seval,hI]<;>rfl,by omega,rfl⟩
   ·apply oT (.ret)
    ·simp only[Z8,seval,hI,bA,q0,aFx,eB,bf h1];rfl
    ·exact .inl ⟨rfl,_,_,by simp only[E8,seval]<;>rfl,by simp only[E8,seval]<;>rfl,aBQ _ _⟩
  ·apply oT (.exit 0)
   ·simp only[Z8,seval,hI,bA];rfl
   ·exact .inr ⟨rfl,a,by simp only[E8,seval,hI]⟩
 case start=>exact⟨0,0,by simp only[E8,seval]<;>exact⟨rfl,rfl⟩,by omega,by omega⟩
 case rest =>
  rintro e st (⟨rfl,a,e,h,h',gW⟩|⟨rfl,a,h⟩)
  ·simp only[Z8,seval];exact⟨_,dO rfl rfl rfl (by simp only[E8,seval,h,h']<;>rfl) (by simp only[E8,seval,h,h']<;>rfl),_,_,rfl,gW⟩
  ·simp only[Z8,seval,h];exact⟨_,dO rfl rfl rfl (by simp only[E8,seval,h]<;>rfl) (by simp only[E8,seval,h]<;>rfl),_,_,rfl,by decide⟩
theorem aEt (t:Table) (b:Option (List Int)) (hb:t.jN=ov bD b) (hl:((ol b).length:Int)<1000000) (n:Int):∃r,aC Tryz.prog 130 [.agg (cI t),.v (.int .i64 n)]=some r∧∃e:Int,r=.v (.int .i64 e)∧e≠21∧(e=0→((ol b).length:Int)=n):=by
 obtain⟨r,hr,a,e,rfl,he⟩:=aKa b hl
 have y7:=kx hr (cV (dR b)) (.eN _ (bH (.v _) (.v _)))
 rw[cL Tryz.func130 rfl aEu rfl];by_cases h1:((ol b).length:Int)=n
 ·by_cases h2:e=0
  ·by_cases h3:4611686018427387904<a
   all_goals
    simp only[Z8,seval,hb,bt h1,bt h2,h3,y7,eB];exact⟨_,bW rfl (by simp only[E8,seval]<;>rfl) (by first|exact .v _|simp only[dW]),_,rfl,by decide,fun _=>h1⟩
  ·simp only[Z8,seval,hb,bt h1,bf h2,y7,eB];exact⟨_,bW rfl (by simp only[E8,seval]<;>rfl) (by first|exact .v _|simp only[dW]),_,rfl,by decide,fun _=>h1⟩
 ·simp only[Z8,seval,hb,bf h1];exact⟨_,bW rfl (by simp only[E8,seval]<;>rfl) (by first|exact .v _|simp only[dW]),_,rfl,by decide,fun h=>by cases h⟩
theorem aO1 (t:Table) (ht:sC t) (n:Int):∃r,aC Tryz.prog 130 [.agg (cI t),.v (.int .i64 n)]=some r∧∃e:Int,r=.v (.int .i64 e)∧e≠21:=by
 obtain⟨b,hb,hl⟩:=ht
 obtain⟨r,hr,e,h1,h2,_⟩:=aEt t b hb hl n
 exact⟨r,hr,e,h1,h2⟩
theorem aFM (a b:fS):∃r,aC Tryz.prog 131 [.agg (bY a),.agg (bY b)]=some r∧∃e:Int,r=.v (.int .i64 e):=by
 rw[cL Tryz.func131 rfl aKb rfl];by_cases h1:a.aK=b.aK
 ·simp only[Z8,seval,bt h1,aFK];exact⟨_,bW rfl (by simp only[E8,seval]<;>rfl) (by first|exact .v _|simp only[dW]),_,rfl⟩
 ·by_cases h2:a.aK<b.aK
  all_goals
   simp only[Z8,seval,bf h1,h2];exact⟨_,bW rfl (by simp only[E8,seval]<;>rfl) (by first|exact .v _|simp only[dW]),_,rfl⟩
noncomputable def aKc (a b:fS):Int:=Classical.choose (Classical.choose_spec (aFM a b)).2
theorem aKd (a b:fS) (st:St) (d:Option Nat):aL (aC Tryz.prog) 131 [.agg (bY a),.agg (bY b)] st d=some { dst:=d,val:=.v (.int .i64 (aKc a b))}:=by
 have h:=(Classical.choose_spec (aFM a b)).1
 rw[Classical.choose_spec (Classical.choose_spec (aFM a b)).2] at h;exact bK (bH (.agg _ (dC a)) (.agg _ (dC b))) h (.v _)
def KnB (v:SV) (r:cK):Prop:=(∃j:Nat,j<(ol v.O).length∧(gx fC (ol v.O) j).root=r)∨0≤aN v.ns r
theorem c54 {s:aO} {v:SV} (hs:SD s v) (r:cK):aC Tryz.prog 54 [.agg (aB s),.agg (aX r)]=some (.v (.bool (decide (KnB v r)))):=by
 have hn:=hs.nO
 rw[cL Tryz.func54 rfl aO2 rfl];refine jG ?_
 simp only[Z8,seval,hs.bX];refine cM (fun m st=>∃k:Nat,(st.env 2=.ptr 2 0 0∧st.heap 2 0=some (.cells (aB s))∧st.env 3=.ptr 3 0 0∧st.heap 3 0=some (.cells (aX r))∧st.env 5=.v (.int .i64 k))∧(∀j:Nat,j<k→¬((gx fC (ol v.O) (j:Int)).root=r))∧k≤(ol v.O).length∧m=(ol v.O).length-k)
  (fun e st=>(e=.ret∧∃k:Nat,k<(ol v.O).length∧((gx fC (ol v.O) (k:Int)).root=r)∧(∀j:Nat,j<k→¬((gx fC (ol v.O) (j:Int)).root=r))∧st.env 4=.v (.bool true))∨(e=.exit 0∧(∀j:Nat,j<(ol v.O).length→¬((gx fC (ol v.O) (j:Int)).root=r))∧st.env 2=.ptr 2 0 0∧st.heap 2 0=some (.cells (aB s))∧st.env 3=.ptr 3 0 0∧st.heap 3 0=some (.cells (aX r)))) ((ol v.O).length) ?step ?start ?rest
 case step =>
  rintro m st ⟨k,hI,hj,hk,hm⟩
  by_cases bA:(k:Int)<(ol v.O).length
  ·have q0:(0:Int)≤k:=by omega
   have hw:IntKind.i64.wrap ((k:Int)+1)=((k+1:Nat):Int):=by rw[pR _ (by omega) (by omega)];omega
   by_cases hh:(gx fC (ol v.O) (k:Int)).root=r
   ·apply oT (.ret)
    ·simp only[Z8,seval,hI,bA,q0,hs.bX,hh];rfl
    ·exact .inl ⟨rfl,k,by omega,hh,hj,by simp only[E8,seval,hs.bX]⟩
   ·apply oN ((ol v.O).length-(k+1))
    ·simp only[Z8,seval,hI,bA,q0,hs.bX,hh,hw];rfl
    ·exact⟨k+1,by simp only[E8,seval,hI],fun j h=>(Nat.lt_succ_iff_lt_or_eq.1 h).elim (hj j) fun e=>by subst e;exact hh,by omega,rfl⟩
  ·apply oT (.exit 0)
   ·simp only[Z8,seval,hI,bA,hs.bX];rfl
   ·exact .inr ⟨rfl,fun j h=>hj j (by omega),by simp only[E8,seval,hI]⟩
 case start=>exact⟨0,by simp only[E8,seval]<;>rfl,fun j h=>by omega,by omega,by omega⟩
 case rest =>
  rintro e st (⟨rfl,k,hk,hh,hj,h⟩|⟨rfl,hj,hI⟩)
  ·have hv:decide (KnB v r)=true:=decide_eq_true (.inl ⟨k,hk,hh⟩)
   simp only[Z8,seval];exact⟨_,bW rfl (by simp only[E8,seval,h]<;>rfl) (by first|exact .v _|simp only[dW,h]),by rw[hv]⟩
  ·have hv:decide (KnB v r)=decide (0≤aN v.ns r):=by
    refine decide_eq_decide.2 ⟨fun h=>h.elim (fun ⟨j,hj1,hj2⟩=>absurd hj2 (hj j hj1)) id,.inr⟩
   simp only[Z8,seval,hI,hs.tree,mT _ _ hs.nn];exact⟨_,bW rfl (by simp only[E8,seval]<;>rfl) (by first|exact .v _|simp only[dW]),by rw[hv]⟩
theorem N2 {s:aO} {v:SV} (hs:SD s v) (r:cK) (st:St) (d:Option Nat):aL (aC Tryz.prog) 54 [.agg (aB s),.agg (aX r)] st d=some { dst:=d,val:=.v (.bool (decide (KnB v r)))}:=bK (bH hs.flat (qK r)) (c54 hs r) (.v _)
def FR (s:aO) (a:rX):Prop:=a.target.aK≠Dv s a.slot∨(a.target.aK≠Dv s s.now∧(Dv s s.now=0∨a.target.aK≠IntKind.u64.wrap (Dv s s.now-1)))
noncomputable def Gm (s:aO) (v:SV) (a:rX) (V:List Int):Bool × Int :=
 if AQ V (ol v.B).length≠0 then (false,AQ V (ol v.B).length) else
 if FR s a then (false,18) else
 if aN v.ns a.root<0 then (false,10) else
 if aN v.ns a.target.root<0 then (false,10) else
 if a.slot<(nd v.ns (aN v.ns a.root)).block.slot then (false,14) else
 if FN v.ns (aN v.ns a.root) (Dw s a.target.aK).1≠aN v.ns a.target.root then (false,19) else (decide (s.now≤a.slot),0)
theorem c39 {s:aO} {v:SV} (hs:SD s v) (hu:iD v.ns) (hp:s.cFg.qS≠0) (a:rX) (o:Option (List Int)) (hV:a.eY=ov aJ o) (hl:((ol o).length:Int)<1000000) :
 aC Tryz.prog 39 [.agg (aB s),.agg (iB a)]=some (.eN [.v (.bool (Gm s v a (ol o)).1),.v (.int .i64 (Gm s v a (ol o)).2)]):=by
 have hf:=hs.flat
 have KN:=fun n=>kx (c40 o hl n) (bH (bS o) (.v _)) (.v _)
 rw[cL Tryz.func39 rfl aO3 rfl];refine jG ?_
 have r1:=fY v.ns a.root
 by_cases g1:AQ (ol o) (ol v.B).length=0
 case neg =>
  have hv:Gm s v a (ol o)=(false,AQ (ol o) (ol v.B).length):=by simp only[Gm,ne_eq,g1,not_false_eq_true,if_true]
  simp only[Z8,seval,hV,Wm hs,KN,bf g1];exact⟨_,dO rfl rfl rfl (by simp only[E8,seval]<;>rfl) (by simp only[E8,seval]<;>rfl),by rw[hv]⟩
 have TH:FR s a→Gm s v a (ol o)=(false,18):=fun g=>by simp only[Gm,ne_eq,g1,not_true_eq_false,if_false,g,if_true]
 by_cases g2:a.target.aK=Dv s a.slot
 case neg =>
  have hv:=TH (.inl g2)
  simp only[Z8,seval,hV,Wm hs,KN,bt g1,Mp s hp hf,bf g2];exact⟨_,dO rfl rfl rfl (by simp only[E8,seval]<;>rfl) (by simp only[E8,seval]<;>rfl),by rw[hv]⟩
 by_cases g3:a.target.aK=Dv s s.now
 case neg =>
  by_cases g4:Dv s s.now=0
  ·have hv:=TH (.inr ⟨g3,.inl g4⟩)
   simp only[Z8,seval,hV,Wm hs,KN,bt g1,Mp s hp hf,bt g2,bf g3,bt g4];exact⟨_,dO rfl rfl rfl (by simp only[E8,seval]<;>rfl) (by simp only[E8,seval]<;>rfl),by rw[hv]⟩
  by_cases g5:a.target.aK=IntKind.u64.wrap (Dv s s.now-1)
  case neg =>
   have hv:=TH (.inr ⟨g3,.inr g5⟩)
   simp only[Z8,seval,hV,Wm hs,KN,bt g1,Mp s hp hf,bt g2,bf g3,bf g4,bf g5];exact⟨_,dO rfl rfl rfl (by simp only[E8,seval]<;>rfl) (by simp only[E8,seval]<;>rfl),by rw[hv]⟩
  have gb:¬FR s a:=fun h=>h.elim (fun h=>h g2) fun h=>h.2.elim g4 fun h=>h g5
  by_cases g6:aN v.ns a.root<0
  ·have hv:Gm s v a (ol o)=(false,10):=by simp only[Gm,ne_eq,g1,not_true_eq_false,if_false,gb,g6,if_true]
   simp only[Z8,seval,hV,Wm hs,KN,bt g1,Mp s hp hf,bt g2,bf g3,bf g4,bt g5,hs.tree,mT _ _ hs.nn,g6];exact⟨_,dO rfl rfl rfl (by simp only[E8,seval]<;>rfl) (by simp only[E8,seval]<;>rfl),by rw[hv]⟩
  by_cases g7:aN v.ns a.target.root<0
  ·have hv:Gm s v a (ol o)=(false,10):=by simp only[Gm,ne_eq,g1,not_true_eq_false,if_false,gb,g6,g7,if_true]
   simp only[Z8,seval,hV,Wm hs,KN,bt g1,Mp s hp hf,bt g2,bf g3,bf g4,bt g5,hs.tree,mT _ _ hs.nn,g6,g7];exact⟨_,dO rfl rfl rfl (by simp only[E8,seval]<;>rfl) (by simp only[E8,seval]<;>rfl),by rw[hv]⟩
  have q0:0≤aN v.ns a.root:=by omega
  by_cases g8:a.slot<(nd v.ns (aN v.ns a.root)).block.slot
  ·have hv:Gm s v a (ol o)=(false,14):=by simp only[Gm,ne_eq,g1,not_true_eq_false,if_false,gb,g6,g7,g8,if_true]
   simp only[Z8,seval,hV,Wm hs,KN,bt g1,Mp s hp hf,bt g2,bf g3,bf g4,bt g5,hs.tree,mT _ _ hs.nn,g6,g7,q0,r1,g8];exact⟨_,dO rfl rfl rfl (by simp only[E8,seval]<;>rfl) (by simp only[E8,seval]<;>rfl),by rw[hv]⟩
  by_cases g9:FN v.ns (aN v.ns a.root) (Dw s a.target.aK).1=aN v.ns a.target.root
  ·have hv:Gm s v a (ol o)=(decide (s.now≤a.slot),0):=by simp only[Gm,ne_eq,g1,not_true_eq_false,if_false,gb,g6,g7,g8,g9]
   simp only[Z8,seval,hV,Wm hs,KN,bt g1,Mp s hp hf,bt g2,bf g3,bf g4,bt g5,hs.tree,mT _ _ hs.nn,g6,g7,q0,r1,g8,Uy s hf,eB,KZ _ hu hs.nn,bt g9];exact⟨_,dO rfl rfl rfl (by simp only[E8,seval]<;>rfl) (by simp only[E8,seval]<;>rfl),by rw[hv]⟩
  ·have hv:Gm s v a (ol o)=(false,19):=by simp only[Gm,ne_eq,g1,not_true_eq_false,if_false,gb,g6,g7,g8,g9,not_false_eq_true,if_true]
   simp only[Z8,seval,hV,Wm hs,KN,bt g1,Mp s hp hf,bt g2,bf g3,bf g4,bt g5,hs.tree,mT _ _ hs.nn,g6,g7,q0,r1,g8,Uy s hf,eB,KZ _ hu hs.nn,bf g9];exact⟨_,dO rfl rfl rfl (by simp only[E8,seval]<;>rfl) (by simp only[E8,seval]<;>rfl),by rw[hv]⟩
 have gb:¬FR s a:=fun h=>h.elim (fun h=>h g2) fun h=>h.1 g3
 by_cases g6:aN v.ns a.root<0
 ·have hv:Gm s v a (ol o)=(false,10):=by simp only[Gm,ne_eq,g1,not_true_eq_false,if_false,gb,g6,if_true]
  simp only[Z8,seval,hV,Wm hs,KN,bt g1,Mp s hp hf,bt g2,bt g3,hs.tree,mT _ _ hs.nn,g6];exact⟨_,dO rfl rfl rfl (by simp only[E8,seval]<;>rfl) (by simp only[E8,seval]<;>rfl),by rw[hv]⟩
 by_cases g7:aN v.ns a.target.root<0
 ·have hv:Gm s v a (ol o)=(false,10):=by simp only[Gm,ne_eq,g1,not_true_eq_false,if_false,gb,g6,g7,if_true]
  simp only[Z8,seval,hV,Wm hs,KN,bt g1,Mp s hp hf,bt g2,bt g3,hs.tree,mT _ _ hs.nn,g6,g7];exact⟨_,dO rfl rfl rfl (by simp only[E8,seval]<;>rfl) (by simp only[E8,seval]<;>rfl),by rw[hv]⟩
 have q0:0≤aN v.ns a.root:=by omega
 by_cases g8:a.slot<(nd v.ns (aN v.ns a.root)).block.slot
 ·have hv:Gm s v a (ol o)=(false,14):=by simp only[Gm,ne_eq,g1,not_true_eq_false,if_false,gb,g6,g7,g8,if_true]
  simp only[Z8,seval,hV,Wm hs,KN,bt g1,Mp s hp hf,bt g2,bt g3,hs.tree,mT _ _ hs.nn,g6,g7,q0,r1,g8];exact⟨_,dO rfl rfl rfl (by simp only[E8,seval]<;>rfl) (by simp only[E8,seval]<;>rfl),by rw[hv]⟩
 by_cases g9:FN v.ns (aN v.ns a.root) (Dw s a.target.aK).1=aN v.ns a.target.root
 ·have hv:Gm s v a (ol o)=(decide (s.now≤a.slot),0):=by simp only[Gm,ne_eq,g1,not_true_eq_false,if_false,gb,g6,g7,g8,g9]
  simp only[Z8,seval,hV,Wm hs,KN,bt g1,Mp s hp hf,bt g2,bt g3,hs.tree,mT _ _ hs.nn,g6,g7,q0,r1,g8,Uy s hf,eB,KZ _ hu hs.nn,bt g9];exact⟨_,dO rfl rfl rfl (by simp only[E8,seval]<;>rfl) (by simp only[E8,seval]<;>rfl),by rw[hv]⟩
 ·have hv:Gm s v a (ol o)=(false,19):=by simp only[Gm,ne_eq,g1,not_true_eq_false,if_false,gb,g6,g7,g8,g9,not_false_eq_true,if_true]
  simp only[Z8,seval,hV,Wm hs,KN,bt g1,Mp s hp hf,bt g2,bt g3,hs.tree,mT _ _ hs.nn,g6,g7,q0,r1,g8,Uy s hf,eB,KZ _ hu hs.nn,bf g9];exact⟨_,dO rfl rfl rfl (by simp only[E8,seval]<;>rfl) (by simp only[E8,seval]<;>rfl),by rw[hv]⟩
theorem TJ (ns:List Node) (s:Int) (l:List Int):Ed ns s l=-1∨Ed ns s l∈l:=by
 suffices h:∀(l:List Int) (a:Int),l.foldl (fun r x=>if (nd ns x).block.slot≤s then x else r) a=a∨l.foldl (fun r x=>if (nd ns x).block.slot≤s then x else r) a∈l from h l (-1)
 intro l;induction l with
 | nil=>exact fun a=>.inl rfl
 | cons x l ih =>
   intro a;rw[List.foldl_cons];split
   ·rcases ih x with h|h
    ·exact .inr (by rw[h];simp)
    ·exact .inr (by simp[h])
   ·rcases ih a with h|h
    ·exact .inl h
    ·exact .inr (by simp[h])
theorem DV {ns:List Node} (hu:iD ns) (i s:Int):-1≤FN ns i s∧FN ns i s<ns.length∧FN ns i s≤max i (-1):=by
 by_cases hi:0≤i∧i<ns.length
 ·rcases TJ ns s (path ns i) with h|h
  ·rw[show FN ns i s=-1 from h];omega
  ·have:=Vw hu i.toNat i rfl hi.1 hi.2 _ h
   rw[show FN ns i s=Ed ns s (path ns i) from rfl];omega
 ·rw[KY s hi];omega
noncomputable def elC {α:Type} (x:AV) (k:fS→Option α) (fb:Option α):Option α:=if h:∃c,x=.agg (bY c) then k (Classical.choose h) else fb
theorem aKe {α:Type} (c:fS) (k:fS→Option α) (fb:Option α):elC (.agg (bY c)) k fb=k c:=by
 unfold elC;have h:∃c',AV.agg (bY c)=.agg (bY c'):=⟨c,rfl⟩
 rw[dif_pos h];have:=Classical.choose_spec h
 injection this with h2
 rw[← (mY _ _).1 h2]
@[congr] theorem aIJ {α:Type} {x y:AV} {k:fS→Option α} {fb:Option α} (h:x=y):elC x k fb=elC y k fb:=by rw[h]
theorem aFN {call:Nat→List AV→Option AV} {ops:Array Oper} {st:St} {T:Nat} {pos:String} {eP:Array Edge} (d:Nat) (x y z w:Operand) :
 cF Tryz.prog call ops ⟨some d,.buildSlice 109 4 #[(0,x),(1,y),(2,z),(3,w)],T,pos,eP,none⟩ st =
  elC (st.ev x) (fun a=>elC (st.ev y) (fun b=>elC (st.ev z) (fun c=>elC (st.ev w) (fun e=>some ((st.new d (.row 41 33 [a,b,c,e].length (zF [a,b,c,e]))).put (some d) (.own d (st.aP d))))
   (cF Tryz.prog call ops ⟨some d,.buildSlice 109 4 #[(0,x),(1,y),(2,z),(3,w)],T,pos,eP,none⟩ st)) (cF Tryz.prog call ops ⟨some d,.buildSlice 109 4 #[(0,x),(1,y),(2,z),(3,w)],T,pos,eP,none⟩ st))
   (cF Tryz.prog call ops ⟨some d,.buildSlice 109 4 #[(0,x),(1,y),(2,z),(3,w)],T,pos,eP,none⟩ st)) (cF Tryz.prog call ops ⟨some d,.buildSlice 109 4 #[(0,x),(1,y),(2,z),(3,w)],T,pos,eP,none⟩ st):=by
 unfold elC;split
 ·rename_i h1;have h1c:=h1
  obtain⟨a,DD⟩:=h1c
  have e1:Classical.choose h1=a:=by have:=(Classical.choose_spec h1).symm.trans DD;injection this with t;exact (mY _ _).1 t
  rw[e1];split
  ·rename_i h2;have h2c:=h2
   obtain⟨b,h2'⟩:=h2c
   have e2:Classical.choose h2=b:=by have:=(Classical.choose_spec h2).symm.trans h2';injection this with t;exact (mY _ _).1 t
   rw[e2];split
   ·rename_i h3;have h3c:=h3
    obtain⟨c,h3'⟩:=h3c
    have e3:Classical.choose h3=c:=by have:=(Classical.choose_spec h3).symm.trans h3';injection this with t;exact (mY _ _).1 t
    rw[e3];split
    ·rename_i h4;have h4c:=h4
     obtain⟨e,K1⟩:=h4c
     have e4:Classical.choose h4=e:=by have:=(Classical.choose_spec h4).symm.trans K1;injection this with t;exact (mY _ _).1 t
     rw[e4,lB,N3];have hz:((List.range 4).flatMap fun _=>Cr.map AV.v)=zF [iA,iA,iA,iA]:=by rw[Ax];rfl
     have u0:=Nq [iA,iA,iA,iA] 0 a (by simp)
     have u1:=Nq [a,iA,iA,iA] 1 b (by simp)
     have u2:=Nq [a,b,iA,iA] 2 c (by simp)
     have u3:=Nq [a,b,c,iA] 3 e (by simp)
     simp only[Int.reduceToNat,Nat.reduceMul,Nat.reduceAdd,List.set_cons_zero,List.set_cons_succ,List.set] at u0 u1 u2 u3;simp only[cZ,aKf,List.toList_toArray,List.map_cons,List.map_nil,List.all_cons,List.all_nil,DD,h2',h3',K1,AV.jD,Bool.and_self,DW,LX,AV.cells,bT,Wq,hz,List.length_cons,List.length_nil,Nat.reduceMul,Nat.reduceAdd,Nat.reducePow,Nat.reduceLeDiff,Nat.reduceLT,true_or,true_and,and_true,and_self,if_true,↓reduceIte,u0,u1,u2,u3,Nat.zero_le,Nat.le_refl]
    ·rfl
   ·rfl
  ·rfl
 ·rfl
def y8 (s:aO) (v:SV) (b:Block) (c:fS):Prop:=c.aK≤s.bM.fin.aK∨(if (Dw s c.aK).1<b.slot then 0≤FN v.ns (aN v.ns b.parent) (Dw s c.aK).1∧(nd v.ns (FN v.ns (aN v.ns b.parent) (Dw s c.aK).1)).block.root=c.root else b.root=c.root)
def Jl (b:Block):List fS:=[b.hU,b.fin,b.dS.pj,b.dS.pf]
def FU (s:aO) (v:SV) (b:Block):Prop:=0≤aN v.ns b.parent∧N1 s b∧∀j:Nat,j<4→y8 s v b (gx iA (Jl b) j)
theorem c69 {s:aO} {v:SV} (hs:SD s v) (hu:iD v.ns) (hp:s.cFg.qS≠0) (b:Block):aC Tryz.prog 69 [.agg (aB s),.agg (aU b)]=some (.v (.bool (decide (FU s v b)))):=by
 have hf:=hs.flat
 rw[cL Tryz.func69 rfl aO4 rfl];refine jG ?_
 have r1:=fY v.ns b.parent
 by_cases g1:aN v.ns b.parent<0
 ·have hv:decide (FU s v b)=false:=decide_eq_false (fun h=>by have:=h.1;omega)
  simp only[Z8,seval,hs.tree,mT _ _ hs.nn,g1];exact⟨_,bW rfl (by simp only[E8,seval]<;>rfl) (by first|exact .v _|simp only[dW]),by rw[hv]⟩
 by_cases g2:N1 s b
 case neg =>
  have hv:decide (FU s v b)=false:=decide_eq_false (fun h=>g2 h.2.1)
  simp only[Z8,seval,hs.tree,mT _ _ hs.nn,g1,aJV s hp hf,g2];exact⟨_,bW rfl (by simp only[E8,seval]<;>rfl) (by first|exact .v _|simp only[dW]),by rw[hv]⟩
 simp only[Z8,seval,hs.tree,mT _ _ hs.nn,g1,aJV s hp hf,g2,aFN,aKe];have h4:(Jl b).length=4:=rfl
 refine cM (fun m st=>∃k:Nat,(st.env 2=.ptr 2 0 0∧st.heap 2 0=some (.cells (aB s))∧st.env 3=.ptr 3 0 0∧st.heap 3 0=some (.cells (aU b))∧st.env 5=.v (.int .i64 (aN v.ns b.parent))∧st.env 6=.own 33 0∧st.heap 33 0=some (.row 41 33 (Jl b).length (zF (Jl b)))∧st.env 7=.v (.int .i64 k))∧(∀j:Nat,j<k→y8 s v b (gx iA (Jl b) j))∧k≤4∧m=4-k)
  (fun e st=>(e=.ret∧st.env 4=.v (.bool false)∧∃j:Nat,j<4∧¬y8 s v b (gx iA (Jl b) j))∨(e=.exit 0∧∀j:Nat,j<4→y8 s v b (gx iA (Jl b) j))) 4 ?step ?start ?rest
 case step =>
  rintro m st ⟨k,hI,hj,hk,hm⟩
  by_cases Qh:k<4
  ·have bA:(k:Int)<(Jl b).length:=by rw[h4];omega
   have q0:(0:Int)≤k:=by omega
   have hw:IntKind.i64.wrap ((k:Int)+1)=((k+1:Nat):Int):=by rw[pR _ (by omega) (by omega)];omega
   obtain⟨c,hc⟩:∃c,gx iA (Jl b) k=c:=⟨_,rfl⟩
   have ra:=DV hu (aN v.ns b.parent) (Dw s c.aK).1
   have ld:∀T kk off,tC Tryz.prog T=some kk→0<kk→off+kk≤33→tZ Tryz.prog T (some (.row 41 33 (Jl b).length (zF (Jl b)))) ((k:Int).toNat * 33+off)=fD Tryz.prog T (bY c) off:=fun T kk off h1 h2 h3=>by rw[FV q0 bA h1 h2 h3,hc]
   have ld0:∀T kk,tC Tryz.prog T=some kk→0<kk→kk≤33→tZ Tryz.prog T (some (.row 41 33 (Jl b).length (zF (Jl b)))) ((k:Int).toNat * 33)=fD Tryz.prog T (bY c) 0:=fun T kk h1 h2 h3=>by rw[YH q0 bA h1 h2 h3,hc]
   have nxt:y8 s v b c→∀j:Nat,j<k+1→y8 s v b (gx iA (Jl b) j):=fun h j M9=>(Nat.lt_succ_iff_lt_or_eq.1 M9).elim (hj j) fun e=>by subst e;rw[hc];exact h
   have ld1:=ld0 23 1 TK (by decide) (by decide)
   have ld2:=ld 27 32 1 aKg (by decide) (by decide)
   have cl:∀i:Int,(k:Int)<4:=fun _=>by omega
   have hl4:(k:Int)<((Jl b).length:Int):=bA
   by_cases h1:c.aK≤s.bM.fin.aK
   ·apply oN (4-(k+1))
    ·simp only[Z8,seval,hI,bA,q0,ld1,ld2,h1,hw];rfl
    ·exact⟨k+1,by simp only[E8,seval,hI],nxt (.inl h1),by omega,rfl⟩
   by_cases h2:(Dw s c.aK).1<b.slot
   ·by_cases h3:FN v.ns (aN v.ns b.parent) (Dw s c.aK).1<0
    ·apply oT (.ret)
     ·simp only[Z8,seval,hI,bA,q0,ld1,ld2,h1,h2,h3,Uy s hf,eB,hs.tree,KZ _ hu hs.nn];rfl
     ·exact .inl ⟨rfl,by simp only[E8,seval],k,Qh,by rw[hc];exact fun h=>h.elim h1 fun h=>by rw[if_pos h2] at h;omega⟩
    have q3:0≤FN v.ns (aN v.ns b.parent) (Dw s c.aK).1:=by omega
    by_cases K1:(nd v.ns (FN v.ns (aN v.ns b.parent) (Dw s c.aK).1)).block.root=c.root
    ·apply oN (4-(k+1))
     ·simp only[Z8,seval,hI,bA,q0,ld1,ld2,h1,h2,h3,Uy s hf,eB,hs.tree,KZ _ hu hs.nn,q3,ra,K1,hw];rfl
     ·exact⟨k+1,by simp only[E8,seval,hI],nxt (.inr (by rw[if_pos h2];exact⟨q3,K1⟩)),by omega,rfl⟩
    ·apply oT (.ret)
     ·simp only[Z8,seval,hI,bA,q0,ld1,ld2,h1,h2,h3,Uy s hf,eB,hs.tree,KZ _ hu hs.nn,q3,ra,K1];rfl
     ·exact .inl ⟨rfl,by simp only[E8,seval],k,Qh,by rw[hc];exact fun h=>h.elim h1 fun h=>by rw[if_pos h2] at h;exact K1 h.2⟩
   ·by_cases K1:b.root=c.root
    ·apply oN (4-(k+1))
     ·simp only[Z8,seval,hI,bA,q0,ld1,ld2,h1,h2,Uy s hf,eB,K1,hw];rfl
     ·exact⟨k+1,by simp only[E8,seval,hI],nxt (.inr (by rw[if_neg h2];exact K1)),by omega,rfl⟩
    ·apply oT (.ret)
     ·simp only[Z8,seval,hI,bA,q0,ld1,ld2,h1,h2,Uy s hf,eB,K1];rfl
     ·exact .inl ⟨rfl,by simp only[E8,seval],k,Qh,by rw[hc];exact fun h=>h.elim h1 fun h=>by rw[if_neg h2] at h;exact K1 h⟩
  ·have bA:¬((k:Int)<(Jl b).length):=by rw[h4];omega
   apply oT (.exit 0)
   ·simp only[Z8,seval,hI,bA];rfl
   ·exact .inr ⟨rfl,fun j h=>hj j (by omega)⟩
 case start=>exact⟨0,by simp only[E8,seval]<;>rfl,fun j h=>by omega,by omega,by omega⟩
 case rest =>
  rintro e st (⟨rfl,h,j,hj,hn⟩|⟨rfl,h⟩)
  ·have hv:decide (FU s v b)=false:=decide_eq_false (fun h=>hn (h.2.2 j hj))
   simp only[Z8,seval];exact⟨_,bW rfl (by simp only[E8,seval,h]<;>rfl) (by first|exact .v _|simp only[dW,h]),by rw[hv]⟩
  ·have hv:decide (FU s v b)=true:=decide_eq_true ⟨by omega,g2,h⟩
   simp only[Z8,seval];exact⟨_,bW rfl (by simp only[E8,seval]<;>rfl) (by first|exact .v _|simp only[dW]),by rw[hv]⟩
theorem N4 {s:aO} {v:SV} (hs:SD s v) (hu:iD v.ns) (hp:s.cFg.qS≠0) (b:Block) (st:St) (d:Option Nat):aL (aC Tryz.prog) 69 [.agg (aB s),.agg (aU b)] st d=some { dst:=d,val:=.v (.bool (decide (FU s v b)))}:=bK (bH hs.flat (uT b)) (c69 hs hu hp b) (.v _)
noncomputable def Kb (s:aO) (v:SV) (b:Block):Int :=
 if b.root=dL then 2 else if KnB v b.root then 9 else if s.now<b.slot then 12 else if b.slot≤(Dw s s.bM.fin.aK).1 then 13 else
 if aN v.ns b.parent<0 then 10 else if b.slot≤(nd v.ns (aN v.ns b.parent)).block.slot then 14 else if (nd v.ns (aN v.ns b.parent)).status=2 then 15 else
 if ¬FU s v b then 16 else if ¬w8 s.cFg.AZ (nd v.ns (aN v.ns b.parent)).block b then 17 else if s.cFg.mH.rR≤(v.ns.length:Int) then 11 else 0
theorem c52 {s:aO} {v:SV} (hs:SD s v) (hu:iD v.ns) (hp:s.cFg.qS≠0) (b:Block):aC Tryz.prog 52 [.agg (aB s),.agg (aU b)]=some (.v (.int .i64 (Kb s v b))):=by
 have hf:=hs.flat
 rw[cL Tryz.func52 rfl aO6 rfl];refine jG ?_
 have r1:=fY v.ns b.parent
 by_cases g1:b.root=dL
 ·simp only[Z8,seval,Uy s hf,eB,N2 hs,hs.tree,mT _ _ hs.nn,N4 hs hu hp,Wp,decide_true,decide_false,g1];exact⟨_,bW rfl (by simp only[E8,seval]<;>rfl) (by first|exact .v _|simp only[dW]),by simp only[Kb,g1,not_true_eq_false,not_false_eq_true,if_true,if_false]⟩
 by_cases g2:KnB v b.root
 ·simp only[Z8,seval,Uy s hf,eB,N2 hs,hs.tree,mT _ _ hs.nn,N4 hs hu hp,Wp,decide_true,decide_false,g1,g2];exact⟨_,bW rfl (by simp only[E8,seval]<;>rfl) (by first|exact .v _|simp only[dW]),by simp only[Kb,g1,g2,not_true_eq_false,not_false_eq_true,if_true,if_false]⟩
 by_cases g3:s.now<b.slot
 ·simp only[Z8,seval,Uy s hf,eB,N2 hs,hs.tree,mT _ _ hs.nn,N4 hs hu hp,Wp,decide_true,decide_false,g1,g2,g3];exact⟨_,bW rfl (by simp only[E8,seval]<;>rfl) (by first|exact .v _|simp only[dW]),by simp only[Kb,g1,g2,g3,not_true_eq_false,not_false_eq_true,if_true,if_false]⟩
 by_cases g4:b.slot≤(Dw s s.bM.fin.aK).1
 ·simp only[Z8,seval,Uy s hf,eB,N2 hs,hs.tree,mT _ _ hs.nn,N4 hs hu hp,Wp,decide_true,decide_false,g1,g2,g3,g4];exact⟨_,bW rfl (by simp only[E8,seval]<;>rfl) (by first|exact .v _|simp only[dW]),by simp only[Kb,g1,g2,g3,g4,not_true_eq_false,not_false_eq_true,if_true,if_false]⟩
 by_cases g5:aN v.ns b.parent<0
 ·simp only[Z8,seval,Uy s hf,eB,N2 hs,hs.tree,mT _ _ hs.nn,N4 hs hu hp,Wp,decide_true,decide_false,g1,g2,g3,g4,g5];exact⟨_,bW rfl (by simp only[E8,seval]<;>rfl) (by first|exact .v _|simp only[dW]),by simp only[Kb,g1,g2,g3,g4,g5,not_true_eq_false,not_false_eq_true,if_true,if_false]⟩
 have q0:0≤aN v.ns b.parent:=by omega
 by_cases g6:b.slot≤(nd v.ns (aN v.ns b.parent)).block.slot
 ·simp only[Z8,seval,Uy s hf,eB,N2 hs,hs.tree,mT _ _ hs.nn,N4 hs hu hp,Wp,decide_true,decide_false,g1,g2,g3,g4,g5,q0,r1,g6];exact⟨_,bW rfl (by simp only[E8,seval]<;>rfl) (by first|exact .v _|simp only[dW]),by simp only[Kb,g1,g2,g3,g4,g5,g6,not_true_eq_false,not_false_eq_true,if_true,if_false]⟩
 by_cases g7:(nd v.ns (aN v.ns b.parent)).status=2
 ·simp only[Z8,seval,Uy s hf,eB,N2 hs,hs.tree,mT _ _ hs.nn,N4 hs hu hp,Wp,decide_true,decide_false,g1,g2,g3,g4,g5,q0,r1,g6,bt g7];exact⟨_,bW rfl (by simp only[E8,seval]<;>rfl) (by first|exact .v _|simp only[dW]),by simp only[Kb,g1,g2,g3,g4,g5,g6,g7,not_true_eq_false,not_false_eq_true,if_true,if_false]⟩
 by_cases g8:¬FU s v b
 ·simp only[Z8,seval,Uy s hf,eB,N2 hs,hs.tree,mT _ _ hs.nn,N4 hs hu hp,Wp,decide_true,decide_false,g1,g2,g3,g4,g5,q0,r1,g6,bf g7,g8];exact⟨_,bW rfl (by simp only[E8,seval]<;>rfl) (by first|exact .v _|simp only[dW]),by simp only[Kb,g1,g2,g3,g4,g5,g6,g7,g8,not_true_eq_false,not_false_eq_true,if_true,if_false]⟩
 replace g8:=Classical.not_not.1 g8
 by_cases g9:¬w8 s.cFg.AZ (nd v.ns (aN v.ns b.parent)).block b
 ·simp only[Z8,seval,Uy s hf,eB,N2 hs,hs.tree,mT _ _ hs.nn,N4 hs hu hp,Wp,decide_true,decide_false,g1,g2,g3,g4,g5,q0,r1,g6,bf g7,g8,g9];exact⟨_,bW rfl (by simp only[E8,seval]<;>rfl) (by first|exact .v _|simp only[dW]),by simp only[Kb,g1,g2,g3,g4,g5,g6,g7,g8,g9,not_true_eq_false,not_false_eq_true,if_true,if_false]⟩
 replace g9:=Classical.not_not.1 g9
 by_cases N5:s.cFg.mH.rR≤(v.ns.length:Int)
 ·simp only[Z8,seval,Uy s hf,eB,N2 hs,hs.tree,mT _ _ hs.nn,N4 hs hu hp,Wp,decide_true,decide_false,g1,g2,g3,g4,g5,q0,r1,g6,bf g7,g8,g9,N5];exact⟨_,bW rfl (by simp only[E8,seval]<;>rfl) (by first|exact .v _|simp only[dW]),by simp only[Kb,g1,g2,g3,g4,g5,g6,g7,g8,g9,N5,not_true_eq_false,not_false_eq_true,if_true,if_false]⟩
 simp only[Z8,seval,Uy s hf,eB,N2 hs,hs.tree,mT _ _ hs.nn,N4 hs hu hp,Wp,decide_true,decide_false,g1,g2,g3,g4,g5,q0,r1,g6,bf g7,g8,g9,N5];exact⟨_,bW rfl (by simp only[E8,seval]<;>rfl) (by first|exact .v _|simp only[dW]),by simp only[Kb,g1,g2,g3,g4,g5,g6,g7,g8,g9,N5,not_true_eq_false,not_false_eq_true,if_true,if_false]⟩
theorem k52 {s:aO} {v:SV} (hs:SD s v) (hu:iD v.ns) (hp:s.cFg.qS≠0) (b:Block) (st:St) (d:Option Nat):aL (aC Tryz.prog) 52 [.agg (aB s),.agg (aU b)] st d=some { dst:=d,val:=.v (.int .i64 (Kb s v b))}:=bK (bH hs.flat (uT b)) (c52 hs hu hp b) (.v _)
def LY (acc:Bool × fS × fS) (n:Node):Bool × fS × fS :=
 if n.status=2 then acc else (true,if acc.1=false∨acc.2.1.aK<n.block.dS.pj.aK then n.block.dS.pj else acc.2.1,if acc.1=false∨acc.2.2.aK<n.block.dS.pf.aK then n.block.dS.pf else acc.2.2)
def y9 (ns:List Node):Bool × fS × fS:=ns.foldl LY (false,iA,iA)
def Jm (ns:List Node):pC:=⟨(y9 ns).2.1,(y9 ns).2.2⟩
theorem z4 (ns:List Node) (k:Nat) (h:k<ns.length):y9 (ns.take (k+1))=LY (y9 (ns.take k)) (nd ns k):=by
 obtain⟨h',e⟩:=Lb (ns:=ns) (i:=(k:Int)) (by omega) (by omega)
 unfold y9;rw[List.take_succ_eq_append_getElem h,List.foldl_append,e];rfl
theorem c67 {s:aO} {v:SV} (hs:SD s v):aC Tryz.prog 67 [.agg (aB s)]=some (.agg (fN (Jm v.ns))):=by
 have hn:=hs.nn
 rw[cL Tryz.func67 rfl aO7 rfl];refine jG ?_
 simp only[Z8,seval,hs.tree];refine cM (fun m st=>∃(k:Nat) (b:Bool) (x y:fS),(st.env 1=.ptr 1 0 0∧st.heap 1 0=some (.cells (aB s))∧st.env 2=.ptr 2 0 0∧st.heap 2 0=some (.cells (fN Nr))∧st.env 3=.ptr 3 0 0∧st.heap 3 0=some (.cells (fN ⟨x,y⟩))∧st.env 4=.v (.bool b)∧st.env 5=.v (.int .i64 k))∧y9 (v.ns.take k)=(b,x,y)∧k≤v.ns.length∧m=v.ns.length-k)
  (fun e st=>e=.exit 0∧∃(x y:fS),(st.env 2=.ptr 2 0 0∧st.heap 2 0=some (.cells (fN Nr))∧st.env 3=.ptr 3 0 0∧st.heap 3 0=some (.cells (fN ⟨x,y⟩)))∧Jm v.ns=⟨x,y⟩) v.ns.length ?step ?start ?rest
 case step =>
  rintro m st ⟨k,b,x,y,hI,hp,hk,hm⟩
  by_cases bA:(k:Int)<v.ns.length
  ·have q0:(0:Int)≤k:=by omega
   have hw:IntKind.i64.wrap ((k:Int)+1)=((k+1:Nat):Int):=by rw[pR _ (by omega) (by omega)];omega
   have xS:=z4 v.ns k (by omega)
   rw[hp] at xS;unfold LY at xS;by_cases h1:(nd v.ns k).status=2
   ·rw[if_pos h1] at xS;apply oN (v.ns.length-(k+1))
    ·simp only[Z8,seval,hI,bA,q0,hs.tree,bt h1,hw];rfl
    ·exact⟨k+1,b,x,y,by simp only[E8,seval,hI],xS,by omega,rfl⟩
   rw[if_neg h1] at xS;cases b
   ·simp only[true_or,if_true] at xS;apply oN (v.ns.length-(k+1))
    ·simp only[Z8,seval,hI,bA,q0,hs.tree,bf h1,hw];rfl
    ·exact⟨k+1,true,_,_,by simp only[E8,seval,hI]<;>rfl,xS,by omega,rfl⟩
   ·simp only[Bool.true_eq_false,false_or] at xS;by_cases h2:x.aK<(nd v.ns k).block.dS.pj.aK
    ·rw[if_pos h2] at xS;by_cases h3:y.aK<(nd v.ns k).block.dS.pf.aK
     ·rw[if_pos h3] at xS;apply oN (v.ns.length-(k+1))
      ·simp only[Z8,seval,hI,bA,q0,hs.tree,bf h1,h2,h3,hw];rfl
      ·exact⟨k+1,true,_,_,by simp only[E8,seval,hI]<;>rfl,xS,by omega,rfl⟩
     ·rw[if_neg h3] at xS;apply oN (v.ns.length-(k+1))
      ·simp only[Z8,seval,hI,bA,q0,hs.tree,bf h1,h2,h3,hw];rfl
      ·exact⟨k+1,true,_,_,by simp only[E8,seval,hI]<;>rfl,xS,by omega,rfl⟩
    ·rw[if_neg h2] at xS;by_cases h3:y.aK<(nd v.ns k).block.dS.pf.aK
     ·rw[if_pos h3] at xS;apply oN (v.ns.length-(k+1))
      ·simp only[Z8,seval,hI,bA,q0,hs.tree,bf h1,h2,h3,hw];rfl
      ·exact⟨k+1,true,_,_,by simp only[E8,seval,hI]<;>rfl,xS,by omega,rfl⟩
     ·rw[if_neg h3] at xS;apply oN (v.ns.length-(k+1))
      ·simp only[Z8,seval,hI,bA,q0,hs.tree,bf h1,h2,h3,hw];rfl
      ·exact⟨k+1,true,_,_,by simp only[E8,seval,hI]<;>rfl,xS,by omega,rfl⟩
  ·have Eh:k=v.ns.length:=by omega
   rw[Eh,List.take_length] at hp;apply oT (.exit 0)
   ·simp only[Z8,seval,hI,bA,hs.tree];rfl
   ·exact⟨rfl,x,y,by simp only[E8,seval,hI],by unfold Jm;rw[hp]⟩
 case start=>exact⟨0,false,iA,iA,by simp only[E8,seval]<;>rfl,rfl,by omega,by omega⟩
 case rest =>
  rintro e st ⟨rfl,x,y,hI,hp⟩
  simp only[Z8,seval,hI];exact⟨_,fL rfl (by simp only[E8,seval,hI]<;>rfl) (by simp only[Z8,seval,hI]<;>rfl) (by simp only[dW,and_self,hI]),by rw[hp]⟩
theorem k67 {s:aO} {v:SV} (hs:SD s v) (st:St) (d:Option Nat):aL (aC Tryz.prog) 67 [.agg (aB s)] st d=some { dst:=d,val:=.agg (fN (Jm v.ns))}:=bK (cV hs.flat) (c67 hs) (.agg _ (El _))
noncomputable def Gn (s:aO) (c:fS):fS:=if s.bM.hU.aK<c.aK then c else s.bM.hU
noncomputable def Dx (s:aO) (c:fS):fS:=if s.bM.fin.aK<c.aK then c else s.bM.fin
def mV (s:aO) (v:SV) (J F:fS):Prop :=
 aN v.ns J.root<0∨aN v.ns F.root<0∨(nd v.ns (aN v.ns J.root)).status=2∨(nd v.ns (aN v.ns F.root)).status=2∨¬TC s v.ns (aN v.ns J.root) J.aK∨¬TC s v.ns (aN v.ns F.root) F.aK ∨
 At v.ns (aN v.ns F.root) (aN v.ns J.root)=false∨J.aK<F.aK∨Dv s s.now<J.aK∨K0 (ol v.T) J<0
noncomputable def z5 (s:aO) (v:SV) (c1 c2:fS):AV:=if mV s v (Gn s c1) (Dx s c2) then .eN [.agg (bY iA),.agg (bY iA),.v (.bool false)] else .eN [.agg (bY (Gn s c1)),.agg (bY (Dx s c2)),.v (.bool true)]
end Go.Ab.Tryz
section
namespace Go.Ab.Tryz
open Classical Go.Proofs Go.Ab
end Go.Ab.Tryz
namespace Go.Ab
theorem YI {α β:Type} {x:Option α} {k:α→Option β} {R:β→Prop} (Q:α→Prop) (h:∃a,x=some a∧Q a) (rest:∀a,Q a→∃r,k a=some r∧R r):∃r,cN x k=some r∧R r:=by
 obtain⟨a,h1,h2⟩:=h
 rw[h1];exact rest a h2
end Go.Ab
namespace Go.Ab.Tryz
open Classical Go.Proofs Go.Ab
theorem Cs:aE 7 73 (some 41)=[]∧aE 7 72 (some 41)=[]:=⟨rfl,rfl⟩
theorem pJ {α:Type} (a:α) (l m:List α):List.append (a :: l) m=a :: List.append l m:=rfl
theorem pK {α:Type} (m:List α):List.append ([]:List α) m=m:=rfl
theorem c59 {s:aO} {v:SV} (hs:SD s v) (hu:iD v.ns) (hp:s.cFg.qS≠0) (c1 c2:fS):aC Tryz.prog 59 [.agg (aB s),.agg (bY c1),.agg (bY c2)]=some (z5 s v c1 c2):=by
 have hf:=hs.flat
 have KM:=hs.fT
 rw[cG Tryz.func59 rfl aO8 (by kernel_rfl) rfl]
 refine jG ?_
 unfold z5;obtain⟨J,eJ⟩:∃J,Gn s c1=J:=⟨_,rfl⟩
 obtain⟨F,eF⟩:∃F,Dx s c2=F:=⟨_,rfl⟩
 rw[eJ,eF];simp only[ZG,seval,Bool.false_and,Prod.mk.injEq,Qo,Cs,pJ,pK];refine YI (fun a=>a.1=.normal∧a.2.env 3=.ptr 3 0 0∧a.2.heap 3 0=some (.cells (aB s))∧a.2.env 5=.ptr 5 0 0∧a.2.heap 5 0=some (.cells (bY c2))∧a.2.env 6=.ptr 6 0 0∧a.2.heap 6 0=some (.cells (bY iA))∧a.2.env 7=.ptr 7 0 0∧a.2.heap 7 0=some (.cells (bY iA))∧a.2.env 9=.ptr 9 0 0∧a.2.heap 9 0=some (.cells (bY J))∧a.2.env 10=.ptr 10 0 0∧a.2.heap 10 0=some (.cells (bY s.bM.fin))) ?m1 ?r1
 case m1 =>
  unfold Gn at eJ;by_cases a1:s.bM.hU.aK<c1.aK
  ·rw[if_pos a1] at eJ;simp only[a1,decide_true,if_true];exact⟨_,rfl,rfl,by simp only[E8,seval,eJ]<;>exact⟨rfl,rfl⟩⟩
  ·rw[if_neg a1] at eJ;simp only[a1,decide_false,Bool.false_eq_true,if_false];exact⟨_,rfl,rfl,by simp only[E8,seval,eJ]<;>exact⟨rfl,rfl⟩⟩
 case r1 =>
  rintro⟨_,st⟩ ⟨rfl,hI⟩
  dsimp only at hI
  simp only[ZG,seval,Bool.false_and,Prod.mk.injEq,Qo,Cs,pJ,pK,hI];refine YI (fun a=>a.1=.normal∧a.2.env 3=.ptr 3 0 0∧a.2.heap 3 0=some (.cells (aB s))∧a.2.env 6=.ptr 6 0 0∧a.2.heap 6 0=some (.cells (bY iA))∧a.2.env 7=.ptr 7 0 0∧a.2.heap 7 0=some (.cells (bY iA))∧a.2.env 9=.ptr 9 0 0∧a.2.heap 9 0=some (.cells (bY J))∧a.2.env 10=.ptr 10 0 0∧a.2.heap 10 0=some (.cells (bY F))) ?m2 ?r2
  case m2 =>
   unfold Dx at eF;by_cases a2:s.bM.fin.aK<c2.aK
   ·rw[if_pos a2] at eF;simp only[a2,decide_true,if_true];exact⟨_,rfl,rfl,by simp only[E8,seval,hI,eF]⟩
   ·rw[if_neg a2] at eF;simp only[a2,decide_false,Bool.false_eq_true,if_false];exact⟨_,rfl,rfl,by simp only[E8,seval,hI,eF]⟩
  case r2 =>
   rintro⟨_,st⟩ ⟨rfl,hK⟩
   dsimp only at hK
   have r1:=fY v.ns J.root
   have r2:=fY v.ns F.root
   by_cases g1:aN v.ns J.root<0
   ·simp only[ZG,seval,Bool.false_and,Prod.mk.injEq,Qo,Cs,pJ,pK,hK,hs.tree,mT _ _ hs.nn,Nf _ hu hs.nn,Mp s hp hf,hs.tables,YG _ hs.nT KM,decide_true,decide_false,g1];exact⟨_,by apply gP;rfl;all_goals simp only[aI,bV,Z8,seval,hK]<;>rfl,by rw[if_pos (show mV s v J F by simp only[mV,g1,not_true_eq_false,not_false_eq_true,true_or,or_true])]⟩
   by_cases g2:aN v.ns F.root<0
   ·simp only[ZG,seval,Bool.false_and,Prod.mk.injEq,Qo,Cs,pJ,pK,hK,hs.tree,mT _ _ hs.nn,Nf _ hu hs.nn,Mp s hp hf,hs.tables,YG _ hs.nT KM,decide_true,decide_false,g1,g2];exact⟨_,by apply gP;rfl;all_goals simp only[aI,bV,Z8,seval,hK]<;>rfl,by rw[if_pos (show mV s v J F by simp only[mV,g1,g2,not_true_eq_false,not_false_eq_true,true_or,or_true])]⟩
   have q1:0≤aN v.ns J.root:=by omega
   have q2:0≤aN v.ns F.root:=by omega
   by_cases g3:(nd v.ns (aN v.ns J.root)).status=2
   ·simp only[ZG,seval,Bool.false_and,Prod.mk.injEq,Qo,Cs,pJ,pK,hK,hs.tree,mT _ _ hs.nn,Nf _ hu hs.nn,Mp s hp hf,hs.tables,YG _ hs.nT KM,decide_true,decide_false,g1,g2,q1,q2,r1,r2,bt g3];exact⟨_,by apply gP;rfl;all_goals simp only[aI,bV,Z8,seval,hK]<;>rfl,by rw[if_pos (show mV s v J F by simp only[mV,g1,g2,g3,not_true_eq_false,not_false_eq_true,true_or,or_true])]⟩
   by_cases g4:(nd v.ns (aN v.ns F.root)).status=2
   ·simp only[ZG,seval,Bool.false_and,Prod.mk.injEq,Qo,Cs,pJ,pK,hK,hs.tree,mT _ _ hs.nn,Nf _ hu hs.nn,Mp s hp hf,hs.tables,YG _ hs.nT KM,decide_true,decide_false,g1,g2,q1,q2,r1,r2,bf g3,bt g4];exact⟨_,by apply gP;rfl;all_goals simp only[aI,bV,Z8,seval,hK]<;>rfl,by rw[if_pos (show mV s v J F by simp only[mV,g1,g2,g3,g4,not_true_eq_false,not_false_eq_true,true_or,or_true])]⟩
   have ke1:=aJX hs (aN v.ns J.root) J.aK q1 r1.2
   have ke2:=aJX hs (aN v.ns F.root) F.aK q2 r2.2
   by_cases g5:¬TC s v.ns (aN v.ns J.root) J.aK
   ·simp only[ZG,seval,Bool.false_and,Prod.mk.injEq,Qo,Cs,pJ,pK,hK,hs.tree,mT _ _ hs.nn,Nf _ hu hs.nn,Mp s hp hf,hs.tables,YG _ hs.nT KM,decide_true,decide_false,g1,g2,q1,q2,r1,r2,bf g3,bf g4,ke1,ke2,g5];exact⟨_,by apply gP;rfl;all_goals simp only[aI,bV,Z8,seval,hK]<;>rfl,by rw[if_pos (show mV s v J F by simp only[mV,g1,g2,g3,g4,g5,not_true_eq_false,not_false_eq_true,true_or,or_true])]⟩
   replace g5:=Classical.not_not.1 g5
   by_cases g6:¬TC s v.ns (aN v.ns F.root) F.aK
   ·simp only[ZG,seval,Bool.false_and,Prod.mk.injEq,Qo,Cs,pJ,pK,hK,hs.tree,mT _ _ hs.nn,Nf _ hu hs.nn,Mp s hp hf,hs.tables,YG _ hs.nT KM,decide_true,decide_false,g1,g2,q1,q2,r1,r2,bf g3,bf g4,ke1,ke2,g5,g6];exact⟨_,by apply gP;rfl;all_goals simp only[aI,bV,Z8,seval,hK]<;>rfl,by rw[if_pos (show mV s v J F by simp only[mV,g1,g2,g3,g4,g5,g6,not_true_eq_false,not_false_eq_true,true_or,or_true])]⟩
   replace g6:=Classical.not_not.1 g6
   by_cases g7:At v.ns (aN v.ns F.root) (aN v.ns J.root)=false
   ·simp only[ZG,seval,Bool.false_and,Prod.mk.injEq,Qo,Cs,pJ,pK,hK,hs.tree,mT _ _ hs.nn,Nf _ hu hs.nn,Mp s hp hf,hs.tables,YG _ hs.nT KM,decide_true,decide_false,g1,g2,q1,q2,r1,r2,bf g3,bf g4,ke1,ke2,g5,g6,g7];exact⟨_,by apply gP;rfl;all_goals simp only[aI,bV,Z8,seval,hK]<;>rfl,by rw[if_pos (show mV s v J F by simp only[mV,g1,g2,g3,g4,g5,g6,g7,not_true_eq_false,not_false_eq_true,true_or,or_true])]⟩
   replace g7:=(by simpa using g7:At v.ns _ _=true)
   by_cases g8:J.aK<F.aK
   ·simp only[ZG,seval,Bool.false_and,Prod.mk.injEq,Qo,Cs,pJ,pK,hK,hs.tree,mT _ _ hs.nn,Nf _ hu hs.nn,Mp s hp hf,hs.tables,YG _ hs.nT KM,decide_true,decide_false,g1,g2,q1,q2,r1,r2,bf g3,bf g4,ke1,ke2,g5,g6,g7,g7,g8];exact⟨_,by apply gP;rfl;all_goals simp only[aI,bV,Z8,seval,hK]<;>rfl,by rw[if_pos (show mV s v J F by simp only[mV,g1,g2,g3,g4,g5,g6,g7,g8,not_true_eq_false,not_false_eq_true,true_or,or_true])]⟩
   by_cases g9:Dv s s.now<J.aK
   ·simp only[ZG,seval,Bool.false_and,Prod.mk.injEq,Qo,Cs,pJ,pK,hK,hs.tree,mT _ _ hs.nn,Nf _ hu hs.nn,Mp s hp hf,hs.tables,YG _ hs.nT KM,decide_true,decide_false,g1,g2,q1,q2,r1,r2,bf g3,bf g4,ke1,ke2,g5,g6,g7,g7,g8,g9];exact⟨_,by apply gP;rfl;all_goals simp only[aI,bV,Z8,seval,hK]<;>rfl,by rw[if_pos (show mV s v J F by simp only[mV,g1,g2,g3,g4,g5,g6,g7,g8,g9,not_true_eq_false,not_false_eq_true,true_or,or_true])]⟩
   by_cases N5:K0 (ol v.T) J<0
   ·simp only[ZG,seval,Bool.false_and,Prod.mk.injEq,Qo,Cs,pJ,pK,hK,hs.tree,mT _ _ hs.nn,Nf _ hu hs.nn,Mp s hp hf,hs.tables,YG _ hs.nT KM,decide_true,decide_false,g1,g2,q1,q2,r1,r2,bf g3,bf g4,ke1,ke2,g5,g6,g7,g7,g8,g9,N5];exact⟨_,by apply gP;rfl;all_goals simp only[aI,bV,Z8,seval,hK]<;>rfl,by rw[if_pos (show mV s v J F by simp only[mV,g1,g2,g3,g4,g5,g6,g7,g8,g9,N5,not_true_eq_false,not_false_eq_true,true_or,or_true])]⟩
   simp only[ZG,seval,Bool.false_and,Prod.mk.injEq,Qo,Cs,pJ,pK,hK,hs.tree,mT _ _ hs.nn,Nf _ hu hs.nn,Mp s hp hf,hs.tables,YG _ hs.nT KM,decide_true,decide_false,g1,g2,q1,q2,r1,r2,bf g3,bf g4,ke1,ke2,g5,g6,g7,g7,g8,g9,N5];exact⟨_,by apply gP;rfl;all_goals simp only[aI,bV,Z8,seval,hK]<;>rfl,by rw[if_neg (show ¬mV s v J F by simp only[mV,g1,g2,g3,g4,g5,g6,g7,g8,g9,N5,not_true_eq_false,not_false_eq_true,or_self,Bool.true_eq_false])]⟩
theorem k59 {s:aO} {v:SV} (hs:SD s v) (hu:iD v.ns) (hp:s.cFg.qS≠0) (c1 c2:fS) (st:St) (d:Option Nat):aL (aC Tryz.prog) 59 [.agg (aB s),.agg (bY c1),.agg (bY c2)] st d=some { dst:=d,val:=z5 s v c1 c2 }:=bK (nD hs.flat (.agg _ (dC c1)) (.agg _ (dC c2))) (c59 hs hu hp c1 c2) (by unfold z5;split<;>exact .eN _ (nD (.agg _ (dC _)) (.agg _ (dC _)) (.v _)))
end Go.Ab.Tryz
end
namespace Go.Ab.Tryz
open Classical Go.Proofs Go.Ab
theorem bG (st:St) (s g:Nat):cA st (.own s g)=jH (st.heap s g):=by
 unfold cA jH;rw[if_neg (nF s g)];cases h:st.heap s g with
 | none=>simp only[h]
 | some e=>cases e<;>simp only[h]
theorem SD.fl {s:aO} {v:SV} (h:SD s v):Flat s.cFg.jN∧Flat s.gG.dQ∧Flat s.gG.gZ∧Flat s.dV.early∧Flat s.dV.bX∧Flat s.tree.nodes∧Flat s.tables:=(Gx s).1 h.flat
noncomputable def Hc (s:aO) (v:SV) (c1 c2:fS):SV :=
 if mV s v (Gn s c1) (Dx s c2) then v else
 if Dx s c2=s.bM.fin then { v with T:=nz (yK (ol v.T) (Gn s c1).aK)} else
 { v with T:=nz (yK (ol v.T) (Gn s c1).aK),ns:=(oQ v.ns (aN v.ns (Dx s c2).root) v.ns.length).1,O:=nz ((ol v.O).filter fun b=>decide ((Dw s (Dx s c2).aK).1<b.slot))}
noncomputable def xD (s:aO) (v:SV) (c1 c2:fS):aO :=
 if mV s v (Gn s c1) (Dx s c2) then s else
 if Dx s c2=s.bM.fin then { s with bM:=⟨Gn s c1,Dx s c2⟩,tables:=ov aT (nz (yK (ol v.T) (Gn s c1).aK))} else
 { s with bM:=⟨Gn s c1,Dx s c2⟩,tables:=ov aT (nz (yK (ol v.T) (Gn s c1).aK)),
          tree:=⟨.sl (oQ v.ns (aN v.ns (Dx s c2).root) v.ns.length).1.length (cD (oQ v.ns (aN v.ns (Dx s c2).root) v.ns.length).1)⟩,
          iI:=if aN (oQ v.ns (aN v.ns (Dx s c2).root) v.ns.length).1 s.iI<0 then dL else s.iI,
          dV:={ s.dV with bX:=ov aH (nz ((ol v.O).filter fun b=>decide ((Dw s (Dx s c2).aK).1<b.slot)))} }
theorem Ws {ns:List Node} (i:Int):(oQ ns i ns.length).1.length≤ns.length:=Qk ns i ns.length
theorem SD.dK {s:aO} {v:SV} (h:SD s v) (hu:iD v.ns) (c1 c2:fS):SD (xD s v c1 c2) (Hc s v c1 c2):=by
 have hT:((ol (nz (yK (ol v.T) (Gn s c1).aK))).length:Int)<1000000:=by rw[mU];have:=List.length_filter_le (fun t:Table=>decide ((Gn s c1).aK≤t.ck.aK)) (ol v.T);have:=h.nT;unfold yK;omega
 have hB:∀t∈ol (nz (yK (ol v.T) (Gn s c1).aK)),sC t:=by rw[mU];exact fun t m=>h.tB t (List.mem_filter.1 m).1
 unfold xD Hc;split
 ·exact h
 split
 ·exact⟨h.jN,h.dQ,h.gZ,h.early,h.bX,h.tree,rfl,h.eV,hB,h.nB,h.nL,h.nQ,h.nE,h.nO,hT,h.nn⟩
 ·refine⟨h.jN,h.dQ,h.gZ,h.early,rfl,rfl,rfl,h.eV,hB,h.nB,h.nL,h.nQ,h.nE, ?_,hT, ?_⟩
  ·rw[mU];have:=List.length_filter_le (fun b:Block=>decide ((Dw s (Dx s c2).aK).1<b.slot)) (ol v.O);have:=h.nO;omega
  ·have:=Ws (ns:=v.ns) (aN v.ns (Dx s c2).root);have:=h.nn;show ((oQ v.ns (aN v.ns (Dx s c2).root) v.ns.length).1.length:Int)<1000000;omega
theorem c61 {s:aO} {v:SV} (hs:SD s v) (hu:iD v.ns) (hp:s.cFg.qS≠0) (c1 c2:fS):aC Tryz.prog 61 [.agg (aB s),.agg (bY c1),.agg (bY c2)]=some (.agg (aB (xD s v c1 c2))):=by
 have hf:=hs.flat
 have hn:=hs.nO
 have iX:=hs.fl
 have FW:=k59 hs hu hp c1 c2
 rw[cG Tryz.func61 rfl aO9 (by kernel_rfl) rfl]
 refine jG ?_
 by_cases b1:mV s v (Gn s c1) (Dx s c2)
 ·have hv:xD s v c1 c2=s:=if_pos b1
  have hc:z5 s v c1 c2=.eN [.agg (bY iA),.agg (bY iA),.v (.bool false)]:=if_pos b1
  rw[hc] at FW
  simp only[ZG,seval,Bool.false_and,Prod.mk.injEq,sR,FW,eB];exact⟨_,fL rfl (by simp only[E8,seval,hf]<;>rfl) (by simp only[Z8,seval,hf]<;>rfl) (by simp only[dW,and_self,hf]),by rw[hv]⟩
 have hc:z5 s v c1 c2=.eN [.agg (bY (Gn s c1)),.agg (bY (Dx s c2)),.v (.bool true)]:=if_neg b1
 rw[hc] at FW
 have hv:xD s v c1 c2=_:=if_neg b1
 generalize hJ:Gn s c1=J at *
 generalize hF:Dx s c2=F at *
 have XZ:=fY v.ns F.root
 have hF0:0≤aN v.ns F.root:=by rcases Int.lt_or_le (aN v.ns F.root) 0 with h|h;exact absurd (.inr (.inl h)) b1;exact h
 have aBT:=aOW v.T hs.nT (fun t m=>(hs.tB t m).fl) J.aK
 have kp:=k34 v.ns hu hs.nn (aN v.ns F.root) ⟨hF0,XZ.2⟩
 by_cases e1:yK (ol v.T) J.aK=[]
 ·have hz:(nz (yK (ol v.T) J.aK))=none:=if_pos e1
  rw[show Nn 118 34 aT (yK (ol v.T) J.aK)=.v (.slice none 0 0) from if_pos e1] at aBT;have Wt:=kx aBT (bH hs.fT (.v _)) (.v _)
  by_cases e2:F=s.bM.fin
  ·rw[if_pos e2,hz] at hv;subst e2;simp only[ZG,seval,Bool.false_and,Prod.mk.injEq,sR,FW,eB,hs.tables,Wt,decide_true,decide_false];exact⟨_,fL rfl (by simp only[E8,seval,hf,iX,and_self]<;>rfl) (by simp only[Z8,seval,hf,iX,and_self]<;>rfl) (by simp only[dW,and_self,hf,iX,and_self]),by rw[hv];rfl⟩
  rw[if_neg e2,hz] at hv;obtain⟨Wu,en⟩:∃Wu,(oQ v.ns (aN v.ns F.root) v.ns.length).1=Wu:=⟨_,rfl⟩
  have Iq:(Wu.length:Int)<1000000:=by have:=Ws (ns:=v.ns) (aN v.ns F.root);have:=hs.nn;rw[← en];omega
  unfold M1 at kp;rw[en] at kp hv;obtain⟨x,ex⟩:∃x,(KW F.aK s.cFg.qS).1=x:=⟨_,rfl⟩
  rw[show (Dw s F.aK).1=x from ex] at hv;by_cases e3:aN Wu s.iI<0
  ·rw[if_pos e3] at hv;obtain⟨S1,eS⟩:∃S1:aO,S1={ cFg:=s.cFg,gG:=s.gG,bM:=⟨J,F⟩,dV:=s.dV,tree:=⟨.sl Wu.length (cD Wu)⟩,now:=s.now,iI:=dL,tables:=.v (.slice none 0 0)}:=⟨_,rfl⟩
   have hS:Flat (.agg (aB S1)):=by rw[eS];simp only[dW,iX,and_self]
   have Wv:=fun st d=>Uy S1 hS F.aK st d
   simp only[Dw,eS,ex] at Wv
   simp only[ZG,seval,Bool.false_and,Prod.mk.injEq,sR,FW,eB,hs.tables,Wt,decide_true,decide_false,e2,hs.tree,mT _ _ hs.nn,kp,mT _ _ Iq,e3,Wv,hs.bX];have FX:S1.dV.bX=ov aH v.O:=by rw[eS];exact hs.bX
   refine lJ (fun m st=>∃k:Nat,(st.env 3=.ptr 3 0 0∧st.heap 3 0=some (.cells (aB S1))∧st.env 6=.ptr 6 0 0∧st.heap 6 0=some (.cells (aB gQ))∧st.env 11=.v (.int .u64 x)∧st.env 14=.v (.int .i64 k))∧(((((ol v.O).take k).filter (fun b=>decide (x<b.slot)))=[]∧st.env 13=.v (.slice none 0 0))∨((((ol v.O).take k).filter (fun b=>decide (x<b.slot)))≠[]∧∃g,st.env 13=.own 99 g∧g<st.aP 99∧st.heap 99 g=some (.row 74 238 (((ol v.O).take k).filter (fun b=>decide (x<b.slot))).length (aH (((ol v.O).take k).filter (fun b=>decide (x<b.slot)))))))∧k≤(ol v.O).length∧m=(ol v.O).length-k)
    (fun e st=>e=.exit 0∧(((((ol v.O).take (ol v.O).length).filter (fun b=>decide (x<b.slot)))=[]∧st.env 13=.v (.slice none 0 0))∨((((ol v.O).take (ol v.O).length).filter (fun b=>decide (x<b.slot)))≠[]∧∃g,st.env 13=.own 99 g∧g<st.aP 99∧st.heap 99 g=some (.row 74 238 (((ol v.O).take (ol v.O).length).filter (fun b=>decide (x<b.slot))).length (aH (((ol v.O).take (ol v.O).length).filter (fun b=>decide (x<b.slot)))))))∧st.env 3=.ptr 3 0 0∧st.heap 3 0=some (.cells (aB S1))∧st.env 6=.ptr 6 0 0∧st.heap 6 0=some (.cells (aB gQ))∧st.env 11=.v (.int .u64 x)) ((ol v.O).length) ?step ?start ?rest
   case step =>
    rintro m st ⟨k,hI,h5,hk,hm⟩
    have Gl:(((((ol v.O).take k).filter (fun b=>decide (x<b.slot))).length:Nat):Int)<1000000:=by have:=List.length_filter_le (fun b=>decide (x<b.slot)) ((ol v.O).take k);have h2:=List.length_take_le' k (ol v.O);omega
    by_cases bA:(k:Int)<(ol v.O).length
    ·have q0:(0:Int)≤k:=by omega
     have hw:IntKind.i64.wrap ((k:Int)+1)=((k+1:Nat):Int):=by rw[pR _ (by omega) (by omega)];omega
     have hs:=yJ fC (fun b=>decide (x<b.slot)) (ol v.O) k (by omega)
     by_cases hh:x<(gx fC (ol v.O) (k:Int)).slot
     ·rw[if_pos (decide_eq_true hh)] at hs;rcases h5 with ⟨hy,h5⟩|⟨hy,g,h5⟩
      ·rw[hy] at hs;apply Ct ((ol v.O).length-(k+1))
       ·simp only[ZG,seval,Bool.false_and,Prod.mk.injEq,hI,h5,bA,hw,q0,sR,FX,hh];rfl
       ·exact⟨k+1,by simp only[E8,seval,hI],.inr ⟨by rw[hs];simp,_,by simp only[E8,seval]<;>rfl,(by simp only[E8,seval]<;>omega),(by rw[hs];simp only[E8,seval]<;>rfl)⟩,by omega,rfl⟩
      ·apply Ct ((ol v.O).length-(k+1))
       ·simp only[ZG,seval,Bool.false_and,Prod.mk.injEq,hI,h5,Gl,bA,hw,q0,sR,FX,hh];rfl
       ·exact⟨k+1,by simp only[E8,seval,hI],.inr ⟨by rw[hs];simp,_,by simp only[E8,seval]<;>rfl,(by simp only[E8,seval]<;>omega),(by rw[hs];simp only[E8,seval]<;>rfl)⟩,by omega,rfl⟩
     ·rw[if_neg (by simpa using hh),List.append_nil] at hs
      apply Ct ((ol v.O).length-(k+1))
      ·simp only[ZG,seval,Bool.false_and,Prod.mk.injEq,hI,bA,hw,q0,sR,FX,hh];rfl
      ·exact⟨k+1,by simp only[E8,seval,hI],by rw[hs];simpa only[E8,seval] using h5,by omega,rfl⟩
    ·have Eh:k=(ol v.O).length:=by omega
     rw[Eh] at h5;apply FY (.exit 0)
     ·simp only[ZG,seval,Bool.false_and,Prod.mk.injEq,hI,bA,sR,FX];rfl
     ·exact⟨rfl,by simpa only[E8,seval] using h5,by simp only[E8,seval,hI]⟩
   case start=>exact⟨0,by simp only[E8,seval,eS]<;>rfl,.inl ⟨rfl,by simp only[E8,seval]⟩,by omega,by omega⟩
   case rest =>
    rintro e st ⟨rfl,⟨hy,h5⟩|⟨hy,g,h5,hg,Ae⟩,hI⟩
    ·rw[List.take_length] at hy;rw[show nz ((ol v.O).filter fun b=>decide (x<b.slot))=none from if_pos hy] at hv
     rw[eS] at hI;simp only[ZG,seval,Bool.false_and,Prod.mk.injEq,sR,h5,hI];exact⟨_,fL rfl (by simp only[E8,seval,hI,iX,and_self]<;>rfl) (by simp only[Z8,seval,hI,iX,and_self]<;>rfl) (by simp only[dW,and_self,hI,iX,and_self]),by rw[hv];rfl⟩
    ·rw[List.take_length] at hy Ae;rw[show nz ((ol v.O).filter fun b=>decide (x<b.slot))=some ((ol v.O).filter fun b=>decide (x<b.slot)) from if_neg hy] at hv
     rw[eS] at hI;simp only[ZG,seval,Bool.false_and,Prod.mk.injEq,sR,h5,Ae,hI];exact⟨_,by apply eH;rfl;all_goals simp only[aI,Z8,seval,hI,Ae,iX,bR,gK,bG,cO,uA,dW]<;>rfl,by rw[hv];rfl⟩
  rw[if_neg e3] at hv;obtain⟨S1,eS⟩:∃S1:aO,S1={ cFg:=s.cFg,gG:=s.gG,bM:=⟨J,F⟩,dV:=s.dV,tree:=⟨.sl Wu.length (cD Wu)⟩,now:=s.now,iI:=s.iI,tables:=.v (.slice none 0 0)}:=⟨_,rfl⟩
  have hS:Flat (.agg (aB S1)):=by rw[eS];simp only[dW,iX,and_self]
  have Wv:=fun st d=>Uy S1 hS F.aK st d
  simp only[Dw,eS,ex] at Wv
  simp only[ZG,seval,Bool.false_and,Prod.mk.injEq,sR,FW,eB,hs.tables,Wt,decide_true,decide_false,e2,hs.tree,mT _ _ hs.nn,kp,mT _ _ Iq,e3,Wv,hs.bX];have FX:S1.dV.bX=ov aH v.O:=by rw[eS];exact hs.bX
  refine lJ (fun m st=>∃k:Nat,(st.env 3=.ptr 3 0 0∧st.heap 3 0=some (.cells (aB S1))∧st.env 6=.ptr 6 0 0∧st.heap 6 0=some (.cells (aB gQ))∧st.env 11=.v (.int .u64 x)∧st.env 14=.v (.int .i64 k))∧(((((ol v.O).take k).filter (fun b=>decide (x<b.slot)))=[]∧st.env 13=.v (.slice none 0 0))∨((((ol v.O).take k).filter (fun b=>decide (x<b.slot)))≠[]∧∃g,st.env 13=.own 99 g∧g<st.aP 99∧st.heap 99 g=some (.row 74 238 (((ol v.O).take k).filter (fun b=>decide (x<b.slot))).length (aH (((ol v.O).take k).filter (fun b=>decide (x<b.slot)))))))∧k≤(ol v.O).length∧m=(ol v.O).length-k)
   (fun e st=>e=.exit 0∧(((((ol v.O).take (ol v.O).length).filter (fun b=>decide (x<b.slot)))=[]∧st.env 13=.v (.slice none 0 0))∨((((ol v.O).take (ol v.O).length).filter (fun b=>decide (x<b.slot)))≠[]∧∃g,st.env 13=.own 99 g∧g<st.aP 99∧st.heap 99 g=some (.row 74 238 (((ol v.O).take (ol v.O).length).filter (fun b=>decide (x<b.slot))).length (aH (((ol v.O).take (ol v.O).length).filter (fun b=>decide (x<b.slot)))))))∧st.env 3=.ptr 3 0 0∧st.heap 3 0=some (.cells (aB S1))∧st.env 6=.ptr 6 0 0∧st.heap 6 0=some (.cells (aB gQ))∧st.env 11=.v (.int .u64 x)) ((ol v.O).length) ?step ?start ?rest
  case step =>
   rintro m st ⟨k,hI,h5,hk,hm⟩
   have Gl:(((((ol v.O).take k).filter (fun b=>decide (x<b.slot))).length:Nat):Int)<1000000:=by have:=List.length_filter_le (fun b=>decide (x<b.slot)) ((ol v.O).take k);have h2:=List.length_take_le' k (ol v.O);omega
   by_cases bA:(k:Int)<(ol v.O).length
   ·have q0:(0:Int)≤k:=by omega
    have hw:IntKind.i64.wrap ((k:Int)+1)=((k+1:Nat):Int):=by rw[pR _ (by omega) (by omega)];omega
    have hs:=yJ fC (fun b=>decide (x<b.slot)) (ol v.O) k (by omega)
    by_cases hh:x<(gx fC (ol v.O) (k:Int)).slot
    ·rw[if_pos (decide_eq_true hh)] at hs;rcases h5 with ⟨hy,h5⟩|⟨hy,g,h5⟩
     ·rw[hy] at hs;apply Ct ((ol v.O).length-(k+1))
      ·simp only[ZG,seval,Bool.false_and,Prod.mk.injEq,hI,h5,bA,hw,q0,sR,FX,hh];rfl
      ·exact⟨k+1,by simp only[E8,seval,hI],.inr ⟨by rw[hs];simp,_,by simp only[E8,seval]<;>rfl,(by simp only[E8,seval]<;>omega),(by rw[hs];simp only[E8,seval]<;>rfl)⟩,by omega,rfl⟩
     ·apply Ct ((ol v.O).length-(k+1))
      ·simp only[ZG,seval,Bool.false_and,Prod.mk.injEq,hI,h5,Gl,bA,hw,q0,sR,FX,hh];rfl
      ·exact⟨k+1,by simp only[E8,seval,hI],.inr ⟨by rw[hs];simp,_,by simp only[E8,seval]<;>rfl,(by simp only[E8,seval]<;>omega),(by rw[hs];simp only[E8,seval]<;>rfl)⟩,by omega,rfl⟩
    ·rw[if_neg (by simpa using hh),List.append_nil] at hs
     apply Ct ((ol v.O).length-(k+1))
     ·simp only[ZG,seval,Bool.false_and,Prod.mk.injEq,hI,bA,hw,q0,sR,FX,hh];rfl
     ·exact⟨k+1,by simp only[E8,seval,hI],by rw[hs];simpa only[E8,seval] using h5,by omega,rfl⟩
   ·have Eh:k=(ol v.O).length:=by omega
    rw[Eh] at h5;apply FY (.exit 0)
    ·simp only[ZG,seval,Bool.false_and,Prod.mk.injEq,hI,bA,sR,FX];rfl
    ·exact⟨rfl,by simpa only[E8,seval] using h5,by simp only[E8,seval,hI]⟩
  case start=>exact⟨0,by simp only[E8,seval,eS]<;>rfl,.inl ⟨rfl,by simp only[E8,seval]⟩,by omega,by omega⟩
  case rest =>
   rintro e st ⟨rfl,⟨hy,h5⟩|⟨hy,g,h5,hg,Ae⟩,hI⟩
   ·rw[List.take_length] at hy;rw[show nz ((ol v.O).filter fun b=>decide (x<b.slot))=none from if_pos hy] at hv
    rw[eS] at hI;simp only[ZG,seval,Bool.false_and,Prod.mk.injEq,sR,h5,hI];exact⟨_,fL rfl (by simp only[E8,seval,hI,iX,and_self]<;>rfl) (by simp only[Z8,seval,hI,iX,and_self]<;>rfl) (by simp only[dW,and_self,hI,iX,and_self]),by rw[hv];rfl⟩
   ·rw[List.take_length] at hy Ae;rw[show nz ((ol v.O).filter fun b=>decide (x<b.slot))=some ((ol v.O).filter fun b=>decide (x<b.slot)) from if_neg hy] at hv
    rw[eS] at hI;simp only[ZG,seval,Bool.false_and,Prod.mk.injEq,sR,h5,Ae,hI];exact⟨_,by apply eH;rfl;all_goals simp only[aI,Z8,seval,hI,Ae,iX,bR,gK,bG,cO,uA,dW]<;>rfl,by rw[hv];rfl⟩
 ·have hz:(nz (yK (ol v.T) J.aK))=some (yK (ol v.T) J.aK):=if_neg e1
  rw[show Nn 118 34 aT (yK (ol v.T) J.aK)=.uniq 118 34 (yK (ol v.T) J.aK).length (aT (yK (ol v.T) J.aK)) from if_neg e1] at aBT;have Wt:∀(st:St),aL (aC Tryz.prog) 128 [ov aT v.T,.v (.int .u64 J.aK)] st (some 30)=_:=fun st=>jF (st:=st) (d:=30) (bH hs.fT (.v _)) aBT
  have RW:∀t∈yK (ol v.T) J.aK,Flat t.jN:=fun t m=>(hs.tB t (List.mem_filter.1 m).1).fl
  have hex:=Ns (yK (ol v.T) J.aK).length (yK (ol v.T) J.aK) RW
  by_cases e2:F=s.bM.fin
  ·rw[if_pos e2,hz] at hv;subst e2;simp only[ZG,seval,Bool.false_and,Prod.mk.injEq,sR,FW,eB,hs.tables,Wt,decide_true,decide_false];exact⟨_,by apply eH;rfl;all_goals simp only[aI,Z8,seval,iX,bR,gK,bG,cO,hex]<;>rfl,by rw[hv];rfl⟩
  rw[if_neg e2,hz] at hv;obtain⟨Wu,en⟩:∃Wu,(oQ v.ns (aN v.ns F.root) v.ns.length).1=Wu:=⟨_,rfl⟩
  have Iq:(Wu.length:Int)<1000000:=by have:=Ws (ns:=v.ns) (aN v.ns F.root);have:=hs.nn;rw[← en];omega
  unfold M1 at kp;rw[en] at kp hv;obtain⟨x,ex⟩:∃x,(KW F.aK s.cFg.qS).1=x:=⟨_,rfl⟩
  rw[show (Dw s F.aK).1=x from ex] at hv;by_cases e3:aN Wu s.iI<0
  ·rw[if_pos e3] at hv;obtain⟨S1,eS⟩:∃S1:aO,S1={ cFg:=s.cFg,gG:=s.gG,bM:=⟨J,F⟩,dV:=s.dV,tree:=⟨.sl Wu.length (cD Wu)⟩,now:=s.now,iI:=dL,tables:=.own 30 0 }:=⟨_,rfl⟩
   have hS:∀st:St,st.heap 30 0=some (.row 118 34 (yK (ol v.T) J.aK).length (aT (yK (ol v.T) J.aK)))→fK st (.agg (aB S1))=some (.agg (aB { S1 with tables:=.sl (yK (ol v.T) J.aK).length (aT (yK (ol v.T) J.aK))})):=by
    intro st h;rw[eS];simp only[bR,gK,bG,h,hex,cO,dW,iX,cZ]
   have Wv:∀(st:St) (d:Option Nat),st.heap 30 0=some (.row 118 34 (yK (ol v.T) J.aK).length (aT (yK (ol v.T) J.aK)))→aL (aC Tryz.prog) 99 [.agg (aB S1),.v (.int .u64 F.aK)] st d=some { dst:=d,val:=.eN [.v (.int .u64 (Dw S1 F.aK).1),.v (.bool ((Dw S1 F.aK).2 == 0))]}:=by
    intro st d h;rw[lF,List.map_cons,List.map_cons,List.map_nil,hS st h,Ld,bP,bP,gL];exact p9 (c99 _ F.aK) (by intro x hx;simp only[List.mem_cons,List.not_mem_nil,or_false] at hx;rcases hx with rfl|rfl<;>exact .v _) (.eN _ (bH (.v _) (.v _)))
   simp only[Dw,eS,ex] at Wv
   simp only[ZG,seval,Bool.false_and,Prod.mk.injEq,sR,FW,eB,hs.tables,Wt,decide_true,decide_false,e2,hs.tree,mT _ _ hs.nn,kp,mT _ _ Iq,e3,Wv,hs.bX];have FX:S1.dV.bX=ov aH v.O:=by rw[eS];exact hs.bX
   refine lJ (fun m st=>∃k:Nat,(st.env 3=.ptr 3 0 0∧st.heap 3 0=some (.cells (aB S1))∧st.env 6=.ptr 6 0 0∧st.heap 6 0=some (.cells (aB gQ))∧st.env 11=.v (.int .u64 x)∧st.heap 30 0=some (.row 118 34 (yK (ol v.T) J.aK).length (aT (yK (ol v.T) J.aK)))∧st.env 14=.v (.int .i64 k))∧(((((ol v.O).take k).filter (fun b=>decide (x<b.slot)))=[]∧st.env 13=.v (.slice none 0 0))∨((((ol v.O).take k).filter (fun b=>decide (x<b.slot)))≠[]∧∃g,st.env 13=.own 99 g∧g<st.aP 99∧st.heap 99 g=some (.row 74 238 (((ol v.O).take k).filter (fun b=>decide (x<b.slot))).length (aH (((ol v.O).take k).filter (fun b=>decide (x<b.slot)))))))∧k≤(ol v.O).length∧m=(ol v.O).length-k)
    (fun e st=>e=.exit 0∧(((((ol v.O).take (ol v.O).length).filter (fun b=>decide (x<b.slot)))=[]∧st.env 13=.v (.slice none 0 0))∨((((ol v.O).take (ol v.O).length).filter (fun b=>decide (x<b.slot)))≠[]∧∃g,st.env 13=.own 99 g∧g<st.aP 99∧st.heap 99 g=some (.row 74 238 (((ol v.O).take (ol v.O).length).filter (fun b=>decide (x<b.slot))).length (aH (((ol v.O).take (ol v.O).length).filter (fun b=>decide (x<b.slot)))))))∧st.env 3=.ptr 3 0 0∧st.heap 3 0=some (.cells (aB S1))∧st.env 6=.ptr 6 0 0∧st.heap 6 0=some (.cells (aB gQ))∧st.env 11=.v (.int .u64 x)∧st.heap 30 0=some (.row 118 34 (yK (ol v.T) J.aK).length (aT (yK (ol v.T) J.aK)))) ((ol v.O).length) ?step ?start ?rest
   case step =>
    rintro m st ⟨k,hI,h5,hk,hm⟩
    have Gl:(((((ol v.O).take k).filter (fun b=>decide (x<b.slot))).length:Nat):Int)<1000000:=by have:=List.length_filter_le (fun b=>decide (x<b.slot)) ((ol v.O).take k);have h2:=List.length_take_le' k (ol v.O);omega
    by_cases bA:(k:Int)<(ol v.O).length
    ·have q0:(0:Int)≤k:=by omega
     have hw:IntKind.i64.wrap ((k:Int)+1)=((k+1:Nat):Int):=by rw[pR _ (by omega) (by omega)];omega
     have hs:=yJ fC (fun b=>decide (x<b.slot)) (ol v.O) k (by omega)
     by_cases hh:x<(gx fC (ol v.O) (k:Int)).slot
     ·rw[if_pos (decide_eq_true hh)] at hs;rcases h5 with ⟨hy,h5⟩|⟨hy,g,h5⟩
      ·rw[hy] at hs;apply Ct ((ol v.O).length-(k+1))
       ·simp only[ZG,seval,Bool.false_and,Prod.mk.injEq,hI,h5,bA,hw,q0,sR,FX,hh];rfl
       ·exact⟨k+1,by simp only[E8,seval,hI],.inr ⟨by rw[hs];simp,_,by simp only[E8,seval]<;>rfl,(by simp only[E8,seval]<;>omega),(by rw[hs];simp only[E8,seval]<;>rfl)⟩,by omega,rfl⟩
      ·apply Ct ((ol v.O).length-(k+1))
       ·simp only[ZG,seval,Bool.false_and,Prod.mk.injEq,hI,h5,Gl,bA,hw,q0,sR,FX,hh];rfl
       ·exact⟨k+1,by simp only[E8,seval,hI],.inr ⟨by rw[hs];simp,_,by simp only[E8,seval]<;>rfl,(by simp only[E8,seval]<;>omega),(by rw[hs];simp only[E8,seval]<;>rfl)⟩,by omega,rfl⟩
     ·rw[if_neg (by simpa using hh),List.append_nil] at hs
      apply Ct ((ol v.O).length-(k+1))
      ·simp only[ZG,seval,Bool.false_and,Prod.mk.injEq,hI,bA,hw,q0,sR,FX,hh];rfl
      ·exact⟨k+1,by simp only[E8,seval,hI],by rw[hs];simpa only[E8,seval] using h5,by omega,rfl⟩
    ·have Eh:k=(ol v.O).length:=by omega
     rw[Eh] at h5;apply FY (.exit 0)
     ·simp only[ZG,seval,Bool.false_and,Prod.mk.injEq,hI,bA,sR,FX];rfl
     ·exact⟨rfl,by simpa only[E8,seval] using h5,by simp only[E8,seval,hI]⟩
   case start=>exact⟨0,by simp only[E8,seval,eS]<;>rfl,.inl ⟨rfl,by simp only[E8,seval]⟩,by omega,by omega⟩
   case rest =>
    rintro e st ⟨rfl,⟨hy,h5⟩|⟨hy,g,h5,hg,Ae⟩,hI⟩
    ·rw[List.take_length] at hy;rw[show nz ((ol v.O).filter fun b=>decide (x<b.slot))=none from if_pos hy] at hv
     rw[eS] at hI;simp only[ZG,seval,Bool.false_and,Prod.mk.injEq,sR,h5,hI];exact⟨_,by apply eH;rfl;all_goals simp only[aI,Z8,seval,hI,iX,bR,gK,bG,cO,uA,dW,hex]<;>rfl,by rw[hv];rfl⟩
    ·rw[List.take_length] at hy Ae;rw[show nz ((ol v.O).filter fun b=>decide (x<b.slot))=some ((ol v.O).filter fun b=>decide (x<b.slot)) from if_neg hy] at hv
     rw[eS] at hI;simp only[ZG,seval,Bool.false_and,Prod.mk.injEq,sR,h5,Ae,hI];exact⟨_,by apply eH;rfl;all_goals simp only[aI,Z8,seval,hI,Ae,iX,bR,gK,bG,cO,uA,dW,hex]<;>rfl,by rw[hv];rfl⟩
  rw[if_neg e3] at hv;obtain⟨S1,eS⟩:∃S1:aO,S1={ cFg:=s.cFg,gG:=s.gG,bM:=⟨J,F⟩,dV:=s.dV,tree:=⟨.sl Wu.length (cD Wu)⟩,now:=s.now,iI:=s.iI,tables:=.own 30 0 }:=⟨_,rfl⟩
  have hS:∀st:St,st.heap 30 0=some (.row 118 34 (yK (ol v.T) J.aK).length (aT (yK (ol v.T) J.aK)))→fK st (.agg (aB S1))=some (.agg (aB { S1 with tables:=.sl (yK (ol v.T) J.aK).length (aT (yK (ol v.T) J.aK))})):=by
   intro st h;rw[eS];simp only[bR,gK,bG,h,hex,cO,dW,iX,cZ]
  have Wv:∀(st:St) (d:Option Nat),st.heap 30 0=some (.row 118 34 (yK (ol v.T) J.aK).length (aT (yK (ol v.T) J.aK)))→aL (aC Tryz.prog) 99 [.agg (aB S1),.v (.int .u64 F.aK)] st d=some { dst:=d,val:=.eN [.v (.int .u64 (Dw S1 F.aK).1),.v (.bool ((Dw S1 F.aK).2 == 0))]}:=by
   intro st d h;rw[lF,List.map_cons,List.map_cons,List.map_nil,hS st h,Ld,bP,bP,gL];exact p9 (c99 _ F.aK) (by intro x hx;simp only[List.mem_cons,List.not_mem_nil,or_false] at hx;rcases hx with rfl|rfl<;>exact .v _) (.eN _ (bH (.v _) (.v _)))
  simp only[Dw,eS,ex] at Wv
  simp only[ZG,seval,Bool.false_and,Prod.mk.injEq,sR,FW,eB,hs.tables,Wt,decide_true,decide_false,e2,hs.tree,mT _ _ hs.nn,kp,mT _ _ Iq,e3,Wv,hs.bX];have FX:S1.dV.bX=ov aH v.O:=by rw[eS];exact hs.bX
  refine lJ (fun m st=>∃k:Nat,(st.env 3=.ptr 3 0 0∧st.heap 3 0=some (.cells (aB S1))∧st.env 6=.ptr 6 0 0∧st.heap 6 0=some (.cells (aB gQ))∧st.env 11=.v (.int .u64 x)∧st.heap 30 0=some (.row 118 34 (yK (ol v.T) J.aK).length (aT (yK (ol v.T) J.aK)))∧st.env 14=.v (.int .i64 k))∧(((((ol v.O).take k).filter (fun b=>decide (x<b.slot)))=[]∧st.env 13=.v (.slice none 0 0))∨((((ol v.O).take k).filter (fun b=>decide (x<b.slot)))≠[]∧∃g,st.env 13=.own 99 g∧g<st.aP 99∧st.heap 99 g=some (.row 74 238 (((ol v.O).take k).filter (fun b=>decide (x<b.slot))).length (aH (((ol v.O).take k).filter (fun b=>decide (x<b.slot)))))))∧k≤(ol v.O).length∧m=(ol v.O).length-k)
   (fun e st=>e=.exit 0∧(((((ol v.O).take (ol v.O).length).filter (fun b=>decide (x<b.slot)))=[]∧st.env 13=.v (.slice none 0 0))∨((((ol v.O).take (ol v.O).length).filter (fun b=>decide (x<b.slot)))≠[]∧∃g,st.env 13=.own 99 g∧g<st.aP 99∧st.heap 99 g=some (.row 74 238 (((ol v.O).take (ol v.O).length).filter (fun b=>decide (x<b.slot))).length (aH (((ol v.O).take (ol v.O).length).filter (fun b=>decide (x<b.slot)))))))∧st.env 3=.ptr 3 0 0∧st.heap 3 0=some (.cells (aB S1))∧st.env 6=.ptr 6 0 0∧st.heap 6 0=some (.cells (aB gQ))∧st.env 11=.v (.int .u64 x)∧st.heap 30 0=some (.row 118 34 (yK (ol v.T) J.aK).length (aT (yK (ol v.T) J.aK)))) ((ol v.O).length) ?step ?start ?rest
  case step =>
   rintro m st ⟨k,hI,h5,hk,hm⟩
   have Gl:(((((ol v.O).take k).filter (fun b=>decide (x<b.slot))).length:Nat):Int)<1000000:=by have:=List.length_filter_le (fun b=>decide (x<b.slot)) ((ol v.O).take k);have h2:=List.length_take_le' k (ol v.O);omega
   by_cases bA:(k:Int)<(ol v.O).length
   ·have q0:(0:Int)≤k:=by omega
    have hw:IntKind.i64.wrap ((k:Int)+1)=((k+1:Nat):Int):=by rw[pR _ (by omega) (by omega)];omega
    have hs:=yJ fC (fun b=>decide (x<b.slot)) (ol v.O) k (by omega)
    by_cases hh:x<(gx fC (ol v.O) (k:Int)).slot
    ·rw[if_pos (decide_eq_true hh)] at hs;rcases h5 with ⟨hy,h5⟩|⟨hy,g,h5⟩
     ·rw[hy] at hs;apply Ct ((ol v.O).length-(k+1))
      ·simp only[ZG,seval,Bool.false_and,Prod.mk.injEq,hI,h5,bA,hw,q0,sR,FX,hh];rfl
      ·exact⟨k+1,by simp only[E8,seval,hI],.inr ⟨by rw[hs];simp,_,by simp only[E8,seval]<;>rfl,(by simp only[E8,seval]<;>omega),(by rw[hs];simp only[E8,seval]<;>rfl)⟩,by omega,rfl⟩
     ·apply Ct ((ol v.O).length-(k+1))
      ·simp only[ZG,seval,Bool.false_and,Prod.mk.injEq,hI,h5,Gl,bA,hw,q0,sR,FX,hh];rfl
      ·exact⟨k+1,by simp only[E8,seval,hI],.inr ⟨by rw[hs];simp,_,by simp only[E8,seval]<;>rfl,(by simp only[E8,seval]<;>omega),(by rw[hs];simp only[E8,seval]<;>rfl)⟩,by omega,rfl⟩
    ·rw[if_neg (by simpa using hh),List.append_nil] at hs
     apply Ct ((ol v.O).length-(k+1))
     ·simp only[ZG,seval,Bool.false_and,Prod.mk.injEq,hI,bA,hw,q0,sR,FX,hh];rfl
     ·exact⟨k+1,by simp only[E8,seval,hI],by rw[hs];simpa only[E8,seval] using h5,by omega,rfl⟩
   ·have Eh:k=(ol v.O).length:=by omega
    rw[Eh] at h5;apply FY (.exit 0)
    ·simp only[ZG,seval,Bool.false_and,Prod.mk.injEq,hI,bA,sR,FX];rfl
    ·exact⟨rfl,by simpa only[E8,seval] using h5,by simp only[E8,seval,hI]⟩
  case start=>exact⟨0,by simp only[E8,seval,eS]<;>rfl,.inl ⟨rfl,by simp only[E8,seval]⟩,by omega,by omega⟩
  case rest =>
   rintro e st ⟨rfl,⟨hy,h5⟩|⟨hy,g,h5,hg,Ae⟩,hI⟩
   ·rw[List.take_length] at hy;rw[show nz ((ol v.O).filter fun b=>decide (x<b.slot))=none from if_pos hy] at hv
    rw[eS] at hI;simp only[ZG,seval,Bool.false_and,Prod.mk.injEq,sR,h5,hI];exact⟨_,by apply eH;rfl;all_goals simp only[aI,Z8,seval,hI,iX,bR,gK,bG,cO,uA,dW,hex]<;>rfl,by rw[hv];rfl⟩
   ·rw[List.take_length] at hy Ae;rw[show nz ((ol v.O).filter fun b=>decide (x<b.slot))=some ((ol v.O).filter fun b=>decide (x<b.slot)) from if_neg hy] at hv
    rw[eS] at hI;simp only[ZG,seval,Bool.false_and,Prod.mk.injEq,sR,h5,Ae,hI];exact⟨_,by apply eH;rfl;all_goals simp only[aI,Z8,seval,hI,Ae,iX,bR,gK,bG,cO,uA,dW,hex]<;>rfl,by rw[hv];rfl⟩
theorem k61 {s:aO} {v:SV} (hs:SD s v) (hu:iD v.ns) (hp:s.cFg.qS≠0) (c1 c2:fS) (st:St) (d:Option Nat):aL (aC Tryz.prog) 61 [.agg (aB s),.agg (bY c1),.agg (bY c2)] st d=some { dst:=d,val:=.agg (aB (xD s v c1 c2))}:=bK (nD hs.flat (.agg _ (dC c1)) (.agg _ (dC c2))) (c61 hs hu hp c1 c2) (hs.dK hu c1 c2).flat
end Go.Ab.Tryz
