/-
  Part 11 of the proof: an evaluator of programs, its soundness, and what functions of this program compute.
-/
import Derived.Test.YtmcjkemalibacaaGreatK10
import Derived.Test.YtmcjkemalibacaaGreatK9
set_option linter.all false
set_option maxRecDepth 20000
set_option maxHeartbeats 40000000
namespace Go.Ab.Tryz
open Classical Go.Proofs Go.Ab
theorem Cq (s:Config):Flat (.agg (bV s))↔Flat s.jP:=by
 constructor
 ·intro h;have h:∀x∈bV s,Flat x:=by cases h with|agg _ h=>exact h
  exact h _ (List.mem_of_getElem? (zH s))
 ·intro h0;exact .agg _ (uD s h0)
theorem Nh (s:uZ):Flat (.agg (fB s))↔Flat s.dT∧Flat s.gX:=by
 constructor
 ·intro h;have h:∀x∈fB s,Flat x:=by cases h with|agg _ h=>exact h
  exact⟨h _ (List.mem_of_getElem? (vM s)),h _ (List.mem_of_getElem? (xJ s))⟩
 ·rintro⟨h0,h1⟩
  exact .agg _ (qV s h0 h1)
theorem EF (s:zI):Flat (.agg (jY s))↔Flat s.early∧Flat s.bW:=by
 constructor
 ·intro h;have h:∀x∈jY s,Flat x:=by cases h with|agg _ h=>exact h
  exact⟨h _ (List.mem_of_getElem? (vN s)),h _ (List.mem_of_getElem? (tE s))⟩
 ·rintro⟨h0,h1⟩
  exact .agg _ (Ni s h0 h1)
theorem MH (s:Fo):Flat (.agg (mW s))↔Flat s.nodes:=by
 constructor
 ·intro h;have h:∀x∈mW s,Flat x:=by cases h with|agg _ h=>exact h
  exact h _ (List.mem_of_getElem? (xK s))
 ·intro h0;exact .agg _ (wT s h0)
theorem Gx (s:aM):Flat (.agg (aB s))↔Flat s.cFg.jP∧Flat s.gG.dT∧Flat s.gG.gX∧Flat s.dV.early∧Flat s.dV.bW∧Flat s.tree.nodes∧Flat s.tables:=by
 constructor
 ·intro h;have h:∀x∈aB s,Flat x:=by cases h with|agg _ h=>exact h
  exact⟨h _ (List.mem_of_getElem? (qW s)),h _ (List.mem_of_getElem? (pC s)),h _ (List.mem_of_getElem? (qB s)),h _ (List.mem_of_getElem? (pD s)),h _ (List.mem_of_getElem? (nN s)),h _ (List.mem_of_getElem? (qY s)),h _ (List.mem_of_getElem? (vO s))⟩
 ·rintro⟨h0,h1,h2,h3,h4,h5,h6⟩
  exact .agg _ (Sw s h0 h1 h2 h3 h4 h5 h6)
theorem oF (s:State):Flat (.agg (aE s))↔Flat s.store.cFg.jP∧Flat s.store.gG.dT∧Flat s.store.gG.gX∧Flat s.store.dV.early∧Flat s.store.dV.bW∧Flat s.store.tree.nodes∧Flat s.store.tables∧Flat s.eK∧Flat s.jM:=by
 constructor
 ·intro h;have h:∀x∈aE s,Flat x:=by cases h with|agg _ h=>exact h
  exact⟨h _ (List.mem_of_getElem? (qZ s)),h _ (List.mem_of_getElem? (pP s)),h _ (List.mem_of_getElem? (qM s)),h _ (List.mem_of_getElem? (pQ s)),h _ (List.mem_of_getElem? (oG s)),h _ (List.mem_of_getElem? (rA s)),h _ (List.mem_of_getElem? (uF s)),h _ (List.mem_of_getElem? (zJ s)),h _ (List.mem_of_getElem? (Ay s))⟩
 ·rintro⟨h0,h1,h2,h3,h4,h5,h6,h7,h8⟩
  exact .agg _ (MI s h0 h1 h2 h3 h4 h5 h6 h7 h8)
theorem zK (s:sJ):Flat (.agg (hU s))↔Flat s.eW:=by
 constructor
 ·intro h;have h:∀x∈hU s,Flat x:=by cases h with|agg _ h=>exact h
  exact h _ (List.mem_of_getElem? (Ei s))
 ·intro h0;exact .agg _ (Qi s h0)
theorem zL (s:Claim):Flat (.agg (gO s))↔Flat s.eW:=by
 constructor
 ·intro h;have h:∀x∈gO s,Flat x:=by cases h with|agg _ h=>exact h
  exact h _ (List.mem_of_getElem? (uG s))
 ·intro h0;exact .agg _ (Gy s h0)
theorem nF (s:fW):Flat (.agg (cA s))↔Flat s.first.eW∧Flat s.second.eW:=by
 constructor
 ·intro h;have h:∀x∈cA s,Flat x:=by cases h with|agg _ h=>exact h
  exact⟨h _ (List.mem_of_getElem? (oH s)),h _ (List.mem_of_getElem? (nP s))⟩
 ·rintro⟨h0,h1⟩
  exact .agg _ (Gz s h0 h1)
theorem kM (s:Table):Flat (.agg (cI s))↔Flat s.jP:=by
 constructor
 ·intro h;have h:∀x∈cI s,Flat x:=by cases h with|agg _ h=>exact h
  exact h _ (List.mem_of_getElem? (Bw s))
 ·intro h0;exact .agg _ (Ha s h0)
theorem TX (s:xH):Flat (.agg (lC s))↔Flat s.Gb.eW∧Flat s.oU.first.eW∧Flat s.oU.second.eW∧Flat s.table.jP:=by
 constructor
 ·intro h;have h:∀x∈lC s,Flat x:=by cases h with|agg _ h=>exact h
  exact⟨h _ (List.mem_of_getElem? (Cr s)),h _ (List.mem_of_getElem? (sM s)),h _ (List.mem_of_getElem? (sA s)),h _ (List.mem_of_getElem? (Az s))⟩
 ·rintro⟨h0,h1,h2,h3⟩
  exact .agg _ (C3 s h0 h1 h2 h3)
theorem aGU (x:Value):Flat (.v x)=True:=eq_true (.v x)
theorem MJ (o:Option (List Int)):Flat (ov bF o)=True:=eq_true (dU o)
theorem MK (o:Option (List Int)):Flat (ov aJ o)=True:=eq_true (bQ o)
theorem EG (o:Option (List kS)):Flat (ov cO o)=True:=eq_true (rC o)
theorem Wt (o:Option (List Block)):Flat (ov aH o)=True:=eq_true (Ej o)
theorem Nj (o:Option (List Request)):Flat (ov aA o)=True:=eq_true (dI o)
theorem ML (n:Nat) (o:List Int):Flat (.sl n (bF o))=True:=eq_true (.sl _ _ (iC o))
theorem MM (n:Nat) (o:List Int):Flat (.sl n (aJ o))=True:=eq_true (.sl _ _ (gD o))
theorem EH (n:Nat) (o:List kS):Flat (.sl n (cO o))=True:=eq_true (.sl _ _ (nG o))
theorem Wu (n:Nat) (o:List Block):Flat (.sl n (aH o))=True:=eq_true (.sl _ _ (pE o))
theorem Nk (n:Nat) (o:List Request):Flat (.sl n (aA o))=True:=eq_true (.sl _ _ (iX o))
theorem EI (n:Nat) (o:List Node):Flat (.sl n (cF o))=True:=eq_true (.sl _ _ (kH o))
theorem YZ (r:cK):Flat (.agg (aX r))=True:=eq_true (qT r)
theorem MN (r:Block):Flat (.agg (aT r))=True:=eq_true (uY r)
theorem ZA (r:rT):Flat (.agg (gE r))=True:=eq_true (.agg _ (iO r))
theorem Ba (r:fV):Flat (.agg (bZ r))=True:=eq_true (.agg _ (dD r))
theorem P9 (r:Request):Flat (.agg (bU r))=True:=eq_true (.agg _ (jS r))
theorem Wv (r:gQ):Flat (.agg (dG r))=True:=eq_true (.agg _ (jT r))
theorem EJ (r:pF):Flat (.agg (fK r))=True:=eq_true (.agg _ (Ek r))
theorem MO (x:AV):Flat (.agg [x])↔Flat x:=by
 constructor
 ·intro h;cases h with|agg _ h=>exact h x (by simp)
 ·intro h;exact .agg _ (by simpa using h)
theorem dW:(type_of% aGU)∧(type_of% MJ)∧(type_of% MK)∧(type_of% EG)∧(type_of% Wt)∧(type_of% Nj)∧(type_of% ML)∧(type_of% MM)∧(type_of% EH)∧(type_of% Wu)∧(type_of% Nk)∧(type_of% EI)∧(type_of% YZ)∧(type_of% MN)∧(type_of% ZA)∧(type_of% Ba)∧(type_of% P9)∧(type_of% Wv)∧(type_of% EJ)∧(type_of% MO)∧(type_of% Cq)∧(type_of% Nh)∧(type_of% EF)∧(type_of% MH)∧(type_of% Gx)∧(type_of% oF)∧(type_of% zK)∧(type_of% zL)∧(type_of% nF)∧(type_of% kM)∧(type_of% TX) :=
 ⟨aGU,MJ,MK,EG,Wt,Nj,ML,MM,EH,Wu,Nk,EI,YZ,MN,ZA,Ba,P9,Wv,EJ,MO,Cq,Nh,EF,MH,Gx,oF,zK,zL,nF,kM,TX⟩
structure SV where
 B:Option (List Int)
 L:Option (List kS)
 Q:Option (List Int)
 E:Option (List sJ)
 O:Option (List Block)
 T:Option (List Table)
 ns:List Node
def Cs (a:sJ):Prop:=∃V:Option (List Int),a.eW=ov aJ V∧((ol V).length:Int)<1000000
def sN (t:Table):Prop:=∃b:Option (List Int),t.jP=ov bF b∧((ol b).length:Int)<1000000
structure SD (s:aM) (v:SV):Prop where
 jP:s.cFg.jP=ov bF v.B
 dT:s.gG.dT=ov cO v.L
 gX:s.gG.gX=ov aJ v.Q
 early:s.dV.early=ov dH v.E
 bW:s.dV.bW=ov aH v.O
 tree:s.tree=⟨.sl v.ns.length (cF v.ns)⟩
 tables:s.tables=ov aR v.T
 eV:∀a∈ol v.E,Cs a
 tB:∀t∈ol v.T,sN t
 nB:((ol v.B).length:Int)<1000000
 nL:((ol v.L).length:Int)<1000000
 nQ:((ol v.Q).length:Int)<1000000
 nE:((ol v.E).length:Int)<1000000
 nO:((ol v.O).length:Int)<1000000
 nT:((ol v.T).length:Int)<1000000
 nn:(v.ns.length:Int)<1000000
theorem Cs.fl {a:sJ} (h:Cs a):Flat a.eW:=by obtain⟨V,h,_⟩:=h;rw[h];exact bQ V
theorem sN.fl {a:Table} (h:sN a):Flat a.jP:=by obtain⟨V,h,_⟩:=h;rw[h];exact dU V
theorem SD.fE {s:aM} {v:SV} (h:SD s v):Flat (ov dH v.E):=Ww v.E fun a ha=>(h.eV a ha).fl
theorem SD.fT {s:aM} {v:SV} (h:SD s v):Flat (ov aR v.T):=lW v.T fun a ha=>(h.tB a ha).fl
theorem SD.flat {s:aM} {v:SV} (h:SD s v):Flat (.agg (aB s)):=by
 rw[Gx,h.jP,h.dT,h.gX,h.early,h.bW,h.tree,h.tables];exact⟨dU _,rC _,bQ _,h.fE,Ej _,.sl _ _ (kH _),h.fT⟩
theorem c97 {s:aM} {v:SV} (hs:SD s v):aD Tryz.prog 97 [.agg (aB s)]=some (.v (.int .i64 (ol v.B).length)):=by
 rw[cL Tryz.func97 rfl aQu rfl];simp only[Z8,seval,hs.jP];exact bX rfl (by simp only[E8,seval]<;>rfl) (.v _)
theorem Wx {s:aM} {v:SV} (hs:SD s v) (st:St) (d:Option Nat):aN (aD Tryz.prog) 97 [.agg (aB s)] st d=some { dst:=d,val:=.v (.int .i64 (ol v.B).length)}:=bL (cP hs.flat) (c97 hs) (.v _)
noncomputable def Dw (s:aM) (x:Int):Int:=IntKind.u64.wrap (x.tdiv s.cFg.rD)
theorem c98 (s:aM) (h:s.cFg.rD≠0) (x:Int):aD Tryz.prog 98 [.agg (aB s),.v (.int .u64 x)]=some (.v (.int .u64 (Dw s x))):=by
 rw[cL Tryz.func98 rfl aQv rfl];have h0:(s.cFg.rD=0)=False:=eq_false h
 simp only[Z8,seval,h0];exact bX rfl (by simp only[E8,seval,Dw]<;>rfl) (.v _)
theorem Mo (s:aM) (h:s.cFg.rD≠0) (hf:Flat (.agg (aB s))) (x:Int) (st:St) (d:Option Nat):aN (aD Tryz.prog) 98 [.agg (aB s),.v (.int .u64 x)] st d=some { dst:=d,val:=.v (.int .u64 (Dw s x))}:=bL (bI hf (.v _)) (c98 s h x) (.v _)
noncomputable def Dx (s:aM) (e:Int):Int × Int:=LO e s.cFg.rD
theorem c99 (s:aM) (x:Int):aD Tryz.prog 99 [.agg (aB s),.v (.int .u64 x)]=some (.dZ [.v (.int .u64 (Dx s x).1),.v (.bool ((Dx s x).2 == 0))]):=by
 rw[cL Tryz.func99 rfl aQx rfl];simp only[Z8,seval,aPY,eC];exact dP rfl rfl rfl (by simp only[E8,seval,Dx]<;>rfl) (by simp only[E8,seval,Dx]<;>rfl)
theorem Vf (s:aM) (hf:Flat (.agg (aB s))) (x:Int) (st:St) (d:Option Nat):aN (aD Tryz.prog) 99 [.agg (aB s),.v (.int .u64 x)] st d=some { dst:=d,val:=.dZ [.v (.int .u64 (Dx s x).1),.v (.bool ((Dx s x).2 == 0))]}:=bL (bI hf (.v _)) (c99 s x) (.dZ _ (bI (.v _) (.v _)))
theorem aQy {s:aM} {v:SV} (hs:SD s v) (i:Int):aD Tryz.prog 251 [.agg (aB s),.v (.int .i64 i)]=some (.v (.bool (decide (0≤i) && decide (i<v.ns.length)))):=by
 rw[cL Tryz.func251 rfl aLg rfl];by_cases h:0≤i
 all_goals
  simp only[Z8,seval,h,hs.tree,decide_true,decide_false,Bool.true_and,Bool.false_and];exact bX rfl (by simp only[E8,seval,h,decide_true,decide_false,Bool.true_and,Bool.false_and]<;>rfl) (.v _)
theorem Wy {s:aM} {v:SV} (hs:SD s v) (i:Int) (st:St) (d:Option Nat):aN (aD Tryz.prog) 251 [.agg (aB s),.v (.int .i64 i)] st d=some { dst:=d,val:=.v (.bool (decide (0≤i) && decide (i<v.ns.length)))}:=bL (bI hs.flat (.v _)) (aQy hs i) (.v _)
def Q0 (s:aM) (b:Block):Prop:=b.fin.aK≤b.gY.aK∧b.gY.aK≤b.dQ.pj.aK∧b.fin.aK≤b.dQ.pf.aK∧b.dQ.pf.aK≤b.dQ.pj.aK∧b.dQ.pj.aK≤Dw s b.slot
theorem aQz (s:aM) (h:s.cFg.rD≠0) (hf:Flat (.agg (aB s))) (b:Block):aD Tryz.prog 137 [.agg (aB s),.agg (aT b)]=some (.v (.bool (decide (Q0 s b)))):=by
 rw[cL Tryz.func137 rfl aLh rfl];have h98:=Mo s h hf
 unfold Q0;by_cases h1:b.fin.aK≤b.gY.aK
 ·by_cases h2:b.gY.aK≤b.dQ.pj.aK
  ·by_cases h3:b.fin.aK≤b.dQ.pf.aK
   ·by_cases h4:b.dQ.pf.aK≤b.dQ.pj.aK
    ·simp only[*,true_and,false_and,and_true,and_false,decide_true,decide_false];simp only[Z8,seval, *];exact bX rfl (by simp only[E8,seval, *]<;>rfl) (.v _)
    ·simp only[*,true_and,false_and,and_true,and_false,decide_true,decide_false];simp only[Z8,seval, *];exact bX rfl (by simp only[E8,seval, *]<;>rfl) (.v _)
   ·simp only[*,true_and,false_and,and_true,and_false,decide_true,decide_false];simp only[Z8,seval, *];exact bX rfl (by simp only[E8,seval, *]<;>rfl) (.v _)
  ·simp only[*,true_and,false_and,and_true,and_false,decide_true,decide_false];simp only[Z8,seval, *];exact bX rfl (by simp only[E8,seval, *]<;>rfl) (.v _)
 ·simp only[*,true_and,false_and,and_true,and_false,decide_true,decide_false];simp only[Z8,seval, *];exact bX rfl (by simp only[E8,seval, *]<;>rfl) (.v _)
theorem aLi (s:aM) (h:s.cFg.rD≠0) (hf:Flat (.agg (aB s))) (b:Block) (st:St) (d:Option Nat):aN (aD Tryz.prog) 137 [.agg (aB s),.agg (aT b)] st d=some { dst:=d,val:=.v (.bool (decide (Q0 s b)))}:=bL (bI hf (uY _)) (aQz s h hf b) (.v _)
noncomputable def TY (s:aM) (ns:List Node) (i e:Int):Prop:=(Dx s e).2≠0∨(nd ns i).block.slot≤(Dx s e).1
theorem aQA {s:aM} {v:SV} (hs:SD s v) (i e:Int) (i0:0≤i) (i1:i<v.ns.length):aD Tryz.prog 122 [.agg (aB s),.v (.int .i64 i),.v (.int .u64 e)]=some (.v (.bool (decide (TY s v.ns i e)))):=by
 rw[cL Tryz.func122 rfl aLj rfl];unfold TY;by_cases h:(Dx s e).2=0
 ·have hq:((Dx s e).2 == 0)=true:=by simp[h]
  simp only[h,ne_eq,not_true_eq_false,false_or];simp only[Z8,seval,Vf s hs.flat,eC,hq,hs.tree,i0,i1];exact bX rfl (by simp only[E8,seval]<;>rfl) (.v _)
 ·have hq:((Dx s e).2 == 0)=false:=by simp[h]
  simp only[h,ne_eq,not_false_eq_true,true_or,decide_true];simp only[Z8,seval,Vf s hs.flat,eC,hq,hs.tree,i0,i1];exact bX rfl (by simp only[E8,seval]<;>rfl) (.v _)
theorem aLk {s:aM} {v:SV} (hs:SD s v) (i e:Int) (i0:0≤i) (i1:i<v.ns.length) (st:St) (d:Option Nat):aN (aD Tryz.prog) 122 [.agg (aB s),.v (.int .i64 i),.v (.int .u64 e)] st d=some { dst:=d,val:=.v (.bool (decide (TY s v.ns i e)))}:=bL (oE hs.flat (.v _) (.v _)) (aQA hs i e i0 i1) (.v _)
theorem pM (x:Int) (h1:-9223372036854775808≤x) (h2:x≤9223372036854775807):IntKind.i64.wrap x=x:=wrap_i64 x h1 h2
theorem tQ {α:Type} (z:α) (p:α→Bool) (l:List α) (k:Nat) (h:k<l.length):(l.take (k+1)).filter p=(l.take k).filter p++if p (gx z l k)=true then [gx z l k] else []:=by
 have hg:gx z l k=l[k]:=by simp[gx,h]
 rw[List.take_succ_eq_append_getElem h,List.filter_append,hg];congr 1
 by_cases hp:p l[k]=true<;>simp[hp]
noncomputable def Jj (p:Nat→Prop):Nat→Int
 | 0=>-1
 | k+1=>if 0≤Jj p k then Jj p k else if p k then k else -1
theorem yO {p:Nat→Prop}:∀n:Nat,(∀j,j<n→¬p j)→Jj p n=-1
 | 0,_=>rfl
 | n+1,h=>by
   simp only[Jj];rw[yO n fun j hj=>h j (by omega),if_neg (by omega),if_neg (h n (by omega))]
theorem Nl {p:Nat→Prop} {k:Nat} (hk:p k) (hj:∀j,j<k→¬p j):∀n:Nat,k<n→Jj p n=k
 | 0,h=>by omega
 | n+1,h=>by
   simp only[Jj];by_cases Dv:k=n
   ·subst Dv;rw[yO k hj,if_neg (by omega),if_pos hk]
   ·rw[Nl hk hj n (by omega),if_pos (by omega)]
theorem El (p:Nat→Prop) (n:Nat):(Jj p n=-1∧∀j,j<n→¬p j)∨∃k:Nat,k<n∧p k∧(∀j,j<k→¬p j)∧Jj p n=k:=by
 by_cases h:∃k,k<n∧p k
 ·obtain⟨k,⟨hk,hp⟩,hm⟩:=Em h
  have hj:∀j,j<k→¬p j:=fun j hj hpj=>by have:=hm j ⟨by omega,hpj⟩;omega
  exact .inr ⟨k,hk,hp,hj,Nl hp hj n hk⟩
 ·have h':∀j,j<n→¬p j:=fun j hj hp=>h ⟨j,hj,hp⟩
  exact .inl ⟨yO n h',h'⟩
theorem TZ (p:Nat→Prop) (n:Nat):-1≤Jj p n∧Jj p n<n:=by
 rcases El p n with ⟨h,_⟩|⟨k,hk,_,_,h⟩<;>rw[h]<;>omega
noncomputable def N4 (l:List Table) (c:fV):Int:=Jj (fun k=>(gx iY l k).ck=c) l.length
theorem c65 (o:Option (List Table)) (hn:((ol o).length:Int)<1000000) (c:fV):aD Tryz.prog 65 [ov aR o,.agg (bZ c)]=some (.v (.int .i64 (N4 (ol o) c))):=by
 rw[cL Tryz.func65 rfl aQB (by cases o<;>rfl)]
 simp only[Z8,seval];refine lV (fun m st=>∃k:Nat,(st.env 0=ov aR o∧st.env 3=.ptr 3 0 0∧st.heap 3 0=some (.cells (bZ c))∧st.env 5=.v (.int .i64 k))∧(∀j:Nat,j<k→¬((gx iY (ol o) (j:Int)).ck=c))∧k≤(ol o).length∧m=(ol o).length-k)
  (fun e st=>(e=.ret∧∃k:Nat,k<(ol o).length∧((gx iY (ol o) (k:Int)).ck=c)∧(∀j:Nat,j<k→¬((gx iY (ol o) (j:Int)).ck=c))∧st.env 4=.v (.int .i64 (k:Nat)))∨(e=.exit 0∧(∀j:Nat,j<(ol o).length→¬((gx iY (ol o) (j:Int)).ck=c))∧st.env 0=ov aR o∧st.env 3=.ptr 3 0 0∧st.heap 3 0=some (.cells (bZ c)))) ((ol o).length) ?step ?start ?rest
 case step =>
  rintro m st ⟨k,hI,hj,hk,hm⟩
  by_cases aZ:(k:Int)<(ol o).length
  ·have q0:(0:Int)≤k:=by omega
   have hw:IntKind.i64.wrap ((k:Int)+1)=((k+1:Nat):Int):=by rw[pM _ (by omega) (by omega)];omega
   by_cases hh:(gx iY (ol o) (k:Int)).ck=c
   ·apply oT (.ret)
    ·simp only[Z8,seval,hI,aZ,q0,hh];rfl
    ·exact .inl ⟨rfl,k,by omega,hh,hj,by simp only[E8,seval]⟩
   ·apply oN ((ol o).length-(k+1))
    ·simp only[Z8,seval,hI,aZ,q0,hh,hw];rfl
    ·exact⟨k+1,by simp only[E8,seval,hI],fun j h=>(Nat.lt_succ_iff_lt_or_eq.1 h).elim (hj j) fun e=>by subst e;exact hh,by omega,rfl⟩
  ·apply oT (.exit 0)
   ·simp only[Z8,seval,hI,aZ];rfl
   ·exact .inr ⟨rfl,fun j h=>hj j (by omega),by simp only[E8,seval,hI]⟩
 case start=>exact⟨0,by simp only[E8,seval]<;>rfl,fun j h=>by omega,by omega,by omega⟩
 case rest =>
  rintro e st (⟨rfl,k,hk,hh,hj,h⟩|⟨rfl,hj,h⟩)
  ·have hv:N4 (ol o) c=k:=Nl hh hj _ hk
   simp only[Z8,seval];exact bX rfl (by simp only[E8,seval,h,hv]<;>rfl) (.v _)
  ·have hv:N4 (ol o) c=-1:=yO _ hj
   simp only[Z8,seval];exact bX rfl (by simp only[E8,seval,h,hv]<;>rfl) (.v _)
theorem ZB (o:Option (List Table)) (hn:((ol o).length:Int)<1000000) (hf:Flat (ov aR o)) (c:fV) (st:St) (d:Option Nat):aN (aD Tryz.prog) 65 [ov aR o,.agg (bZ c)] st d=some { dst:=d,val:=.v (.int .i64 (N4 (ol o) c))}:=bL (bI hf (.agg _ (dD c))) (c65 o hn c) (.v _)
noncomputable def nz {α:Type} (l:List α):Option (List α):=if l=[] then none else some l
theorem nU {α:Type} (l:List α):ol (nz l)=l:=by unfold nz;split<;>simp[ol, *]
noncomputable def yP (l:List Table) (x:Int):List Table:=l.filter fun t=>decide (x≤t.ck.aK)
noncomputable def Nm (e sz:Nat) {α:Type} (c:List α→List AV) (l:List α):AV:=if l=[] then .v (.slice none 0 0) else .uniq e sz l.length (c l)
theorem aQC (o:Option (List Table)) (hn:((ol o).length:Int)<1000000) (ht:∀t∈ol o,Flat t.jP) (x:Int):aD Tryz.prog 128 [ov aR o,.v (.int .u64 x)]=some (Nm 118 34 aR (yP (ol o) x)):=by
 rw[cL Tryz.func128 rfl aLl (by cases o<;>rfl)]
 have SS:∀l:List Table,(∀t∈l,t∈ol o)→∀y∈aR l,Flat y:=fun l h=>lX l fun t m=>ht t (h t m)
 simp only[Z8,seval];refine lV (fun m st=>∃k:Nat,(st.env 0=ov aR o∧st.env 1=.v (.int .u64 x)∧st.env 6=.v (.int .i64 k))∧(((((ol o).take k).filter (fun t=>decide (x≤t.ck.aK)))=[]∧st.env 5=.v (.slice none 0 0))∨((((ol o).take k).filter (fun t=>decide (x≤t.ck.aK)))≠[]∧∃g,st.env 5=.own 27 g∧g<st.aO 27∧st.heap 27 g=some (.row 118 34 (((ol o).take k).filter (fun t=>decide (x≤t.ck.aK))).length (aR (((ol o).take k).filter (fun t=>decide (x≤t.ck.aK)))))))∧k≤(ol o).length∧m=(ol o).length-k)
  (fun e st=>e=.exit 0∧(((((ol o).take (ol o).length).filter (fun t=>decide (x≤t.ck.aK)))=[]∧st.env 5=.v (.slice none 0 0))∨((((ol o).take (ol o).length).filter (fun t=>decide (x≤t.ck.aK)))≠[]∧∃g,st.env 5=.own 27 g∧g<st.aO 27∧st.heap 27 g=some (.row 118 34 (((ol o).take (ol o).length).filter (fun t=>decide (x≤t.ck.aK))).length (aR (((ol o).take (ol o).length).filter (fun t=>decide (x≤t.ck.aK)))))))∧st.env 0=ov aR o∧st.env 1=.v (.int .u64 x)) ((ol o).length) ?step ?start ?rest
 case step =>
  rintro m st ⟨k,hI,h5,hk,hm⟩
  have Gj:(((((ol o).take k).filter (fun t=>decide (x≤t.ck.aK))).length:Nat):Int)<1000000:=by have:=List.length_filter_le (fun t=>decide (x≤t.ck.aK)) ((ol o).take k);have h2:=List.length_take_le' k (ol o);omega
  by_cases aZ:(k:Int)<(ol o).length
  ·have q0:(0:Int)≤k:=by omega
   have hw:IntKind.i64.wrap ((k:Int)+1)=((k+1:Nat):Int):=by rw[pM _ (by omega) (by omega)];omega
   have hs:=tQ iY (fun t=>decide (x≤t.ck.aK)) (ol o) k (by omega)
   have aGV:Flat (.agg (cI (gx iY (ol o) (k:Int)))):=(kM _).2 (ht _ (vP q0 aZ))
   by_cases hh:x≤(gx iY (ol o) (k:Int)).ck.aK
   ·rw[if_pos (decide_eq_true hh)] at hs;rcases h5 with ⟨hy,h5⟩|⟨hy,g,h5⟩
    ·rw[hy] at hs;apply oN ((ol o).length-(k+1))
     ·simp only[Z8,seval,hI,h5,aZ,hw,q0,aGV,hh];rfl
     ·exact⟨k+1,by simp only[E8,seval,hI],.inr ⟨by rw[hs];simp,_,by simp only[E8,seval]<;>rfl,(by simp only[E8,seval]<;>omega),(by rw[hs];simp only[E8,seval]<;>rfl)⟩,by omega,rfl⟩
    ·apply oN ((ol o).length-(k+1))
     ·simp only[Z8,seval,hI,h5,Gj,aZ,hw,q0,aGV,hh];rfl
     ·exact⟨k+1,by simp only[E8,seval,hI],.inr ⟨by rw[hs];simp,_,by simp only[E8,seval]<;>rfl,(by simp only[E8,seval]<;>omega),(by rw[hs];simp only[E8,seval]<;>rfl)⟩,by omega,rfl⟩
   ·rw[if_neg (by simpa using hh),List.append_nil] at hs
    apply oN ((ol o).length-(k+1))
    ·simp only[Z8,seval,hI,aZ,hw,q0,aGV,hh];rfl
    ·exact⟨k+1,by simp only[E8,seval,hI],by rw[hs];simpa only[E8,seval] using h5,by omega,rfl⟩
  ·have Dv:k=(ol o).length:=by omega
   rw[Dv] at h5;apply oT (.exit 0)
   ·simp only[Z8,seval,hI,aZ];rfl
   ·exact⟨rfl,by simpa only[E8,seval] using h5,by simp only[E8,seval,hI]⟩
 case start=>exact⟨0,by simp only[E8,seval]<;>rfl,.inl ⟨rfl,by simp only[E8,seval]⟩,by omega,by omega⟩
 case rest =>
  rintro e st ⟨rfl,⟨hy,h5⟩|⟨hy,g,h5,hg,Ak⟩,hI⟩
  ·rw[List.take_length] at hy;rw[show Nm 118 34 aR (yP (ol o) x)=.v (.slice none 0 0) from if_pos hy];simp only[Z8,seval,h5];exact bX rfl (by simp only[E8,seval]<;>rfl) (.v _)
  ·rw[List.take_length] at hy Ak;rw[show Nm 118 34 aR (yP (ol o) x)=.uniq 118 34 (yP (ol o) x).length (aR (yP (ol o) x)) from if_neg hy];simp only[Z8,seval,h5,Ak];exact tD rfl (by simp only[E8,seval];rfl) (by simp only[E8,seval,Ak];rfl) (SS _ fun t m=>(List.mem_filter.1 m).1)
theorem GK {T n sz:Nat} (ha:jJ Tryz.prog T=some (n,sz)) (st:St) (x:AV) {k:IntKind} {i:Int} (h0:0≤i) (h1:i<n):bD Tryz.prog st T x (.v (.int k i))=vH x (i.toNat * sz):=by
 simp only[bD,ha];rw[if_pos ⟨h0,h1⟩]
theorem UA (st:St) (x:AV) {k:IntKind} {i:Int} (h0:0≤i) (h1:i<32):bD Tryz.prog st 27 x (.v (.int k i))=vH x (i.toNat * 1):=GK aGW st x h0 h1
theorem Hb (st:St) (x:AV) {k:IntKind} {i:Int} (h0:0≤i) (h1:i<4):bD Tryz.prog st 33 x (.v (.int k i))=vH x (i.toNat * 1):=GK aLm st x h0 h1
def rb (r:cK) (i:Int):Int:=r.toList.getD i.toNat 0
def wb (r:rT) (i:Int):Int:=r.toList.getD i.toNat 0
theorem EK (r:cK) {i:Int} (h0:0≤i) (h1:i<32):(aX r)[i.toNat]? = some (.v (.int .u8 (rb r i))):=by
 have h:i.toNat<r.toList.length:=by simp;omega
 unfold aX rb;rw[List.getElem?_map,List.getElem?_eq_getElem h,List.getD_eq_getElem?_getD,List.getElem?_eq_getElem h];rfl
theorem Qj (r:rT) {i:Int} (h0:0≤i) (h1:i<4):(gE r)[i.toNat]? = some (.v (.int .u64 (wb r i))):=by
 have h:i.toNat<r.toList.length:=by simp;omega
 unfold gE wb;rw[List.getElem?_map,List.getElem?_eq_getElem h,List.getD_eq_getElem?_getD,List.getElem?_eq_getElem h];rfl
theorem aLn (a b:cK):∃c:Int,aD Tryz.prog 176 [.agg (aX a),.agg (aX b)]=some (.v (.int .i64 c)):=by
 rw[cL Tryz.func176 rfl aLo rfl];suffices h:∃r,cC (zF Tryz.prog _ (St.init [.agg (aX a),.agg (aX b)])) (Al Tryz.prog 176 Tryz.f176)=some r∧∃c:Int,r=.v (.int .i64 c) by
  obtain⟨r,h,c,rfl⟩:=h;exact⟨c,h⟩
 simp only[Z8,seval];refine cB (fun m st=>∃k:Nat,(st.env 2=.ptr 2 0 0∧st.heap 2 0=some (.cells (aX a))∧st.env 3=.ptr 3 0 0∧st.heap 3 0=some (.cells (aX b))∧st.env 5=.v (.int .i64 k))∧k≤32∧m=32-k)
  (fun e st=>(e=.ret∧∃c:Int,st.env 4=.v (.int .i64 c))∨e=.exit 0) 32 ?step ?start ?rest
 case step =>
  rintro m st ⟨k,hI,hk,hm⟩
  by_cases aZ:(k:Int)<32
  ·have q0:(0:Int)≤k:=by omega
   have hw:IntKind.i64.wrap ((k:Int)+1)=((k+1:Nat):Int):=by rw[pM _ (by omega) (by omega)];omega
   have ga:=EK a q0 aZ
   have gb:=EK b q0 aZ
   by_cases h1:rb a k<rb b k
   ·apply oT (.ret)
    ·simp only[Z8,seval,hI,aZ,q0,UA,ga,gb,h1];rfl
    ·exact .inl ⟨rfl,-1,by simp only[E8,seval]⟩
   ·by_cases h2:rb b k<rb a k
    ·apply oT (.ret)
     ·simp only[Z8,seval,hI,aZ,q0,UA,ga,gb,h1,h2];rfl
     ·exact .inl ⟨rfl,1,by simp only[E8,seval]⟩
    ·apply oN (32-(k+1))
     ·simp only[Z8,seval,hI,aZ,q0,UA,ga,gb,h1,h2,hw];rfl
     ·exact⟨k+1,by simp only[E8,seval,hI],by omega,rfl⟩
  ·apply oT (.exit 0)
   ·simp only[Z8,seval,hI,aZ];rfl
   ·exact .inr rfl
 case start=>exact⟨0,by simp only[E8,seval]<;>rfl,by omega,by omega⟩
 case rest =>
  rintro e st (⟨rfl,c,h⟩|rfl)
  ·simp only[Z8,seval];exact⟨_,bX rfl h (.v _),c,rfl⟩
  ·simp only[Z8,seval];exact⟨_,bX rfl (by simp only[E8,seval]<;>rfl) (.v _),0,rfl⟩
noncomputable def aLp (a b:cK):Int:=Classical.choose (aLn a b)
theorem aGX (a b:cK) (st:St) (d:Option Nat):aN (aD Tryz.prog) 176 [.agg (aX a),.agg (aX b)] st d=some { dst:=d,val:=.v (.int .i64 (aLp a b))}:=bL (bI (qT a) (qT b)) (Classical.choose_spec (aLn a b)) (.v _)
theorem aLq (a b:rT):∃c:Int,aD Tryz.prog 170 [.agg (gE a),.agg (gE b)]=some (.v (.int .i64 c)):=by
 rw[cL Tryz.func170 rfl aLr rfl];suffices h:∃r,cC (zF Tryz.prog _ (St.init [.agg (gE a),.agg (gE b)])) (Al Tryz.prog 170 Tryz.f170)=some r∧∃c:Int,r=.v (.int .i64 c) by
  obtain⟨r,h,c,rfl⟩:=h;exact⟨c,h⟩
 simp only[Z8,seval];refine cB (fun m st=>∃k:Nat,(st.env 2=.ptr 2 0 0∧st.heap 2 0=some (.cells (gE a))∧st.env 3=.ptr 3 0 0∧st.heap 3 0=some (.cells (gE b))∧st.env 5=.v (.int .i64 ((k:Int)-1)))∧k≤4∧m=k)
  (fun e st=>(e=.ret∧∃c:Int,st.env 4=.v (.int .i64 c))∨e=.exit 0) 4 ?step ?start ?rest
 case step =>
  rintro m st ⟨k,hI,hk,hm⟩
  by_cases aZ:(0:Int)≤(k:Int)-1
  ·have q1:(k:Int)-1<4:=by omega
   have hw:IntKind.i64.wrap ((k:Int)-1-1)=((k-1:Nat):Int)-1:=by rw[pM _ (by omega) (by omega)];omega
   have ga:=Qj a aZ q1
   have gb:=Qj b aZ q1
   by_cases h1:wb a ((k:Int)-1)<wb b ((k:Int)-1)
   ·apply oT (.ret)
    ·simp only[Z8,seval,hI,aZ,q1,Hb,ga,gb,h1];rfl
    ·exact .inl ⟨rfl,-1,by simp only[E8,seval]⟩
   ·by_cases h2:wb b ((k:Int)-1)<wb a ((k:Int)-1)
    ·apply oT (.ret)
     ·simp only[Z8,seval,hI,aZ,q1,Hb,ga,gb,h1,h2];rfl
     ·exact .inl ⟨rfl,1,by simp only[E8,seval]⟩
    ·apply oN (k-1)
     ·simp only[Z8,seval,hI,aZ,q1,Hb,ga,gb,h1,h2,hw];rfl
     ·exact⟨k-1,by simp only[E8,seval,hI],by omega,rfl⟩
  ·apply oT (.exit 0)
   ·simp only[Z8,seval,hI,aZ];rfl
   ·exact .inr rfl
 case start=>exact⟨4,by simp only[E8,seval]<;>rfl,by omega,by omega⟩
 case rest =>
  rintro e st (⟨rfl,c,h⟩|rfl)
  ·simp only[Z8,seval];exact⟨_,bX rfl h (.v _),c,rfl⟩
  ·simp only[Z8,seval];exact⟨_,bX rfl (by simp only[E8,seval]<;>rfl) (.v _),0,rfl⟩
noncomputable def aCR (a b:rT):Int:=Classical.choose (aLq a b)
theorem aLs (a b:rT) (st:St) (d:Option Nat):aN (aD Tryz.prog) 170 [.agg (gE a),.agg (gE b)] st d=some { dst:=d,val:=.v (.int .i64 (aCR a b))}:=bL (bI (.agg _ (iO a)) (.agg _ (iO b))) (Classical.choose_spec (aLq a b)) (.v _)
theorem aQD (p b:Block):aD Tryz.prog 169 [.agg (aT p),.agg (aT b)]=some (.v (.bool (!decide (b.jL=dO) && decide (p.jL=dO)))):=by
 rw[cL Tryz.func169 rfl aLt rfl];by_cases h:b.jL=dO
 all_goals
  simp only[h,decide_true,decide_false,Bool.not_true,Bool.not_false,Bool.true_and,Bool.false_and];simp only[Z8,seval,h,decide_true,decide_false];exact bX rfl (by simp only[E8,seval]<;>rfl) (.v _)
theorem aGY (p b:Block) (st:St) (d:Option Nat):aN (aD Tryz.prog) 169 [.agg (aT p),.agg (aT b)] st d=some { dst:=d,val:=.v (.bool (!decide (b.jL=dO) && decide (p.jL=dO)))}:=bL (bI (uY p) (uY b)) (aQD p b) (.v _)
def C4 (BP:rT) (p b:Block):Prop:=(b.jL=dO→p.jL=dO)∧(b.jL≠dO→p.jL=dO→aCR b.EL BP<0∧0≤aCR b.diff BP)
theorem aQE (BP:rT) (p b:Block):aD Tryz.prog 114 [.agg (gE BP),.agg (aT p),.agg (aT b)]=some (.v (.bool (decide (C4 BP p b)))):=by
 rw[cL Tryz.func114 rfl aLu rfl];unfold C4;by_cases h:b.jL=dO
 ·simp only[h,forall_const,ne_eq,not_true_eq_false,false_implies,and_true];simp only[Z8,seval,h,decide_true];exact bX rfl (by simp only[E8,seval]<;>rfl) (.v _)
 ·by_cases hp:p.jL=dO
  ·simp only[h,hp,ne_eq,not_false_eq_true,forall_const,false_implies,true_and];by_cases h1:aCR b.EL BP<0
   ·simp only[h1,true_and];simp only[Z8,seval,h,hp,aGY,aLs,h1,decide_true,decide_false,Bool.not_false,Bool.true_and];exact bX rfl (by simp only[E8,seval]<;>rfl) (.v _)
   ·simp only[h1,false_and,decide_false];simp only[Z8,seval,h,hp,aGY,aLs,h1,decide_true,decide_false,Bool.not_false,Bool.true_and];exact bX rfl (by simp only[E8,seval]<;>rfl) (.v _)
  ·simp only[h,hp,ne_eq,not_false_eq_true,forall_const,false_implies,and_self,decide_true];simp only[Z8,seval,h,hp,aGY,decide_false,Bool.not_false,Bool.true_and];exact bX rfl (by simp only[E8,seval]<;>rfl) (.v _)
theorem Wz (BP:rT) (p b:Block) (st:St) (d:Option Nat):aN (aD Tryz.prog) 114 [.agg (gE BP),.agg (aT p),.agg (aT b)] st d=some { dst:=d,val:=.v (.bool (decide (C4 BP p b)))}:=bL (oE (.agg _ (iO BP)) (uY p) (uY b)) (aQE BP p b) (.v _)
noncomputable def Tz (b:Block):Int:=if b.jL=dO then 1 else 0
theorem aQF (b:Block):aD Tryz.prog 233 [.agg (aT b)]=some (.v (.int .i64 (Tz b))):=by
 rw[cL Tryz.func233 rfl aLv rfl];unfold Tz;by_cases h:b.jL=dO
 ·simp only[h,if_true];simp only[Z8,seval,h,decide_true];exact bX rfl (by simp only[E8,seval]<;>rfl) (.v _)
 ·simp only[h,if_false];simp only[Z8,seval,h,decide_false];exact bX rfl (by simp only[E8,seval]<;>rfl) (.v _)
theorem aLw (b:Block) (st:St) (d:Option Nat):aN (aD Tryz.prog) 233 [.agg (aT b)] st d=some { dst:=d,val:=.v (.int .i64 (Tz b))}:=bL (cP (uY b)) (aQF b) (.v _)
theorem kx {g:Nat} {args:List AV} {r:AV} (h:aD Tryz.prog g args=some r) (hf:∀x∈args,Flat x) (hr:Flat r):∀(st:St) (d:Option Nat),aN (aD Tryz.prog) g args st d=some { dst:=d,val:=r }:=fun st d=>bL hf h hr
theorem bf {x y:Int} (h:¬x=y):(x == y)=false∧(x != y)=true:=by simp[h]
theorem bt {x y:Int} (h:x=y):(x == y)=true∧(x != y)=false:=by simp[h]
def Ua (l:List Int) (n:Int) (k:Nat):Prop:=gx (0:Int) l k<0∨n≤gx (0:Int) l k∨(0<k∧gx (0:Int) l k≤gx (0:Int) l ((k:Int)-1))
noncomputable def BF (l:List Int) (n:Int):Int:=if l=[] then 2 else if Jj (Ua l n) l.length<0 then 0 else if gx (0:Int) l (Jj (Ua l n) l.length)<0∨n≤gx (0:Int) l (Jj (Ua l n) l.length) then 3 else 8
theorem c40 (o:Option (List Int)) (hn:((ol o).length:Int)<1000000) (n:Int):aD Tryz.prog 40 [ov aJ o,.v (.int .i64 n)]=some (.v (.int .i64 (BF (ol o) n))):=by
 rw[cL Tryz.func40 rfl aQG (by cases o<;>rfl)]
 refine kN ?_
 by_cases h0:ol o=[]
 ·have hv:BF (ol o) n=2:=if_pos h0
  have hl:(ol o).length=0:=by rw[h0];rfl
  simp only[Z8,seval,hl];exact⟨_,bX rfl (by simp only[E8,seval,hv]<;>rfl) (by first|exact .v _|simp only[dW,hv]),rfl⟩
 have hl:=bf (x:=((ol o).length:Int)) (y:=0) (by have:=List.length_pos_iff.2 h0;omega)
 simp only[Z8,seval,hl];refine cB (fun m st=>∃k:Nat,(st.env 0=ov aJ o∧st.env 1=.v (.int .i64 n)∧st.env 5=.v (.int .i64 k))∧(∀j:Nat,j<k→¬Ua (ol o) n j)∧k≤(ol o).length∧m=(ol o).length-k)
  (fun e st=>(e=.ret∧∃k:Nat,k<(ol o).length∧Ua (ol o) n k∧(∀j:Nat,j<k→¬Ua (ol o) n j)∧st.env 4=.v (.int .i64 (if gx (0:Int) (ol o) k<0∨n≤gx (0:Int) (ol o) k then 3 else 8)))∨(e=.exit 0∧∀j:Nat,j<(ol o).length→¬Ua (ol o) n j)) (ol o).length ?step ?start ?rest
 case step =>
  rintro m st ⟨k,hI,hj,hk,hm⟩
  by_cases aZ:(k:Int)<(ol o).length
  ·have q0:(0:Int)≤k:=by omega
   have hw:IntKind.i64.wrap ((k:Int)+1)=((k+1:Nat):Int):=by rw[pM _ (by omega) (by omega)];omega
   by_cases h1:gx (0:Int) (ol o) k<0
   ·apply oT (.ret)
    ·simp only[Z8,seval,hI,aZ,q0,h1];rfl
    ·exact .inl ⟨rfl,k,by omega,.inl h1,hj,by simp only[E8,seval,h1,true_or]⟩
   by_cases h2:n≤gx (0:Int) (ol o) k
   ·apply oT (.ret)
    ·simp only[Z8,seval,hI,aZ,q0,h1,h2];rfl
    ·exact .inl ⟨rfl,k,by omega,.inr (.inl h2),hj,by simp only[E8,seval,h2,or_true]⟩
   by_cases h3:(0:Int)<k
   ·have q1:(0:Int)≤(k:Int)-1:=by omega
    have q2:(k:Int)-1<(ol o).length:=by omega
    have P6:IntKind.i64.wrap ((k:Int)-1)=(k:Int)-1:=by rw[pM _ (by omega) (by omega)]
    by_cases h4:gx (0:Int) (ol o) k≤gx (0:Int) (ol o) ((k:Int)-1)
    ·apply oT (.ret)
     ·simp only[Z8,seval,hI,aZ,q0,q1,q2,P6,h1,h2,h3,h4];rfl
     ·exact .inl ⟨rfl,k,by omega,.inr (.inr ⟨by omega,h4⟩),hj,by simp only[E8,seval,h1,h2,or_self]⟩
    ·apply oN ((ol o).length-(k+1))
     ·simp only[Z8,seval,hI,aZ,q0,q1,q2,P6,h1,h2,h3,h4,hw];rfl
     ·exact⟨k+1,by simp only[E8,seval,hI],fun j h=>(Nat.lt_succ_iff_lt_or_eq.1 h).elim (hj j) fun e=>by subst e;unfold Ua;simp only[h1,h2,h4,and_false,or_self,not_false_eq_true],by omega,rfl⟩
   ·have h5:¬(0<k):=by omega
    apply oN ((ol o).length-(k+1))
    ·simp only[Z8,seval,hI,aZ,q0,h1,h2,h3,hw];rfl
    ·exact⟨k+1,by simp only[E8,seval,hI],fun j h=>(Nat.lt_succ_iff_lt_or_eq.1 h).elim (hj j) fun e=>by subst e;unfold Ua;simp only[h1,h2,h5,false_and,or_self,not_false_eq_true],by omega,rfl⟩
  ·apply oT (.exit 0)
   ·simp only[Z8,seval,hI,aZ];rfl
   ·exact .inr ⟨rfl,fun j h=>hj j (by omega)⟩
 case start=>exact⟨0,by simp only[E8,seval]<;>rfl,fun j h=>by omega,by omega,by omega⟩
 case rest =>
  rintro e st (⟨rfl,k,hk,hh,hj,h⟩|⟨rfl,hj⟩)
  ·have hv:BF (ol o) n=if gx (0:Int) (ol o) k<0∨n≤gx (0:Int) (ol o) k then 3 else 8:=by
    unfold BF;rw[if_neg h0,Nl hh hj _ hk,if_neg (by omega)]
   rw[← hv] at h;simp only[Z8,seval];exact⟨_,bX rfl (by simp only[E8,seval,h]<;>rfl) (by first|exact .v _|simp only[dW,h]),rfl⟩
  ·have hv:BF (ol o) n=0:=by
    unfold BF;rw[if_neg h0,yO _ hj,if_pos (by omega)]
   simp only[Z8,seval];exact⟨_,bX rfl (by simp only[E8,seval,hv]<;>rfl) (by first|exact .v _|simp only[dW,hv]),rfl⟩
theorem aCS (a b:Int):(BN a b).2≠21:=by unfold BN;split<;>simp
theorem UB (l:List Int) (n:Int):BF l n≠21:=by unfold BF;split;simp;split;simp;split<;>simp
theorem aLx (o:Option (List Int)) (hn:((ol o).length:Int)<1000000):∃r,aD Tryz.prog 175 [ov bF o]=some r∧∃a e:Int,r=.dZ [.v (.int .u64 a),.v (.int .i64 e)]∧e≠21:=by
 rw[cL Tryz.func175 rfl aFD (by cases o<;>rfl)]
 simp only[Z8,seval];refine cB (fun m st=>∃(k:Nat) (a:Int),(st.env 0=ov bF o∧st.env 4=.v (.int .u64 a)∧st.env 5=.v (.int .i64 k))∧k≤(ol o).length∧m=(ol o).length-k)
  (fun e st=>(e=.ret∧∃a e:Int,st.env 2=.v (.int .u64 a)∧st.env 3=.v (.int .i64 e)∧e≠21)∨(e=.exit 0∧∃a:Int,st.env 4=.v (.int .u64 a))) (ol o).length ?step ?start ?rest
 case step =>
  rintro m st ⟨k,a,hI,hk,hm⟩
  by_cases aZ:(k:Int)<(ol o).length
  ·have q0:(0:Int)≤k:=by omega
   have hw:IntKind.i64.wrap ((k:Int)+1)=((k+1:Nat):Int):=by rw[pM _ (by omega) (by omega)];omega
   by_cases h1:(BN a (gx (0:Int) (ol o) k)).2=0
   ·apply oN ((ol o).length-(k+1))
    ·simp only[Z8,seval,hI,aZ,q0,aGJ,eC,h1,hw];rfl
    ·exact⟨k+1,_,by simp only[E8,seval,hI]<;>rfl,by omega,rfl⟩
   ·apply oT (.ret)
    ·simp only[Z8,seval,hI,aZ,q0,aGJ,eC,bf h1];rfl
    ·exact .inl ⟨rfl,_,_,by simp only[E8,seval]<;>rfl,by simp only[E8,seval]<;>rfl,aCS _ _⟩
  ·apply oT (.exit 0)
   ·simp only[Z8,seval,hI,aZ];rfl
   ·exact .inr ⟨rfl,a,by simp only[E8,seval,hI]⟩
 case start=>exact⟨0,0,by simp only[E8,seval]<;>exact⟨rfl,rfl⟩,by omega,by omega⟩
 case rest =>
  rintro e st (⟨rfl,a,e,h,h',gT⟩|⟨rfl,a,h⟩)
  ·simp only[Z8,seval];exact⟨_,dP rfl rfl rfl (by simp only[E8,seval,h,h']<;>rfl) (by simp only[E8,seval,h,h']<;>rfl),_,_,rfl,gT⟩
  ·simp only[Z8,seval,h];exact⟨_,dP rfl rfl rfl (by simp only[E8,seval,h]<;>rfl) (by simp only[E8,seval,h]<;>rfl),_,_,rfl,by decide⟩
theorem aFE (t:Table) (b:Option (List Int)) (hb:t.jP=ov bF b) (hl:((ol b).length:Int)<1000000) (n:Int):∃r,aD Tryz.prog 130 [.agg (cI t),.v (.int .i64 n)]=some r∧∃e:Int,r=.v (.int .i64 e)∧e≠21∧(e=0→((ol b).length:Int)=n):=by
 obtain⟨r,hr,a,e,rfl,he⟩:=aLx b hl
 have C5:=kx hr (cP (dU b)) (.dZ _ (bI (.v _) (.v _)))
 rw[cL Tryz.func130 rfl aFF rfl];by_cases h1:((ol b).length:Int)=n
 ·by_cases h2:e=0
  ·by_cases h3:4611686018427387904<a
   all_goals
    simp only[Z8,seval,hb,bt h1,bt h2,h3,C5,eC];exact⟨_,bX rfl (by simp only[E8,seval]<;>rfl) (by first|exact .v _|simp only[dW]),_,rfl,by decide,fun _=>h1⟩
  ·simp only[Z8,seval,hb,bt h1,bf h2,C5,eC];exact⟨_,bX rfl (by simp only[E8,seval]<;>rfl) (by first|exact .v _|simp only[dW]),_,rfl,by decide,fun _=>h1⟩
 ·simp only[Z8,seval,hb,bf h1];exact⟨_,bX rfl (by simp only[E8,seval]<;>rfl) (by first|exact .v _|simp only[dW]),_,rfl,by decide,fun h=>by cases h⟩
theorem aQH (t:Table) (ht:sN t) (n:Int):∃r,aD Tryz.prog 130 [.agg (cI t),.v (.int .i64 n)]=some r∧∃e:Int,r=.v (.int .i64 e)∧e≠21:=by
 obtain⟨b,hb,hl⟩:=ht
 obtain⟨r,hr,e,h1,h2,_⟩:=aFE t b hb hl n
 exact⟨r,hr,e,h1,h2⟩
theorem aGZ (a b:fV):∃r,aD Tryz.prog 131 [.agg (bZ a),.agg (bZ b)]=some r∧∃e:Int,r=.v (.int .i64 e):=by
 rw[cL Tryz.func131 rfl aLy rfl];by_cases h1:a.aK=b.aK
 ·simp only[Z8,seval,bt h1,aGX];exact⟨_,bX rfl (by simp only[E8,seval]<;>rfl) (by first|exact .v _|simp only[dW]),_,rfl⟩
 ·by_cases h2:a.aK<b.aK
  all_goals
   simp only[Z8,seval,bf h1,h2];exact⟨_,bX rfl (by simp only[E8,seval]<;>rfl) (by first|exact .v _|simp only[dW]),_,rfl⟩
noncomputable def aLz (a b:fV):Int:=Classical.choose (Classical.choose_spec (aGZ a b)).2
theorem aLA (a b:fV) (st:St) (d:Option Nat):aN (aD Tryz.prog) 131 [.agg (bZ a),.agg (bZ b)] st d=some { dst:=d,val:=.v (.int .i64 (aLz a b))}:=by
 have h:=(Classical.choose_spec (aGZ a b)).1
 rw[Classical.choose_spec (Classical.choose_spec (aGZ a b)).2] at h;exact bL (bI (.agg _ (dD a)) (.agg _ (dD b))) h (.v _)
def KnB (v:SV) (r:cK):Prop:=(∃j:Nat,j<(ol v.O).length∧(gx fP (ol v.O) j).root=r)∨0≤aP v.ns r
theorem c54 {s:aM} {v:SV} (hs:SD s v) (r:cK):aD Tryz.prog 54 [.agg (aB s),.agg (aX r)]=some (.v (.bool (decide (KnB v r)))):=by
 have hn:=hs.nO
 rw[cL Tryz.func54 rfl aQI rfl];refine kN ?_
 simp only[Z8,seval,hs.bW];refine cB (fun m st=>∃k:Nat,(st.env 2=.ptr 2 0 0∧st.heap 2 0=some (.cells (aB s))∧st.env 3=.ptr 3 0 0∧st.heap 3 0=some (.cells (aX r))∧st.env 5=.v (.int .i64 k))∧(∀j:Nat,j<k→¬((gx fP (ol v.O) (j:Int)).root=r))∧k≤(ol v.O).length∧m=(ol v.O).length-k)
  (fun e st=>(e=.ret∧∃k:Nat,k<(ol v.O).length∧((gx fP (ol v.O) (k:Int)).root=r)∧(∀j:Nat,j<k→¬((gx fP (ol v.O) (j:Int)).root=r))∧st.env 4=.v (.bool true))∨(e=.exit 0∧(∀j:Nat,j<(ol v.O).length→¬((gx fP (ol v.O) (j:Int)).root=r))∧st.env 2=.ptr 2 0 0∧st.heap 2 0=some (.cells (aB s))∧st.env 3=.ptr 3 0 0∧st.heap 3 0=some (.cells (aX r)))) ((ol v.O).length) ?step ?start ?rest
 case step =>
  rintro m st ⟨k,hI,hj,hk,hm⟩
  by_cases aZ:(k:Int)<(ol v.O).length
  ·have q0:(0:Int)≤k:=by omega
   have hw:IntKind.i64.wrap ((k:Int)+1)=((k+1:Nat):Int):=by rw[pM _ (by omega) (by omega)];omega
   by_cases hh:(gx fP (ol v.O) (k:Int)).root=r
   ·apply oT (.ret)
    ·simp only[Z8,seval,hI,aZ,q0,hs.bW,hh];rfl
    ·exact .inl ⟨rfl,k,by omega,hh,hj,by simp only[E8,seval,hs.bW]⟩
   ·apply oN ((ol v.O).length-(k+1))
    ·simp only[Z8,seval,hI,aZ,q0,hs.bW,hh,hw];rfl
    ·exact⟨k+1,by simp only[E8,seval,hI],fun j h=>(Nat.lt_succ_iff_lt_or_eq.1 h).elim (hj j) fun e=>by subst e;exact hh,by omega,rfl⟩
  ·apply oT (.exit 0)
   ·simp only[Z8,seval,hI,aZ,hs.bW];rfl
   ·exact .inr ⟨rfl,fun j h=>hj j (by omega),by simp only[E8,seval,hI]⟩
 case start=>exact⟨0,by simp only[E8,seval]<;>rfl,fun j h=>by omega,by omega,by omega⟩
 case rest =>
  rintro e st (⟨rfl,k,hk,hh,hj,h⟩|⟨rfl,hj,hI⟩)
  ·have hv:decide (KnB v r)=true:=decide_eq_true (.inl ⟨k,hk,hh⟩)
   simp only[Z8,seval];exact⟨_,bX rfl (by simp only[E8,seval,h]<;>rfl) (by first|exact .v _|simp only[dW,h]),by rw[hv]⟩
  ·have hv:decide (KnB v r)=decide (0≤aP v.ns r):=by
    refine decide_eq_decide.2 ⟨fun h=>h.elim (fun ⟨j,hj1,hj2⟩=>absurd hj2 (hj j hj1)) id,.inr⟩
   simp only[Z8,seval,hI,hs.tree,mS _ _ hs.nn];exact⟨_,bX rfl (by simp only[E8,seval]<;>rfl) (by first|exact .v _|simp only[dW]),by rw[hv]⟩
theorem Q1 {s:aM} {v:SV} (hs:SD s v) (r:cK) (st:St) (d:Option Nat):aN (aD Tryz.prog) 54 [.agg (aB s),.agg (aX r)] st d=some { dst:=d,val:=.v (.bool (decide (KnB v r)))}:=bL (bI hs.flat (qT r)) (c54 hs r) (.v _)
def GL (s:aM) (a:sJ):Prop:=a.target.aK≠Dw s a.slot∨(a.target.aK≠Dw s s.now∧(Dw s s.now=0∨a.target.aK≠IntKind.u64.wrap (Dw s s.now-1)))
noncomputable def Gk (s:aM) (v:SV) (a:sJ) (V:List Int):Bool × Int :=
 if BF V (ol v.B).length≠0 then (false,BF V (ol v.B).length) else
 if GL s a then (false,18) else
 if aP v.ns a.root<0 then (false,10) else
 if aP v.ns a.target.root<0 then (false,10) else
 if a.slot<(nd v.ns (aP v.ns a.root)).block.slot then (false,14) else
 if GG v.ns (aP v.ns a.root) (Dx s a.target.aK).1≠aP v.ns a.target.root then (false,19) else (decide (s.now≤a.slot),0)
theorem c39 {s:aM} {v:SV} (hs:SD s v) (hu:iB v.ns) (hp:s.cFg.rD≠0) (a:sJ) (o:Option (List Int)) (hV:a.eW=ov aJ o) (hl:((ol o).length:Int)<1000000) :
 aD Tryz.prog 39 [.agg (aB s),.agg (hU a)]=some (.dZ [.v (.bool (Gk s v a (ol o)).1),.v (.int .i64 (Gk s v a (ol o)).2)]):=by
 have hf:=hs.flat
 have LA:=fun n=>kx (c40 o hl n) (bI (bQ o) (.v _)) (.v _)
 rw[cL Tryz.func39 rfl aQJ rfl];refine kN ?_
 have r1:=eY v.ns a.root
 by_cases g1:BF (ol o) (ol v.B).length=0
 case neg =>
  have hv:Gk s v a (ol o)=(false,BF (ol o) (ol v.B).length):=by simp only[Gk,ne_eq,g1,not_false_eq_true,if_true]
  simp only[Z8,seval,hV,Wx hs,LA,bf g1];exact⟨_,dP rfl rfl rfl (by simp only[E8,seval]<;>rfl) (by simp only[E8,seval]<;>rfl),by rw[hv]⟩
 have UC:GL s a→Gk s v a (ol o)=(false,18):=fun g=>by simp only[Gk,ne_eq,g1,not_true_eq_false,if_false,g,if_true]
 by_cases g2:a.target.aK=Dw s a.slot
 case neg =>
  have hv:=UC (.inl g2)
  simp only[Z8,seval,hV,Wx hs,LA,bt g1,Mo s hp hf,bf g2];exact⟨_,dP rfl rfl rfl (by simp only[E8,seval]<;>rfl) (by simp only[E8,seval]<;>rfl),by rw[hv]⟩
 by_cases g3:a.target.aK=Dw s s.now
 case neg =>
  by_cases g4:Dw s s.now=0
  ·have hv:=UC (.inr ⟨g3,.inl g4⟩)
   simp only[Z8,seval,hV,Wx hs,LA,bt g1,Mo s hp hf,bt g2,bf g3,bt g4];exact⟨_,dP rfl rfl rfl (by simp only[E8,seval]<;>rfl) (by simp only[E8,seval]<;>rfl),by rw[hv]⟩
  by_cases g5:a.target.aK=IntKind.u64.wrap (Dw s s.now-1)
  case neg =>
   have hv:=UC (.inr ⟨g3,.inr g5⟩)
   simp only[Z8,seval,hV,Wx hs,LA,bt g1,Mo s hp hf,bt g2,bf g3,bf g4,bf g5];exact⟨_,dP rfl rfl rfl (by simp only[E8,seval]<;>rfl) (by simp only[E8,seval]<;>rfl),by rw[hv]⟩
  have gb:¬GL s a:=fun h=>h.elim (fun h=>h g2) fun h=>h.2.elim g4 fun h=>h g5
  by_cases g6:aP v.ns a.root<0
  ·have hv:Gk s v a (ol o)=(false,10):=by simp only[Gk,ne_eq,g1,not_true_eq_false,if_false,gb,g6,if_true]
   simp only[Z8,seval,hV,Wx hs,LA,bt g1,Mo s hp hf,bt g2,bf g3,bf g4,bt g5,hs.tree,mS _ _ hs.nn,g6];exact⟨_,dP rfl rfl rfl (by simp only[E8,seval]<;>rfl) (by simp only[E8,seval]<;>rfl),by rw[hv]⟩
  by_cases g7:aP v.ns a.target.root<0
  ·have hv:Gk s v a (ol o)=(false,10):=by simp only[Gk,ne_eq,g1,not_true_eq_false,if_false,gb,g6,g7,if_true]
   simp only[Z8,seval,hV,Wx hs,LA,bt g1,Mo s hp hf,bt g2,bf g3,bf g4,bt g5,hs.tree,mS _ _ hs.nn,g6,g7];exact⟨_,dP rfl rfl rfl (by simp only[E8,seval]<;>rfl) (by simp only[E8,seval]<;>rfl),by rw[hv]⟩
  have q0:0≤aP v.ns a.root:=by omega
  by_cases g8:a.slot<(nd v.ns (aP v.ns a.root)).block.slot
  ·have hv:Gk s v a (ol o)=(false,14):=by simp only[Gk,ne_eq,g1,not_true_eq_false,if_false,gb,g6,g7,g8,if_true]
   simp only[Z8,seval,hV,Wx hs,LA,bt g1,Mo s hp hf,bt g2,bf g3,bf g4,bt g5,hs.tree,mS _ _ hs.nn,g6,g7,q0,r1,g8];exact⟨_,dP rfl rfl rfl (by simp only[E8,seval]<;>rfl) (by simp only[E8,seval]<;>rfl),by rw[hv]⟩
  by_cases g9:GG v.ns (aP v.ns a.root) (Dx s a.target.aK).1=aP v.ns a.target.root
  ·have hv:Gk s v a (ol o)=(decide (s.now≤a.slot),0):=by simp only[Gk,ne_eq,g1,not_true_eq_false,if_false,gb,g6,g7,g8,g9]
   simp only[Z8,seval,hV,Wx hs,LA,bt g1,Mo s hp hf,bt g2,bf g3,bf g4,bt g5,hs.tree,mS _ _ hs.nn,g6,g7,q0,r1,g8,Vf s hf,eC,LR _ hu hs.nn,bt g9];exact⟨_,dP rfl rfl rfl (by simp only[E8,seval]<;>rfl) (by simp only[E8,seval]<;>rfl),by rw[hv]⟩
  ·have hv:Gk s v a (ol o)=(false,19):=by simp only[Gk,ne_eq,g1,not_true_eq_false,if_false,gb,g6,g7,g8,g9,not_false_eq_true,if_true]
   simp only[Z8,seval,hV,Wx hs,LA,bt g1,Mo s hp hf,bt g2,bf g3,bf g4,bt g5,hs.tree,mS _ _ hs.nn,g6,g7,q0,r1,g8,Vf s hf,eC,LR _ hu hs.nn,bf g9];exact⟨_,dP rfl rfl rfl (by simp only[E8,seval]<;>rfl) (by simp only[E8,seval]<;>rfl),by rw[hv]⟩
 have gb:¬GL s a:=fun h=>h.elim (fun h=>h g2) fun h=>h.1 g3
 by_cases g6:aP v.ns a.root<0
 ·have hv:Gk s v a (ol o)=(false,10):=by simp only[Gk,ne_eq,g1,not_true_eq_false,if_false,gb,g6,if_true]
  simp only[Z8,seval,hV,Wx hs,LA,bt g1,Mo s hp hf,bt g2,bt g3,hs.tree,mS _ _ hs.nn,g6];exact⟨_,dP rfl rfl rfl (by simp only[E8,seval]<;>rfl) (by simp only[E8,seval]<;>rfl),by rw[hv]⟩
 by_cases g7:aP v.ns a.target.root<0
 ·have hv:Gk s v a (ol o)=(false,10):=by simp only[Gk,ne_eq,g1,not_true_eq_false,if_false,gb,g6,g7,if_true]
  simp only[Z8,seval,hV,Wx hs,LA,bt g1,Mo s hp hf,bt g2,bt g3,hs.tree,mS _ _ hs.nn,g6,g7];exact⟨_,dP rfl rfl rfl (by simp only[E8,seval]<;>rfl) (by simp only[E8,seval]<;>rfl),by rw[hv]⟩
 have q0:0≤aP v.ns a.root:=by omega
 by_cases g8:a.slot<(nd v.ns (aP v.ns a.root)).block.slot
 ·have hv:Gk s v a (ol o)=(false,14):=by simp only[Gk,ne_eq,g1,not_true_eq_false,if_false,gb,g6,g7,g8,if_true]
  simp only[Z8,seval,hV,Wx hs,LA,bt g1,Mo s hp hf,bt g2,bt g3,hs.tree,mS _ _ hs.nn,g6,g7,q0,r1,g8];exact⟨_,dP rfl rfl rfl (by simp only[E8,seval]<;>rfl) (by simp only[E8,seval]<;>rfl),by rw[hv]⟩
 by_cases g9:GG v.ns (aP v.ns a.root) (Dx s a.target.aK).1=aP v.ns a.target.root
 ·have hv:Gk s v a (ol o)=(decide (s.now≤a.slot),0):=by simp only[Gk,ne_eq,g1,not_true_eq_false,if_false,gb,g6,g7,g8,g9]
  simp only[Z8,seval,hV,Wx hs,LA,bt g1,Mo s hp hf,bt g2,bt g3,hs.tree,mS _ _ hs.nn,g6,g7,q0,r1,g8,Vf s hf,eC,LR _ hu hs.nn,bt g9];exact⟨_,dP rfl rfl rfl (by simp only[E8,seval]<;>rfl) (by simp only[E8,seval]<;>rfl),by rw[hv]⟩
 ·have hv:Gk s v a (ol o)=(false,19):=by simp only[Gk,ne_eq,g1,not_true_eq_false,if_false,gb,g6,g7,g8,g9,not_false_eq_true,if_true]
  simp only[Z8,seval,hV,Wx hs,LA,bt g1,Mo s hp hf,bt g2,bt g3,hs.tree,mS _ _ hs.nn,g6,g7,q0,r1,g8,Vf s hf,eC,LR _ hu hs.nn,bf g9];exact⟨_,dP rfl rfl rfl (by simp only[E8,seval]<;>rfl) (by simp only[E8,seval]<;>rfl),by rw[hv]⟩
theorem UD (ns:List Node) (s:Int) (l:List Int):Ed ns s l=-1∨Ed ns s l∈l:=by
 suffices h:∀(l:List Int) (a:Int),l.foldl (fun r x=>if (nd ns x).block.slot≤s then x else r) a=a∨l.foldl (fun r x=>if (nd ns x).block.slot≤s then x else r) a∈l from h l (-1)
 intro l;induction l with
 | nil=>exact fun a=>.inl rfl
 | cons x l ih =>
   intro a;rw[List.foldl_cons];split
   ·rcases ih x with h|h
    ·exact .inr (by rw[h];simp)
    ·exact .inr (by simp[h])
   ·rcases ih a with h|h
    ·exact .inl h
    ·exact .inr (by simp[h])
theorem EM {ns:List Node} (hu:iB ns) (i s:Int):-1≤GG ns i s∧GG ns i s<ns.length∧GG ns i s≤max i (-1):=by
 by_cases hi:0≤i∧i<ns.length
 ·rcases UD ns s (path ns i) with h|h
  ·rw[show GG ns i s=-1 from h];omega
  ·have:=Wg hu i.toNat i rfl hi.1 hi.2 _ h
   rw[show GG ns i s=Ed ns s (path ns i) from rfl];omega
 ·rw[LQ s hi];omega
noncomputable def elC {α:Type} (x:AV) (k:fV→Option α) (fb:Option α):Option α:=if h:∃c,x=.agg (bZ c) then k (Classical.choose h) else fb
theorem aLB {α:Type} (c:fV) (k:fV→Option α) (fb:Option α):elC (.agg (bZ c)) k fb=k c:=by
 unfold elC;have h:∃c',AV.agg (bZ c)=.agg (bZ c'):=⟨c,rfl⟩
 rw[dif_pos h];have:=Classical.choose_spec h
 injection this with h2
 rw[← (mY _ _).1 h2]
@[congr] theorem aJ4 {α:Type} {x y:AV} {k:fV→Option α} {fb:Option α} (h:x=y):elC x k fb=elC y k fb:=by rw[h]
theorem aG0 {call:Nat→List AV→Option AV} {ops:Array Oper} {st:St} {T:Nat} {pos:String} {eM:Array Edge} (d:Nat) (x y z w:Operand) :
 cE Tryz.prog call ops ⟨some d,.buildSlice 109 4 #[(0,x),(1,y),(2,z),(3,w)],T,pos,eM,none⟩ st =
  elC (st.ev x) (fun a=>elC (st.ev y) (fun b=>elC (st.ev z) (fun c=>elC (st.ev w) (fun e=>some ((st.new d (.row 41 33 [a,b,c,e].length (zM [a,b,c,e]))).put (some d) (.own d (st.aO d))))
   (cE Tryz.prog call ops ⟨some d,.buildSlice 109 4 #[(0,x),(1,y),(2,z),(3,w)],T,pos,eM,none⟩ st)) (cE Tryz.prog call ops ⟨some d,.buildSlice 109 4 #[(0,x),(1,y),(2,z),(3,w)],T,pos,eM,none⟩ st))
   (cE Tryz.prog call ops ⟨some d,.buildSlice 109 4 #[(0,x),(1,y),(2,z),(3,w)],T,pos,eM,none⟩ st)) (cE Tryz.prog call ops ⟨some d,.buildSlice 109 4 #[(0,x),(1,y),(2,z),(3,w)],T,pos,eM,none⟩ st):=by
 unfold elC;split
 ·rename_i h1;have h1c:=h1
  obtain⟨a,DT⟩:=h1c
  have e1:Classical.choose h1=a:=by have:=(Classical.choose_spec h1).symm.trans DT;injection this with t;exact (mY _ _).1 t
  rw[e1];split
  ·rename_i h2;have h2c:=h2
   obtain⟨b,h2'⟩:=h2c
   have e2:Classical.choose h2=b:=by have:=(Classical.choose_spec h2).symm.trans h2';injection this with t;exact (mY _ _).1 t
   rw[e2];split
   ·rename_i h3;have h3c:=h3
    obtain⟨c,h3'⟩:=h3c
    have e3:Classical.choose h3=c:=by have:=(Classical.choose_spec h3).symm.trans h3';injection this with t;exact (mY _ _).1 t
    rw[e3];split
    ·rename_i h4;have h4c:=h4
     obtain⟨e,N5⟩:=h4c
     have e4:Classical.choose h4=e:=by have:=(Classical.choose_spec h4).symm.trans N5;injection this with t;exact (mY _ _).1 t
     rw[e4,lB,Q3];have hz:((List.range 4).flatMap fun _=>Ct.map AV.v)=zM [gZ,gZ,gZ,gZ]:=by rw[Bb];rfl
     have u0:=Nn [gZ,gZ,gZ,gZ] 0 a (by simp)
     have u1:=Nn [a,gZ,gZ,gZ] 1 b (by simp)
     have u2:=Nn [a,b,gZ,gZ] 2 c (by simp)
     have u3:=Nn [a,b,c,gZ] 3 e (by simp)
     simp only[Int.reduceToNat,Nat.reduceMul,Nat.reduceAdd,List.set_cons_zero,List.set_cons_succ,List.set] at u0 u1 u2 u3;simp only[cW,aLC,List.toList_toArray,List.map_cons,List.map_nil,List.all_cons,List.all_nil,DT,h2',h3',N5,AV.jR,Bool.and_self,EO,MP,AV.cells,bS,Xa,hz,List.length_cons,List.length_nil,Nat.reduceMul,Nat.reduceAdd,Nat.reducePow,Nat.reduceLeDiff,Nat.reduceLT,true_or,true_and,and_true,and_self,if_true,↓reduceIte,u0,u1,u2,u3,Nat.zero_le,Nat.le_refl]
    ·rfl
   ·rfl
  ·rfl
 ·rfl
def C6 (s:aM) (v:SV) (b:Block) (c:fV):Prop:=c.aK≤s.bN.fin.aK∨(if (Dx s c.aK).1<b.slot then 0≤GG v.ns (aP v.ns b.parent) (Dx s c.aK).1∧(nd v.ns (GG v.ns (aP v.ns b.parent) (Dx s c.aK).1)).block.root=c.root else b.root=c.root)
def Jk (b:Block):List fV:=[b.gY,b.fin,b.dQ.pj,b.dQ.pf]
def GM (s:aM) (v:SV) (b:Block):Prop:=0≤aP v.ns b.parent∧Q0 s b∧∀j:Nat,j<4→C6 s v b (gx gZ (Jk b) j)
theorem c69 {s:aM} {v:SV} (hs:SD s v) (hu:iB v.ns) (hp:s.cFg.rD≠0) (b:Block):aD Tryz.prog 69 [.agg (aB s),.agg (aT b)]=some (.v (.bool (decide (GM s v b)))):=by
 have hf:=hs.flat
 rw[cL Tryz.func69 rfl aQK rfl];refine kN ?_
 have r1:=eY v.ns b.parent
 by_cases g1:aP v.ns b.parent<0
 ·have hv:decide (GM s v b)=false:=decide_eq_false (fun h=>by have:=h.1;omega)
  simp only[Z8,seval,hs.tree,mS _ _ hs.nn,g1];exact⟨_,bX rfl (by simp only[E8,seval]<;>rfl) (by first|exact .v _|simp only[dW]),by rw[hv]⟩
 by_cases g2:Q0 s b
 case neg =>
  have hv:decide (GM s v b)=false:=decide_eq_false (fun h=>g2 h.2.1)
  simp only[Z8,seval,hs.tree,mS _ _ hs.nn,g1,aLi s hp hf,g2];exact⟨_,bX rfl (by simp only[E8,seval]<;>rfl) (by first|exact .v _|simp only[dW]),by rw[hv]⟩
 simp only[Z8,seval,hs.tree,mS _ _ hs.nn,g1,aLi s hp hf,g2,aG0,aLB];have h4:(Jk b).length=4:=rfl
 refine cB (fun m st=>∃k:Nat,(st.env 2=.ptr 2 0 0∧st.heap 2 0=some (.cells (aB s))∧st.env 3=.ptr 3 0 0∧st.heap 3 0=some (.cells (aT b))∧st.env 5=.v (.int .i64 (aP v.ns b.parent))∧st.env 6=.own 33 0∧st.heap 33 0=some (.row 41 33 (Jk b).length (zM (Jk b)))∧st.env 7=.v (.int .i64 k))∧(∀j:Nat,j<k→C6 s v b (gx gZ (Jk b) j))∧k≤4∧m=4-k)
  (fun e st=>(e=.ret∧st.env 4=.v (.bool false)∧∃j:Nat,j<4∧¬C6 s v b (gx gZ (Jk b) j))∨(e=.exit 0∧∀j:Nat,j<4→C6 s v b (gx gZ (Jk b) j))) 4 ?step ?start ?rest
 case step =>
  rintro m st ⟨k,hI,hj,hk,hm⟩
  by_cases LJ:k<4
  ·have aZ:(k:Int)<(Jk b).length:=by rw[h4];omega
   have q0:(0:Int)≤k:=by omega
   have hw:IntKind.i64.wrap ((k:Int)+1)=((k+1:Nat):Int):=by rw[pM _ (by omega) (by omega)];omega
   obtain⟨c,hc⟩:∃c,gx gZ (Jk b) k=c:=⟨_,rfl⟩
   have ra:=EM hu (aP v.ns b.parent) (Dx s c.aK).1
   have ld:∀T kk off,tR Tryz.prog T=some kk→0<kk→off+kk≤33→uH Tryz.prog T (some (.row 41 33 (Jk b).length (zM (Jk b)))) ((k:Int).toNat * 33+off)=fG Tryz.prog T (bZ c) off:=fun T kk off h1 h2 h3=>by rw[GN q0 aZ h1 h2 h3,hc]
   have ld0:∀T kk,tR Tryz.prog T=some kk→0<kk→kk≤33→uH Tryz.prog T (some (.row 41 33 (Jk b).length (zM (Jk b)))) ((k:Int).toNat * 33)=fG Tryz.prog T (bZ c) 0:=fun T kk h1 h2 h3=>by rw[ZD q0 aZ h1 h2 h3,hc]
   have nxt:C6 s v b c→∀j:Nat,j<k+1→C6 s v b (gx gZ (Jk b) j):=fun h j N3=>(Nat.lt_succ_iff_lt_or_eq.1 N3).elim (hj j) fun e=>by subst e;rw[hc];exact h
   have Q4:=ld0 23 1 MQ (by decide) (by decide)
   have ld2:=ld 27 32 1 aLD (by decide) (by decide)
   have cl:∀i:Int,(k:Int)<4:=fun _=>by omega
   have hl4:(k:Int)<((Jk b).length:Int):=aZ
   by_cases h1:c.aK≤s.bN.fin.aK
   ·apply oN (4-(k+1))
    ·simp only[Z8,seval,hI,aZ,q0,Q4,ld2,h1,hw];rfl
    ·exact⟨k+1,by simp only[E8,seval,hI],nxt (.inl h1),by omega,rfl⟩
   by_cases h2:(Dx s c.aK).1<b.slot
   ·by_cases h3:GG v.ns (aP v.ns b.parent) (Dx s c.aK).1<0
    ·apply oT (.ret)
     ·simp only[Z8,seval,hI,aZ,q0,Q4,ld2,h1,h2,h3,Vf s hf,eC,hs.tree,LR _ hu hs.nn];rfl
     ·exact .inl ⟨rfl,by simp only[E8,seval],k,LJ,by rw[hc];exact fun h=>h.elim h1 fun h=>by rw[if_pos h2] at h;omega⟩
    have q3:0≤GG v.ns (aP v.ns b.parent) (Dx s c.aK).1:=by omega
    by_cases N5:(nd v.ns (GG v.ns (aP v.ns b.parent) (Dx s c.aK).1)).block.root=c.root
    ·apply oN (4-(k+1))
     ·simp only[Z8,seval,hI,aZ,q0,Q4,ld2,h1,h2,h3,Vf s hf,eC,hs.tree,LR _ hu hs.nn,q3,ra,N5,hw];rfl
     ·exact⟨k+1,by simp only[E8,seval,hI],nxt (.inr (by rw[if_pos h2];exact⟨q3,N5⟩)),by omega,rfl⟩
    ·apply oT (.ret)
     ·simp only[Z8,seval,hI,aZ,q0,Q4,ld2,h1,h2,h3,Vf s hf,eC,hs.tree,LR _ hu hs.nn,q3,ra,N5];rfl
     ·exact .inl ⟨rfl,by simp only[E8,seval],k,LJ,by rw[hc];exact fun h=>h.elim h1 fun h=>by rw[if_pos h2] at h;exact N5 h.2⟩
   ·by_cases N5:b.root=c.root
    ·apply oN (4-(k+1))
     ·simp only[Z8,seval,hI,aZ,q0,Q4,ld2,h1,h2,Vf s hf,eC,N5,hw];rfl
     ·exact⟨k+1,by simp only[E8,seval,hI],nxt (.inr (by rw[if_neg h2];exact N5)),by omega,rfl⟩
    ·apply oT (.ret)
     ·simp only[Z8,seval,hI,aZ,q0,Q4,ld2,h1,h2,Vf s hf,eC,N5];rfl
     ·exact .inl ⟨rfl,by simp only[E8,seval],k,LJ,by rw[hc];exact fun h=>h.elim h1 fun h=>by rw[if_neg h2] at h;exact N5 h⟩
  ·have aZ:¬((k:Int)<(Jk b).length):=by rw[h4];omega
   apply oT (.exit 0)
   ·simp only[Z8,seval,hI,aZ];rfl
   ·exact .inr ⟨rfl,fun j h=>hj j (by omega)⟩
 case start=>exact⟨0,by simp only[E8,seval]<;>rfl,fun j h=>by omega,by omega,by omega⟩
 case rest =>
  rintro e st (⟨rfl,h,j,hj,hn⟩|⟨rfl,h⟩)
  ·have hv:decide (GM s v b)=false:=decide_eq_false (fun h=>hn (h.2.2 j hj))
   simp only[Z8,seval];exact⟨_,bX rfl (by simp only[E8,seval,h]<;>rfl) (by first|exact .v _|simp only[dW,h]),by rw[hv]⟩
  ·have hv:decide (GM s v b)=true:=decide_eq_true ⟨by omega,g2,h⟩
   simp only[Z8,seval];exact⟨_,bX rfl (by simp only[E8,seval]<;>rfl) (by first|exact .v _|simp only[dW]),by rw[hv]⟩
theorem Q5 {s:aM} {v:SV} (hs:SD s v) (hu:iB v.ns) (hp:s.cFg.rD≠0) (b:Block) (st:St) (d:Option Nat):aN (aD Tryz.prog) 69 [.agg (aB s),.agg (aT b)] st d=some { dst:=d,val:=.v (.bool (decide (GM s v b)))}:=bL (bI hs.flat (uY b)) (c69 hs hu hp b) (.v _)
noncomputable def Jz (s:aM) (v:SV) (b:Block):Int :=
 if b.root=dO then 2 else if KnB v b.root then 9 else if s.now<b.slot then 12 else if b.slot≤(Dx s s.bN.fin.aK).1 then 13 else
 if aP v.ns b.parent<0 then 10 else if b.slot≤(nd v.ns (aP v.ns b.parent)).block.slot then 14 else if (nd v.ns (aP v.ns b.parent)).status=2 then 15 else
 if ¬GM s v b then 16 else if ¬C4 s.cFg.BP (nd v.ns (aP v.ns b.parent)).block b then 17 else if s.cFg.mL.sO≤(v.ns.length:Int) then 11 else 0
theorem c52 {s:aM} {v:SV} (hs:SD s v) (hu:iB v.ns) (hp:s.cFg.rD≠0) (b:Block):aD Tryz.prog 52 [.agg (aB s),.agg (aT b)]=some (.v (.int .i64 (Jz s v b))):=by
 have hf:=hs.flat
 rw[cL Tryz.func52 rfl aQM rfl];refine kN ?_
 have r1:=eY v.ns b.parent
 by_cases g1:b.root=dO
 ·simp only[Z8,seval,Vf s hf,eC,Q1 hs,hs.tree,mS _ _ hs.nn,Q5 hs hu hp,Wz,decide_true,decide_false,g1];exact⟨_,bX rfl (by simp only[E8,seval]<;>rfl) (by first|exact .v _|simp only[dW]),by simp only[Jz,g1,not_true_eq_false,not_false_eq_true,if_true,if_false]⟩
 by_cases g2:KnB v b.root
 ·simp only[Z8,seval,Vf s hf,eC,Q1 hs,hs.tree,mS _ _ hs.nn,Q5 hs hu hp,Wz,decide_true,decide_false,g1,g2];exact⟨_,bX rfl (by simp only[E8,seval]<;>rfl) (by first|exact .v _|simp only[dW]),by simp only[Jz,g1,g2,not_true_eq_false,not_false_eq_true,if_true,if_false]⟩
 by_cases g3:s.now<b.slot
 ·simp only[Z8,seval,Vf s hf,eC,Q1 hs,hs.tree,mS _ _ hs.nn,Q5 hs hu hp,Wz,decide_true,decide_false,g1,g2,g3];exact⟨_,bX rfl (by simp only[E8,seval]<;>rfl) (by first|exact .v _|simp only[dW]),by simp only[Jz,g1,g2,g3,not_true_eq_false,not_false_eq_true,if_true,if_false]⟩
 by_cases g4:b.slot≤(Dx s s.bN.fin.aK).1
 ·simp only[Z8,seval,Vf s hf,eC,Q1 hs,hs.tree,mS _ _ hs.nn,Q5 hs hu hp,Wz,decide_true,decide_false,g1,g2,g3,g4];exact⟨_,bX rfl (by simp only[E8,seval]<;>rfl) (by first|exact .v _|simp only[dW]),by simp only[Jz,g1,g2,g3,g4,not_true_eq_false,not_false_eq_true,if_true,if_false]⟩
 by_cases g5:aP v.ns b.parent<0
 ·simp only[Z8,seval,Vf s hf,eC,Q1 hs,hs.tree,mS _ _ hs.nn,Q5 hs hu hp,Wz,decide_true,decide_false,g1,g2,g3,g4,g5];exact⟨_,bX rfl (by simp only[E8,seval]<;>rfl) (by first|exact .v _|simp only[dW]),by simp only[Jz,g1,g2,g3,g4,g5,not_true_eq_false,not_false_eq_true,if_true,if_false]⟩
 have q0:0≤aP v.ns b.parent:=by omega
 by_cases g6:b.slot≤(nd v.ns (aP v.ns b.parent)).block.slot
 ·simp only[Z8,seval,Vf s hf,eC,Q1 hs,hs.tree,mS _ _ hs.nn,Q5 hs hu hp,Wz,decide_true,decide_false,g1,g2,g3,g4,g5,q0,r1,g6];exact⟨_,bX rfl (by simp only[E8,seval]<;>rfl) (by first|exact .v _|simp only[dW]),by simp only[Jz,g1,g2,g3,g4,g5,g6,not_true_eq_false,not_false_eq_true,if_true,if_false]⟩
 by_cases g7:(nd v.ns (aP v.ns b.parent)).status=2
 ·simp only[Z8,seval,Vf s hf,eC,Q1 hs,hs.tree,mS _ _ hs.nn,Q5 hs hu hp,Wz,decide_true,decide_false,g1,g2,g3,g4,g5,q0,r1,g6,bt g7];exact⟨_,bX rfl (by simp only[E8,seval]<;>rfl) (by first|exact .v _|simp only[dW]),by simp only[Jz,g1,g2,g3,g4,g5,g6,g7,not_true_eq_false,not_false_eq_true,if_true,if_false]⟩
 by_cases g8:¬GM s v b
 ·simp only[Z8,seval,Vf s hf,eC,Q1 hs,hs.tree,mS _ _ hs.nn,Q5 hs hu hp,Wz,decide_true,decide_false,g1,g2,g3,g4,g5,q0,r1,g6,bf g7,g8];exact⟨_,bX rfl (by simp only[E8,seval]<;>rfl) (by first|exact .v _|simp only[dW]),by simp only[Jz,g1,g2,g3,g4,g5,g6,g7,g8,not_true_eq_false,not_false_eq_true,if_true,if_false]⟩
 replace g8:=Classical.not_not.1 g8
 by_cases g9:¬C4 s.cFg.BP (nd v.ns (aP v.ns b.parent)).block b
 ·simp only[Z8,seval,Vf s hf,eC,Q1 hs,hs.tree,mS _ _ hs.nn,Q5 hs hu hp,Wz,decide_true,decide_false,g1,g2,g3,g4,g5,q0,r1,g6,bf g7,g8,g9];exact⟨_,bX rfl (by simp only[E8,seval]<;>rfl) (by first|exact .v _|simp only[dW]),by simp only[Jz,g1,g2,g3,g4,g5,g6,g7,g8,g9,not_true_eq_false,not_false_eq_true,if_true,if_false]⟩
 replace g9:=Classical.not_not.1 g9
 by_cases Q6:s.cFg.mL.sO≤(v.ns.length:Int)
 ·simp only[Z8,seval,Vf s hf,eC,Q1 hs,hs.tree,mS _ _ hs.nn,Q5 hs hu hp,Wz,decide_true,decide_false,g1,g2,g3,g4,g5,q0,r1,g6,bf g7,g8,g9,Q6];exact⟨_,bX rfl (by simp only[E8,seval]<;>rfl) (by first|exact .v _|simp only[dW]),by simp only[Jz,g1,g2,g3,g4,g5,g6,g7,g8,g9,Q6,not_true_eq_false,not_false_eq_true,if_true,if_false]⟩
 simp only[Z8,seval,Vf s hf,eC,Q1 hs,hs.tree,mS _ _ hs.nn,Q5 hs hu hp,Wz,decide_true,decide_false,g1,g2,g3,g4,g5,q0,r1,g6,bf g7,g8,g9,Q6];exact⟨_,bX rfl (by simp only[E8,seval]<;>rfl) (by first|exact .v _|simp only[dW]),by simp only[Jz,g1,g2,g3,g4,g5,g6,g7,g8,g9,Q6,not_true_eq_false,not_false_eq_true,if_true,if_false]⟩
theorem k52 {s:aM} {v:SV} (hs:SD s v) (hu:iB v.ns) (hp:s.cFg.rD≠0) (b:Block) (st:St) (d:Option Nat):aN (aD Tryz.prog) 52 [.agg (aB s),.agg (aT b)] st d=some { dst:=d,val:=.v (.int .i64 (Jz s v b))}:=bL (bI hs.flat (uY b)) (c52 hs hu hp b) (.v _)
def MR (acc:Bool × fV × fV) (n:Node):Bool × fV × fV :=
 if n.status=2 then acc else (true,if acc.1=false∨acc.2.1.aK<n.block.dQ.pj.aK then n.block.dQ.pj else acc.2.1,if acc.1=false∨acc.2.2.aK<n.block.dQ.pf.aK then n.block.dQ.pf else acc.2.2)
def C7 (ns:List Node):Bool × fV × fV:=ns.foldl MR (false,gZ,gZ)
def Jl (ns:List Node):pF:=⟨(C7 ns).2.1,(C7 ns).2.2⟩
theorem C8 (ns:List Node) (k:Nat) (h:k<ns.length):C7 (ns.take (k+1))=MR (C7 (ns.take k)) (nd ns k):=by
 obtain⟨h',e⟩:=Ld (ns:=ns) (i:=(k:Int)) (by omega) (by omega)
 unfold C7;rw[List.take_succ_eq_append_getElem h,List.foldl_append,e];rfl
theorem c67 {s:aM} {v:SV} (hs:SD s v):aD Tryz.prog 67 [.agg (aB s)]=some (.agg (fK (Jl v.ns))):=by
 have hn:=hs.nn
 rw[cL Tryz.func67 rfl aQN rfl];refine kN ?_
 simp only[Z8,seval,hs.tree];refine cB (fun m st=>∃(k:Nat) (b:Bool) (x y:fV),(st.env 1=.ptr 1 0 0∧st.heap 1 0=some (.cells (aB s))∧st.env 2=.ptr 2 0 0∧st.heap 2 0=some (.cells (fK Np))∧st.env 3=.ptr 3 0 0∧st.heap 3 0=some (.cells (fK ⟨x,y⟩))∧st.env 4=.v (.bool b)∧st.env 5=.v (.int .i64 k))∧C7 (v.ns.take k)=(b,x,y)∧k≤v.ns.length∧m=v.ns.length-k)
  (fun e st=>e=.exit 0∧∃(x y:fV),(st.env 2=.ptr 2 0 0∧st.heap 2 0=some (.cells (fK Np))∧st.env 3=.ptr 3 0 0∧st.heap 3 0=some (.cells (fK ⟨x,y⟩)))∧Jl v.ns=⟨x,y⟩) v.ns.length ?step ?start ?rest
 case step =>
  rintro m st ⟨k,b,x,y,hI,hp,hk,hm⟩
  by_cases aZ:(k:Int)<v.ns.length
  ·have q0:(0:Int)≤k:=by omega
   have hw:IntKind.i64.wrap ((k:Int)+1)=((k+1:Nat):Int):=by rw[pM _ (by omega) (by omega)];omega
   have uW:=C8 v.ns k (by omega)
   rw[hp] at uW;unfold MR at uW;by_cases h1:(nd v.ns k).status=2
   ·rw[if_pos h1] at uW;apply oN (v.ns.length-(k+1))
    ·simp only[Z8,seval,hI,aZ,q0,hs.tree,bt h1,hw];rfl
    ·exact⟨k+1,b,x,y,by simp only[E8,seval,hI],uW,by omega,rfl⟩
   rw[if_neg h1] at uW;cases b
   ·simp only[true_or,if_true] at uW;apply oN (v.ns.length-(k+1))
    ·simp only[Z8,seval,hI,aZ,q0,hs.tree,bf h1,hw];rfl
    ·exact⟨k+1,true,_,_,by simp only[E8,seval,hI]<;>rfl,uW,by omega,rfl⟩
   ·simp only[Bool.true_eq_false,false_or] at uW;by_cases h2:x.aK<(nd v.ns k).block.dQ.pj.aK
    ·rw[if_pos h2] at uW;by_cases h3:y.aK<(nd v.ns k).block.dQ.pf.aK
     ·rw[if_pos h3] at uW;apply oN (v.ns.length-(k+1))
      ·simp only[Z8,seval,hI,aZ,q0,hs.tree,bf h1,h2,h3,hw];rfl
      ·exact⟨k+1,true,_,_,by simp only[E8,seval,hI]<;>rfl,uW,by omega,rfl⟩
     ·rw[if_neg h3] at uW;apply oN (v.ns.length-(k+1))
      ·simp only[Z8,seval,hI,aZ,q0,hs.tree,bf h1,h2,h3,hw];rfl
      ·exact⟨k+1,true,_,_,by simp only[E8,seval,hI]<;>rfl,uW,by omega,rfl⟩
    ·rw[if_neg h2] at uW;by_cases h3:y.aK<(nd v.ns k).block.dQ.pf.aK
     ·rw[if_pos h3] at uW;apply oN (v.ns.length-(k+1))
      ·simp only[Z8,seval,hI,aZ,q0,hs.tree,bf h1,h2,h3,hw];rfl
      ·exact⟨k+1,true,_,_,by simp only[E8,seval,hI]<;>rfl,uW,by omega,rfl⟩
     ·rw[if_neg h3] at uW;apply oN (v.ns.length-(k+1))
      ·simp only[Z8,seval,hI,aZ,q0,hs.tree,bf h1,h2,h3,hw];rfl
      ·exact⟨k+1,true,_,_,by simp only[E8,seval,hI]<;>rfl,uW,by omega,rfl⟩
  ·have Dv:k=v.ns.length:=by omega
   rw[Dv,List.take_length] at hp;apply oT (.exit 0)
   ·simp only[Z8,seval,hI,aZ,hs.tree];rfl
   ·exact⟨rfl,x,y,by simp only[E8,seval,hI],by unfold Jl;rw[hp]⟩
 case start=>exact⟨0,false,gZ,gZ,by simp only[E8,seval]<;>rfl,rfl,by omega,by omega⟩
 case rest =>
  rintro e st ⟨rfl,x,y,hI,hp⟩
  simp only[Z8,seval,hI];exact⟨_,fL rfl (by simp only[E8,seval,hI]<;>rfl) (by simp only[Z8,seval,hI]<;>rfl) (by simp only[dW,and_self,hI]),by rw[hp]⟩
theorem k67 {s:aM} {v:SV} (hs:SD s v) (st:St) (d:Option Nat):aN (aD Tryz.prog) 67 [.agg (aB s)] st d=some { dst:=d,val:=.agg (fK (Jl v.ns))}:=bL (cP hs.flat) (c67 hs) (.agg _ (Ek _))
noncomputable def Gl (s:aM) (c:fV):fV:=if s.bN.gY.aK<c.aK then c else s.bN.gY
noncomputable def Dy (s:aM) (c:fV):fV:=if s.bN.fin.aK<c.aK then c else s.bN.fin
def mU (s:aM) (v:SV) (J F:fV):Prop :=
 aP v.ns J.root<0∨aP v.ns F.root<0∨(nd v.ns (aP v.ns J.root)).status=2∨(nd v.ns (aP v.ns F.root)).status=2∨¬TY s v.ns (aP v.ns J.root) J.aK∨¬TY s v.ns (aP v.ns F.root) F.aK ∨
 Aw v.ns (aP v.ns F.root) (aP v.ns J.root)=false∨J.aK<F.aK∨Dw s s.now<J.aK∨N4 (ol v.T) J<0
noncomputable def C9 (s:aM) (v:SV) (c1 c2:fV):AV:=if mU s v (Gl s c1) (Dy s c2) then .dZ [.agg (bZ gZ),.agg (bZ gZ),.v (.bool false)] else .dZ [.agg (bZ (Gl s c1)),.agg (bZ (Dy s c2)),.v (.bool true)]
end Go.Ab.Tryz
section
namespace Go.Ab.Tryz
open Classical Go.Proofs Go.Ab
end Go.Ab.Tryz
namespace Go.Ab
theorem ZE {α β:Type} {x:Option α} {k:α→Option β} {R:β→Prop} (Q:α→Prop) (h:∃a,x=some a∧Q a) (rest:∀a,Q a→∃r,k a=some r∧R r):∃r,cC x k=some r∧R r:=by
 obtain⟨a,h1,h2⟩:=h
 rw[h1];exact rest a h2
end Go.Ab
namespace Go.Ab.Tryz
open Classical Go.Proofs Go.Ab
theorem Cu:aF 7 73 (some 41)=[]∧aF 7 72 (some 41)=[]:=⟨rfl,rfl⟩
theorem qD {α:Type} (a:α) (l m:List α):List.append (a :: l) m=a :: List.append l m:=rfl
theorem qF {α:Type} (m:List α):List.append ([]:List α) m=m:=rfl
theorem c59 {s:aM} {v:SV} (hs:SD s v) (hu:iB v.ns) (hp:s.cFg.rD≠0) (c1 c2:fV):aD Tryz.prog 59 [.agg (aB s),.agg (bZ c1),.agg (bZ c2)]=some (C9 s v c1 c2):=by
 have hf:=hs.flat
 have SS:=hs.fT
 rw[cG Tryz.func59 rfl aQO (by kernel_rfl) rfl]
 refine kN ?_
 unfold C9;obtain⟨J,eJ⟩:∃J,Gl s c1=J:=⟨_,rfl⟩
 obtain⟨F,eF⟩:∃F,Dy s c2=F:=⟨_,rfl⟩
 rw[eJ,eF];simp only[ZG,seval,Bool.false_and,Prod.mk.injEq,Qk,Cu,qD,qF];refine ZE (fun a=>a.1=.normal∧a.2.env 3=.ptr 3 0 0∧a.2.heap 3 0=some (.cells (aB s))∧a.2.env 5=.ptr 5 0 0∧a.2.heap 5 0=some (.cells (bZ c2))∧a.2.env 6=.ptr 6 0 0∧a.2.heap 6 0=some (.cells (bZ gZ))∧a.2.env 7=.ptr 7 0 0∧a.2.heap 7 0=some (.cells (bZ gZ))∧a.2.env 9=.ptr 9 0 0∧a.2.heap 9 0=some (.cells (bZ J))∧a.2.env 10=.ptr 10 0 0∧a.2.heap 10 0=some (.cells (bZ s.bN.fin))) ?m1 ?r1
 case m1 =>
  unfold Gl at eJ;by_cases a1:s.bN.gY.aK<c1.aK
  ·rw[if_pos a1] at eJ;simp only[a1,decide_true,if_true];exact⟨_,rfl,rfl,by simp only[E8,seval,eJ]<;>exact⟨rfl,rfl⟩⟩
  ·rw[if_neg a1] at eJ;simp only[a1,decide_false,Bool.false_eq_true,if_false];exact⟨_,rfl,rfl,by simp only[E8,seval,eJ]<;>exact⟨rfl,rfl⟩⟩
 case r1 =>
  rintro⟨_,st⟩ ⟨rfl,hI⟩
  dsimp only at hI
  simp only[ZG,seval,Bool.false_and,Prod.mk.injEq,Qk,Cu,qD,qF,hI];refine ZE (fun a=>a.1=.normal∧a.2.env 3=.ptr 3 0 0∧a.2.heap 3 0=some (.cells (aB s))∧a.2.env 6=.ptr 6 0 0∧a.2.heap 6 0=some (.cells (bZ gZ))∧a.2.env 7=.ptr 7 0 0∧a.2.heap 7 0=some (.cells (bZ gZ))∧a.2.env 9=.ptr 9 0 0∧a.2.heap 9 0=some (.cells (bZ J))∧a.2.env 10=.ptr 10 0 0∧a.2.heap 10 0=some (.cells (bZ F))) ?m2 ?r2
  case m2 =>
   unfold Dy at eF;by_cases a2:s.bN.fin.aK<c2.aK
   ·rw[if_pos a2] at eF;simp only[a2,decide_true,if_true];exact⟨_,rfl,rfl,by simp only[E8,seval,hI,eF]⟩
   ·rw[if_neg a2] at eF;simp only[a2,decide_false,Bool.false_eq_true,if_false];exact⟨_,rfl,rfl,by simp only[E8,seval,hI,eF]⟩
  case r2 =>
   rintro⟨_,st⟩ ⟨rfl,hK⟩
   dsimp only at hK
   have r1:=eY v.ns J.root
   have r2:=eY v.ns F.root
   by_cases g1:aP v.ns J.root<0
   ·simp only[ZG,seval,Bool.false_and,Prod.mk.injEq,Qk,Cu,qD,qF,hK,hs.tree,mS _ _ hs.nn,Nc _ hu hs.nn,Mo s hp hf,hs.tables,ZB _ hs.nT SS,decide_true,decide_false,g1];exact⟨_,by apply gU;rfl;all_goals simp only[aI,bY,Z8,seval,hK]<;>rfl,by rw[if_pos (show mU s v J F by simp only[mU,g1,not_true_eq_false,not_false_eq_true,true_or,or_true])]⟩
   by_cases g2:aP v.ns F.root<0
   ·simp only[ZG,seval,Bool.false_and,Prod.mk.injEq,Qk,Cu,qD,qF,hK,hs.tree,mS _ _ hs.nn,Nc _ hu hs.nn,Mo s hp hf,hs.tables,ZB _ hs.nT SS,decide_true,decide_false,g1,g2];exact⟨_,by apply gU;rfl;all_goals simp only[aI,bY,Z8,seval,hK]<;>rfl,by rw[if_pos (show mU s v J F by simp only[mU,g1,g2,not_true_eq_false,not_false_eq_true,true_or,or_true])]⟩
   have q1:0≤aP v.ns J.root:=by omega
   have q2:0≤aP v.ns F.root:=by omega
   by_cases g3:(nd v.ns (aP v.ns J.root)).status=2
   ·simp only[ZG,seval,Bool.false_and,Prod.mk.injEq,Qk,Cu,qD,qF,hK,hs.tree,mS _ _ hs.nn,Nc _ hu hs.nn,Mo s hp hf,hs.tables,ZB _ hs.nT SS,decide_true,decide_false,g1,g2,q1,q2,r1,r2,bt g3];exact⟨_,by apply gU;rfl;all_goals simp only[aI,bY,Z8,seval,hK]<;>rfl,by rw[if_pos (show mU s v J F by simp only[mU,g1,g2,g3,not_true_eq_false,not_false_eq_true,true_or,or_true])]⟩
   by_cases g4:(nd v.ns (aP v.ns F.root)).status=2
   ·simp only[ZG,seval,Bool.false_and,Prod.mk.injEq,Qk,Cu,qD,qF,hK,hs.tree,mS _ _ hs.nn,Nc _ hu hs.nn,Mo s hp hf,hs.tables,ZB _ hs.nT SS,decide_true,decide_false,g1,g2,q1,q2,r1,r2,bf g3,bt g4];exact⟨_,by apply gU;rfl;all_goals simp only[aI,bY,Z8,seval,hK]<;>rfl,by rw[if_pos (show mU s v J F by simp only[mU,g1,g2,g3,g4,not_true_eq_false,not_false_eq_true,true_or,or_true])]⟩
   have ke1:=aLk hs (aP v.ns J.root) J.aK q1 r1.2
   have ke2:=aLk hs (aP v.ns F.root) F.aK q2 r2.2
   by_cases g5:¬TY s v.ns (aP v.ns J.root) J.aK
   ·simp only[ZG,seval,Bool.false_and,Prod.mk.injEq,Qk,Cu,qD,qF,hK,hs.tree,mS _ _ hs.nn,Nc _ hu hs.nn,Mo s hp hf,hs.tables,ZB _ hs.nT SS,decide_true,decide_false,g1,g2,q1,q2,r1,r2,bf g3,bf g4,ke1,ke2,g5];exact⟨_,by apply gU;rfl;all_goals simp only[aI,bY,Z8,seval,hK]<;>rfl,by rw[if_pos (show mU s v J F by simp only[mU,g1,g2,g3,g4,g5,not_true_eq_false,not_false_eq_true,true_or,or_true])]⟩
   replace g5:=Classical.not_not.1 g5
   by_cases g6:¬TY s v.ns (aP v.ns F.root) F.aK
   ·simp only[ZG,seval,Bool.false_and,Prod.mk.injEq,Qk,Cu,qD,qF,hK,hs.tree,mS _ _ hs.nn,Nc _ hu hs.nn,Mo s hp hf,hs.tables,ZB _ hs.nT SS,decide_true,decide_false,g1,g2,q1,q2,r1,r2,bf g3,bf g4,ke1,ke2,g5,g6];exact⟨_,by apply gU;rfl;all_goals simp only[aI,bY,Z8,seval,hK]<;>rfl,by rw[if_pos (show mU s v J F by simp only[mU,g1,g2,g3,g4,g5,g6,not_true_eq_false,not_false_eq_true,true_or,or_true])]⟩
   replace g6:=Classical.not_not.1 g6
   by_cases g7:Aw v.ns (aP v.ns F.root) (aP v.ns J.root)=false
   ·simp only[ZG,seval,Bool.false_and,Prod.mk.injEq,Qk,Cu,qD,qF,hK,hs.tree,mS _ _ hs.nn,Nc _ hu hs.nn,Mo s hp hf,hs.tables,ZB _ hs.nT SS,decide_true,decide_false,g1,g2,q1,q2,r1,r2,bf g3,bf g4,ke1,ke2,g5,g6,g7];exact⟨_,by apply gU;rfl;all_goals simp only[aI,bY,Z8,seval,hK]<;>rfl,by rw[if_pos (show mU s v J F by simp only[mU,g1,g2,g3,g4,g5,g6,g7,not_true_eq_false,not_false_eq_true,true_or,or_true])]⟩
   replace g7:=(by simpa using g7:Aw v.ns _ _=true)
   by_cases g8:J.aK<F.aK
   ·simp only[ZG,seval,Bool.false_and,Prod.mk.injEq,Qk,Cu,qD,qF,hK,hs.tree,mS _ _ hs.nn,Nc _ hu hs.nn,Mo s hp hf,hs.tables,ZB _ hs.nT SS,decide_true,decide_false,g1,g2,q1,q2,r1,r2,bf g3,bf g4,ke1,ke2,g5,g6,g7,g7,g8];exact⟨_,by apply gU;rfl;all_goals simp only[aI,bY,Z8,seval,hK]<;>rfl,by rw[if_pos (show mU s v J F by simp only[mU,g1,g2,g3,g4,g5,g6,g7,g8,not_true_eq_false,not_false_eq_true,true_or,or_true])]⟩
   by_cases g9:Dw s s.now<J.aK
   ·simp only[ZG,seval,Bool.false_and,Prod.mk.injEq,Qk,Cu,qD,qF,hK,hs.tree,mS _ _ hs.nn,Nc _ hu hs.nn,Mo s hp hf,hs.tables,ZB _ hs.nT SS,decide_true,decide_false,g1,g2,q1,q2,r1,r2,bf g3,bf g4,ke1,ke2,g5,g6,g7,g7,g8,g9];exact⟨_,by apply gU;rfl;all_goals simp only[aI,bY,Z8,seval,hK]<;>rfl,by rw[if_pos (show mU s v J F by simp only[mU,g1,g2,g3,g4,g5,g6,g7,g8,g9,not_true_eq_false,not_false_eq_true,true_or,or_true])]⟩
   by_cases Q6:N4 (ol v.T) J<0
   ·simp only[ZG,seval,Bool.false_and,Prod.mk.injEq,Qk,Cu,qD,qF,hK,hs.tree,mS _ _ hs.nn,Nc _ hu hs.nn,Mo s hp hf,hs.tables,ZB _ hs.nT SS,decide_true,decide_false,g1,g2,q1,q2,r1,r2,bf g3,bf g4,ke1,ke2,g5,g6,g7,g7,g8,g9,Q6];exact⟨_,by apply gU;rfl;all_goals simp only[aI,bY,Z8,seval,hK]<;>rfl,by rw[if_pos (show mU s v J F by simp only[mU,g1,g2,g3,g4,g5,g6,g7,g8,g9,Q6,not_true_eq_false,not_false_eq_true,true_or,or_true])]⟩
   simp only[ZG,seval,Bool.false_and,Prod.mk.injEq,Qk,Cu,qD,qF,hK,hs.tree,mS _ _ hs.nn,Nc _ hu hs.nn,Mo s hp hf,hs.tables,ZB _ hs.nT SS,decide_true,decide_false,g1,g2,q1,q2,r1,r2,bf g3,bf g4,ke1,ke2,g5,g6,g7,g7,g8,g9,Q6];exact⟨_,by apply gU;rfl;all_goals simp only[aI,bY,Z8,seval,hK]<;>rfl,by rw[if_neg (show ¬mU s v J F by simp only[mU,g1,g2,g3,g4,g5,g6,g7,g8,g9,Q6,not_true_eq_false,not_false_eq_true,or_self,Bool.true_eq_false])]⟩
theorem k59 {s:aM} {v:SV} (hs:SD s v) (hu:iB v.ns) (hp:s.cFg.rD≠0) (c1 c2:fV) (st:St) (d:Option Nat):aN (aD Tryz.prog) 59 [.agg (aB s),.agg (bZ c1),.agg (bZ c2)] st d=some { dst:=d,val:=C9 s v c1 c2 }:=bL (oE hs.flat (.agg _ (dD c1)) (.agg _ (dD c2))) (c59 hs hu hp c1 c2) (by unfold C9;split<;>exact .dZ _ (oE (.agg _ (dD _)) (.agg _ (dD _)) (.v _)))
end Go.Ab.Tryz
end
namespace Go.Ab.Tryz
open Classical Go.Proofs Go.Ab
theorem bG (st:St) (s g:Nat):cM st (.own s g)=jF (st.heap s g):=by
 unfold cM jF;rw[if_neg (pA s g)];cases h:st.heap s g with
 | none=>simp only[h]
 | some e=>cases e<;>simp only[h]
theorem SD.fl {s:aM} {v:SV} (h:SD s v):Flat s.cFg.jP∧Flat s.gG.dT∧Flat s.gG.gX∧Flat s.dV.early∧Flat s.dV.bW∧Flat s.tree.nodes∧Flat s.tables:=(Gx s).1 h.flat
noncomputable def Hc (s:aM) (v:SV) (c1 c2:fV):SV :=
 if mU s v (Gl s c1) (Dy s c2) then v else
 if Dy s c2=s.bN.fin then { v with T:=nz (yP (ol v.T) (Gl s c1).aK)} else
 { v with T:=nz (yP (ol v.T) (Gl s c1).aK),ns:=(oQ v.ns (aP v.ns (Dy s c2).root) v.ns.length).1,O:=nz ((ol v.O).filter fun b=>decide ((Dx s (Dy s c2).aK).1<b.slot))}
noncomputable def xL (s:aM) (v:SV) (c1 c2:fV):aM :=
 if mU s v (Gl s c1) (Dy s c2) then s else
 if Dy s c2=s.bN.fin then { s with bN:=⟨Gl s c1,Dy s c2⟩,tables:=ov aR (nz (yP (ol v.T) (Gl s c1).aK))} else
 { s with bN:=⟨Gl s c1,Dy s c2⟩,tables:=ov aR (nz (yP (ol v.T) (Gl s c1).aK)),
          tree:=⟨.sl (oQ v.ns (aP v.ns (Dy s c2).root) v.ns.length).1.length (cF (oQ v.ns (aP v.ns (Dy s c2).root) v.ns.length).1)⟩,
          iR:=if aP (oQ v.ns (aP v.ns (Dy s c2).root) v.ns.length).1 s.iR<0 then dO else s.iR,
          dV:={ s.dV with bW:=ov aH (nz ((ol v.O).filter fun b=>decide ((Dx s (Dy s c2).aK).1<b.slot)))} }
theorem GO {ns:List Node} (i:Int):(oQ ns i ns.length).1.length≤ns.length:=Qg ns i ns.length
theorem SD.dM {s:aM} {v:SV} (h:SD s v) (hu:iB v.ns) (c1 c2:fV):SD (xL s v c1 c2) (Hc s v c1 c2):=by
 have hT:((ol (nz (yP (ol v.T) (Gl s c1).aK))).length:Int)<1000000:=by rw[nU];have:=List.length_filter_le (fun t:Table=>decide ((Gl s c1).aK≤t.ck.aK)) (ol v.T);have:=h.nT;unfold yP;omega
 have hB:∀t∈ol (nz (yP (ol v.T) (Gl s c1).aK)),sN t:=by rw[nU];exact fun t m=>h.tB t (List.mem_filter.1 m).1
 unfold xL Hc;split
 ·exact h
 split
 ·exact⟨h.jP,h.dT,h.gX,h.early,h.bW,h.tree,rfl,h.eV,hB,h.nB,h.nL,h.nQ,h.nE,h.nO,hT,h.nn⟩
 ·refine⟨h.jP,h.dT,h.gX,h.early,rfl,rfl,rfl,h.eV,hB,h.nB,h.nL,h.nQ,h.nE, ?_,hT, ?_⟩
  ·rw[nU];have:=List.length_filter_le (fun b:Block=>decide ((Dx s (Dy s c2).aK).1<b.slot)) (ol v.O);have:=h.nO;omega
  ·have:=GO (ns:=v.ns) (aP v.ns (Dy s c2).root);have:=h.nn;show ((oQ v.ns (aP v.ns (Dy s c2).root) v.ns.length).1.length:Int)<1000000;omega
theorem c61 {s:aM} {v:SV} (hs:SD s v) (hu:iB v.ns) (hp:s.cFg.rD≠0) (c1 c2:fV):aD Tryz.prog 61 [.agg (aB s),.agg (bZ c1),.agg (bZ c2)]=some (.agg (aB (xL s v c1 c2))):=by
 have hf:=hs.flat
 have hn:=hs.nO
 have kU:=hs.fl
 have GP:=k59 hs hu hp c1 c2
 rw[cG Tryz.func61 rfl aQP (by kernel_rfl) rfl]
 refine kN ?_
 by_cases b1:mU s v (Gl s c1) (Dy s c2)
 ·have hv:xL s v c1 c2=s:=if_pos b1
  have hc:C9 s v c1 c2=.dZ [.agg (bZ gZ),.agg (bZ gZ),.v (.bool false)]:=if_pos b1
  rw[hc] at GP
  simp only[ZG,seval,Bool.false_and,Prod.mk.injEq,tF,GP,eC];exact⟨_,fL rfl (by simp only[E8,seval,hf]<;>rfl) (by simp only[Z8,seval,hf]<;>rfl) (by simp only[dW,and_self,hf]),by rw[hv]⟩
 have hc:C9 s v c1 c2=.dZ [.agg (bZ (Gl s c1)),.agg (bZ (Dy s c2)),.v (.bool true)]:=if_neg b1
 rw[hc] at GP
 have hv:xL s v c1 c2=_:=if_neg b1
 generalize hJ:Gl s c1=J at *
 generalize hF:Dy s c2=F at *
 have YU:=eY v.ns F.root
 have hF0:0≤aP v.ns F.root:=by rcases Int.lt_or_le (aP v.ns F.root) 0 with h|h;exact absurd (.inr (.inl h)) b1;exact h
 have aCU:=aQC v.T hs.nT (fun t m=>(hs.tB t m).fl) J.aK
 have kp:=k34 v.ns hu hs.nn (aP v.ns F.root) ⟨hF0,YU.2⟩
 by_cases e1:yP (ol v.T) J.aK=[]
 ·have hz:(nz (yP (ol v.T) J.aK))=none:=if_pos e1
  rw[show Nm 118 34 aR (yP (ol v.T) J.aK)=.v (.slice none 0 0) from if_pos e1] at aCU;have Xb:=kx aCU (bI hs.fT (.v _)) (.v _)
  by_cases e2:F=s.bN.fin
  ·rw[if_pos e2,hz] at hv;subst e2;simp only[ZG,seval,Bool.false_and,Prod.mk.injEq,tF,GP,eC,hs.tables,Xb,decide_true,decide_false];exact⟨_,fL rfl (by simp only[E8,seval,hf,kU,and_self]<;>rfl) (by simp only[Z8,seval,hf,kU,and_self]<;>rfl) (by simp only[dW,and_self,hf,kU,and_self]),by rw[hv];rfl⟩
  rw[if_neg e2,hz] at hv;obtain⟨Xc,en⟩:∃Xc,(oQ v.ns (aP v.ns F.root) v.ns.length).1=Xc:=⟨_,rfl⟩
  have Is:(Xc.length:Int)<1000000:=by have:=GO (ns:=v.ns) (aP v.ns F.root);have:=hs.nn;rw[← en];omega
  unfold aCH at kp;rw[en] at kp hv;obtain⟨x,ex⟩:∃x,(LO F.aK s.cFg.rD).1=x:=⟨_,rfl⟩
  rw[show (Dx s F.aK).1=x from ex] at hv;by_cases e3:aP Xc s.iR<0
  ·rw[if_pos e3] at hv;obtain⟨S1,eS⟩:∃S1:aM,S1={ cFg:=s.cFg,gG:=s.gG,bN:=⟨J,F⟩,dV:=s.dV,tree:=⟨.sl Xc.length (cF Xc)⟩,now:=s.now,iR:=dO,tables:=.v (.slice none 0 0)}:=⟨_,rfl⟩
   have hS:Flat (.agg (aB S1)):=by rw[eS];simp only[dW,kU,and_self]
   have Xd:=fun st d=>Vf S1 hS F.aK st d
   simp only[Dx,eS,ex] at Xd
   simp only[ZG,seval,Bool.false_and,Prod.mk.injEq,tF,GP,eC,hs.tables,Xb,decide_true,decide_false,e2,hs.tree,mS _ _ hs.nn,kp,mS _ _ Is,e3,Xd,hs.bW];have GQ:S1.dV.bW=ov aH v.O:=by rw[eS];exact hs.bW
   refine mH (fun m st=>∃k:Nat,(st.env 3=.ptr 3 0 0∧st.heap 3 0=some (.cells (aB S1))∧st.env 6=.ptr 6 0 0∧st.heap 6 0=some (.cells (aB gL))∧st.env 11=.v (.int .u64 x)∧st.env 14=.v (.int .i64 k))∧(((((ol v.O).take k).filter (fun b=>decide (x<b.slot)))=[]∧st.env 13=.v (.slice none 0 0))∨((((ol v.O).take k).filter (fun b=>decide (x<b.slot)))≠[]∧∃g,st.env 13=.own 99 g∧g<st.aO 99∧st.heap 99 g=some (.row 74 238 (((ol v.O).take k).filter (fun b=>decide (x<b.slot))).length (aH (((ol v.O).take k).filter (fun b=>decide (x<b.slot)))))))∧k≤(ol v.O).length∧m=(ol v.O).length-k)
    (fun e st=>e=.exit 0∧(((((ol v.O).take (ol v.O).length).filter (fun b=>decide (x<b.slot)))=[]∧st.env 13=.v (.slice none 0 0))∨((((ol v.O).take (ol v.O).length).filter (fun b=>decide (x<b.slot)))≠[]∧∃g,st.env 13=.own 99 g∧g<st.aO 99∧st.heap 99 g=some (.row 74 238 (((ol v.O).take (ol v.O).length).filter (fun b=>decide (x<b.slot))).length (aH (((ol v.O).take (ol v.O).length).filter (fun b=>decide (x<b.slot)))))))∧st.env 3=.ptr 3 0 0∧st.heap 3 0=some (.cells (aB S1))∧st.env 6=.ptr 6 0 0∧st.heap 6 0=some (.cells (aB gL))∧st.env 11=.v (.int .u64 x)) ((ol v.O).length) ?step ?start ?rest
   case step =>
    rintro m st ⟨k,hI,h5,hk,hm⟩
    have Gj:(((((ol v.O).take k).filter (fun b=>decide (x<b.slot))).length:Nat):Int)<1000000:=by have:=List.length_filter_le (fun b=>decide (x<b.slot)) ((ol v.O).take k);have h2:=List.length_take_le' k (ol v.O);omega
    by_cases aZ:(k:Int)<(ol v.O).length
    ·have q0:(0:Int)≤k:=by omega
     have hw:IntKind.i64.wrap ((k:Int)+1)=((k+1:Nat):Int):=by rw[pM _ (by omega) (by omega)];omega
     have hs:=tQ fP (fun b=>decide (x<b.slot)) (ol v.O) k (by omega)
     by_cases hh:x<(gx fP (ol v.O) (k:Int)).slot
     ·rw[if_pos (decide_eq_true hh)] at hs;rcases h5 with ⟨hy,h5⟩|⟨hy,g,h5⟩
      ·rw[hy] at hs;apply En ((ol v.O).length-(k+1))
       ·simp only[ZG,seval,Bool.false_and,Prod.mk.injEq,hI,h5,aZ,hw,q0,tF,GQ,hh];rfl
       ·exact⟨k+1,by simp only[E8,seval,hI],.inr ⟨by rw[hs];simp,_,by simp only[E8,seval]<;>rfl,(by simp only[E8,seval]<;>omega),(by rw[hs];simp only[E8,seval]<;>rfl)⟩,by omega,rfl⟩
      ·apply En ((ol v.O).length-(k+1))
       ·simp only[ZG,seval,Bool.false_and,Prod.mk.injEq,hI,h5,Gj,aZ,hw,q0,tF,GQ,hh];rfl
       ·exact⟨k+1,by simp only[E8,seval,hI],.inr ⟨by rw[hs];simp,_,by simp only[E8,seval]<;>rfl,(by simp only[E8,seval]<;>omega),(by rw[hs];simp only[E8,seval]<;>rfl)⟩,by omega,rfl⟩
     ·rw[if_neg (by simpa using hh),List.append_nil] at hs
      apply En ((ol v.O).length-(k+1))
      ·simp only[ZG,seval,Bool.false_and,Prod.mk.injEq,hI,aZ,hw,q0,tF,GQ,hh];rfl
      ·exact⟨k+1,by simp only[E8,seval,hI],by rw[hs];simpa only[E8,seval] using h5,by omega,rfl⟩
    ·have Dv:k=(ol v.O).length:=by omega
     rw[Dv] at h5;apply LB (.exit 0)
     ·simp only[ZG,seval,Bool.false_and,Prod.mk.injEq,hI,aZ,tF,GQ];rfl
     ·exact⟨rfl,by simpa only[E8,seval] using h5,by simp only[E8,seval,hI]⟩
   case start=>exact⟨0,by simp only[E8,seval,eS]<;>rfl,.inl ⟨rfl,by simp only[E8,seval]⟩,by omega,by omega⟩
   case rest =>
    rintro e st ⟨rfl,⟨hy,h5⟩|⟨hy,g,h5,hg,Ak⟩,hI⟩
    ·rw[List.take_length] at hy;rw[show nz ((ol v.O).filter fun b=>decide (x<b.slot))=none from if_pos hy] at hv
     rw[eS] at hI;simp only[ZG,seval,Bool.false_and,Prod.mk.injEq,tF,h5,hI];exact⟨_,fL rfl (by simp only[E8,seval,hI,kU,and_self]<;>rfl) (by simp only[Z8,seval,hI,kU,and_self]<;>rfl) (by simp only[dW,and_self,hI,kU,and_self]),by rw[hv];rfl⟩
    ·rw[List.take_length] at hy Ak;rw[show nz ((ol v.O).filter fun b=>decide (x<b.slot))=some ((ol v.O).filter fun b=>decide (x<b.slot)) from if_neg hy] at hv
     rw[eS] at hI;simp only[ZG,seval,Bool.false_and,Prod.mk.injEq,tF,h5,Ak,hI];exact⟨_,by apply eB;rfl;all_goals simp only[aI,Z8,seval,hI,Ak,kU,bR,gH,bG,cH,uI,dW]<;>rfl,by rw[hv];rfl⟩
  rw[if_neg e3] at hv;obtain⟨S1,eS⟩:∃S1:aM,S1={ cFg:=s.cFg,gG:=s.gG,bN:=⟨J,F⟩,dV:=s.dV,tree:=⟨.sl Xc.length (cF Xc)⟩,now:=s.now,iR:=s.iR,tables:=.v (.slice none 0 0)}:=⟨_,rfl⟩
  have hS:Flat (.agg (aB S1)):=by rw[eS];simp only[dW,kU,and_self]
  have Xd:=fun st d=>Vf S1 hS F.aK st d
  simp only[Dx,eS,ex] at Xd
  simp only[ZG,seval,Bool.false_and,Prod.mk.injEq,tF,GP,eC,hs.tables,Xb,decide_true,decide_false,e2,hs.tree,mS _ _ hs.nn,kp,mS _ _ Is,e3,Xd,hs.bW];have GQ:S1.dV.bW=ov aH v.O:=by rw[eS];exact hs.bW
  refine mH (fun m st=>∃k:Nat,(st.env 3=.ptr 3 0 0∧st.heap 3 0=some (.cells (aB S1))∧st.env 6=.ptr 6 0 0∧st.heap 6 0=some (.cells (aB gL))∧st.env 11=.v (.int .u64 x)∧st.env 14=.v (.int .i64 k))∧(((((ol v.O).take k).filter (fun b=>decide (x<b.slot)))=[]∧st.env 13=.v (.slice none 0 0))∨((((ol v.O).take k).filter (fun b=>decide (x<b.slot)))≠[]∧∃g,st.env 13=.own 99 g∧g<st.aO 99∧st.heap 99 g=some (.row 74 238 (((ol v.O).take k).filter (fun b=>decide (x<b.slot))).length (aH (((ol v.O).take k).filter (fun b=>decide (x<b.slot)))))))∧k≤(ol v.O).length∧m=(ol v.O).length-k)
   (fun e st=>e=.exit 0∧(((((ol v.O).take (ol v.O).length).filter (fun b=>decide (x<b.slot)))=[]∧st.env 13=.v (.slice none 0 0))∨((((ol v.O).take (ol v.O).length).filter (fun b=>decide (x<b.slot)))≠[]∧∃g,st.env 13=.own 99 g∧g<st.aO 99∧st.heap 99 g=some (.row 74 238 (((ol v.O).take (ol v.O).length).filter (fun b=>decide (x<b.slot))).length (aH (((ol v.O).take (ol v.O).length).filter (fun b=>decide (x<b.slot)))))))∧st.env 3=.ptr 3 0 0∧st.heap 3 0=some (.cells (aB S1))∧st.env 6=.ptr 6 0 0∧st.heap 6 0=some (.cells (aB gL))∧st.env 11=.v (.int .u64 x)) ((ol v.O).length) ?step ?start ?rest
  case step =>
   rintro m st ⟨k,hI,h5,hk,hm⟩
   have Gj:(((((ol v.O).take k).filter (fun b=>decide (x<b.slot))).length:Nat):Int)<1000000:=by have:=List.length_filter_le (fun b=>decide (x<b.slot)) ((ol v.O).take k);have h2:=List.length_take_le' k (ol v.O);omega
   by_cases aZ:(k:Int)<(ol v.O).length
   ·have q0:(0:Int)≤k:=by omega
    have hw:IntKind.i64.wrap ((k:Int)+1)=((k+1:Nat):Int):=by rw[pM _ (by omega) (by omega)];omega
    have hs:=tQ fP (fun b=>decide (x<b.slot)) (ol v.O) k (by omega)
    by_cases hh:x<(gx fP (ol v.O) (k:Int)).slot
    ·rw[if_pos (decide_eq_true hh)] at hs;rcases h5 with ⟨hy,h5⟩|⟨hy,g,h5⟩
     ·rw[hy] at hs;apply En ((ol v.O).length-(k+1))
      ·simp only[ZG,seval,Bool.false_and,Prod.mk.injEq,hI,h5,aZ,hw,q0,tF,GQ,hh];rfl
      ·exact⟨k+1,by simp only[E8,seval,hI],.inr ⟨by rw[hs];simp,_,by simp only[E8,seval]<;>rfl,(by simp only[E8,seval]<;>omega),(by rw[hs];simp only[E8,seval]<;>rfl)⟩,by omega,rfl⟩
     ·apply En ((ol v.O).length-(k+1))
      ·simp only[ZG,seval,Bool.false_and,Prod.mk.injEq,hI,h5,Gj,aZ,hw,q0,tF,GQ,hh];rfl
      ·exact⟨k+1,by simp only[E8,seval,hI],.inr ⟨by rw[hs];simp,_,by simp only[E8,seval]<;>rfl,(by simp only[E8,seval]<;>omega),(by rw[hs];simp only[E8,seval]<;>rfl)⟩,by omega,rfl⟩
    ·rw[if_neg (by simpa using hh),List.append_nil] at hs
     apply En ((ol v.O).length-(k+1))
     ·simp only[ZG,seval,Bool.false_and,Prod.mk.injEq,hI,aZ,hw,q0,tF,GQ,hh];rfl
     ·exact⟨k+1,by simp only[E8,seval,hI],by rw[hs];simpa only[E8,seval] using h5,by omega,rfl⟩
   ·have Dv:k=(ol v.O).length:=by omega
    rw[Dv] at h5;apply LB (.exit 0)
    ·simp only[ZG,seval,Bool.false_and,Prod.mk.injEq,hI,aZ,tF,GQ];rfl
    ·exact⟨rfl,by simpa only[E8,seval] using h5,by simp only[E8,seval,hI]⟩
  case start=>exact⟨0,by simp only[E8,seval,eS]<;>rfl,.inl ⟨rfl,by simp only[E8,seval]⟩,by omega,by omega⟩
  case rest =>
   rintro e st ⟨rfl,⟨hy,h5⟩|⟨hy,g,h5,hg,Ak⟩,hI⟩
   ·rw[List.take_length] at hy;rw[show nz ((ol v.O).filter fun b=>decide (x<b.slot))=none from if_pos hy] at hv
    rw[eS] at hI;simp only[ZG,seval,Bool.false_and,Prod.mk.injEq,tF,h5,hI];exact⟨_,fL rfl (by simp only[E8,seval,hI,kU,and_self]<;>rfl) (by simp only[Z8,seval,hI,kU,and_self]<;>rfl) (by simp only[dW,and_self,hI,kU,and_self]),by rw[hv];rfl⟩
   ·rw[List.take_length] at hy Ak;rw[show nz ((ol v.O).filter fun b=>decide (x<b.slot))=some ((ol v.O).filter fun b=>decide (x<b.slot)) from if_neg hy] at hv
    rw[eS] at hI;simp only[ZG,seval,Bool.false_and,Prod.mk.injEq,tF,h5,Ak,hI];exact⟨_,by apply eB;rfl;all_goals simp only[aI,Z8,seval,hI,Ak,kU,bR,gH,bG,cH,uI,dW]<;>rfl,by rw[hv];rfl⟩
 ·have hz:(nz (yP (ol v.T) J.aK))=some (yP (ol v.T) J.aK):=if_neg e1
  rw[show Nm 118 34 aR (yP (ol v.T) J.aK)=.uniq 118 34 (yP (ol v.T) J.aK).length (aR (yP (ol v.T) J.aK)) from if_neg e1] at aCU;have Xb:∀(st:St),aN (aD Tryz.prog) 128 [ov aR v.T,.v (.int .u64 J.aK)] st (some 30)=_:=fun st=>jE (st:=st) (d:=30) (bI hs.fT (.v _)) aCU
  have SU:∀t∈yP (ol v.T) J.aK,Flat t.jP:=fun t m=>(hs.tB t (List.mem_filter.1 m).1).fl
  have hex:=Nq (yP (ol v.T) J.aK).length (yP (ol v.T) J.aK) SU
  by_cases e2:F=s.bN.fin
  ·rw[if_pos e2,hz] at hv;subst e2;simp only[ZG,seval,Bool.false_and,Prod.mk.injEq,tF,GP,eC,hs.tables,Xb,decide_true,decide_false];exact⟨_,by apply eB;rfl;all_goals simp only[aI,Z8,seval,kU,bR,gH,bG,cH,hex]<;>rfl,by rw[hv];rfl⟩
  rw[if_neg e2,hz] at hv;obtain⟨Xc,en⟩:∃Xc,(oQ v.ns (aP v.ns F.root) v.ns.length).1=Xc:=⟨_,rfl⟩
  have Is:(Xc.length:Int)<1000000:=by have:=GO (ns:=v.ns) (aP v.ns F.root);have:=hs.nn;rw[← en];omega
  unfold aCH at kp;rw[en] at kp hv;obtain⟨x,ex⟩:∃x,(LO F.aK s.cFg.rD).1=x:=⟨_,rfl⟩
  rw[show (Dx s F.aK).1=x from ex] at hv;by_cases e3:aP Xc s.iR<0
  ·rw[if_pos e3] at hv;obtain⟨S1,eS⟩:∃S1:aM,S1={ cFg:=s.cFg,gG:=s.gG,bN:=⟨J,F⟩,dV:=s.dV,tree:=⟨.sl Xc.length (cF Xc)⟩,now:=s.now,iR:=dO,tables:=.own 30 0 }:=⟨_,rfl⟩
   have hS:∀st:St,st.heap 30 0=some (.row 118 34 (yP (ol v.T) J.aK).length (aR (yP (ol v.T) J.aK)))→fU st (.agg (aB S1))=some (.agg (aB { S1 with tables:=.sl (yP (ol v.T) J.aK).length (aR (yP (ol v.T) J.aK))})):=by
    intro st h;rw[eS];simp only[bR,gH,bG,h,hex,cH,dW,kU,cW]
   have Xd:∀(st:St) (d:Option Nat),st.heap 30 0=some (.row 118 34 (yP (ol v.T) J.aK).length (aR (yP (ol v.T) J.aK)))→aN (aD Tryz.prog) 99 [.agg (aB S1),.v (.int .u64 F.aK)] st d=some { dst:=d,val:=.dZ [.v (.int .u64 (Dx S1 F.aK).1),.v (.bool ((Dx S1 F.aK).2 == 0))]}:=by
    intro st d h;rw[nD,List.map_cons,List.map_cons,List.map_nil,hS st h,Ql,bT,bT,iD];exact B0 (c99 _ F.aK) (by intro x hx;simp only[List.mem_cons,List.not_mem_nil,or_false] at hx;rcases hx with rfl|rfl<;>exact .v _) (.dZ _ (bI (.v _) (.v _)))
   simp only[Dx,eS,ex] at Xd
   simp only[ZG,seval,Bool.false_and,Prod.mk.injEq,tF,GP,eC,hs.tables,Xb,decide_true,decide_false,e2,hs.tree,mS _ _ hs.nn,kp,mS _ _ Is,e3,Xd,hs.bW];have GQ:S1.dV.bW=ov aH v.O:=by rw[eS];exact hs.bW
   refine mH (fun m st=>∃k:Nat,(st.env 3=.ptr 3 0 0∧st.heap 3 0=some (.cells (aB S1))∧st.env 6=.ptr 6 0 0∧st.heap 6 0=some (.cells (aB gL))∧st.env 11=.v (.int .u64 x)∧st.heap 30 0=some (.row 118 34 (yP (ol v.T) J.aK).length (aR (yP (ol v.T) J.aK)))∧st.env 14=.v (.int .i64 k))∧(((((ol v.O).take k).filter (fun b=>decide (x<b.slot)))=[]∧st.env 13=.v (.slice none 0 0))∨((((ol v.O).take k).filter (fun b=>decide (x<b.slot)))≠[]∧∃g,st.env 13=.own 99 g∧g<st.aO 99∧st.heap 99 g=some (.row 74 238 (((ol v.O).take k).filter (fun b=>decide (x<b.slot))).length (aH (((ol v.O).take k).filter (fun b=>decide (x<b.slot)))))))∧k≤(ol v.O).length∧m=(ol v.O).length-k)
    (fun e st=>e=.exit 0∧(((((ol v.O).take (ol v.O).length).filter (fun b=>decide (x<b.slot)))=[]∧st.env 13=.v (.slice none 0 0))∨((((ol v.O).take (ol v.O).length).filter (fun b=>decide (x<b.slot)))≠[]∧∃g,st.env 13=.own 99 g∧g<st.aO 99∧st.heap 99 g=some (.row 74 238 (((ol v.O).take (ol v.O).length).filter (fun b=>decide (x<b.slot))).length (aH (((ol v.O).take (ol v.O).length).filter (fun b=>decide (x<b.slot)))))))∧st.env 3=.ptr 3 0 0∧st.heap 3 0=some (.cells (aB S1))∧st.env 6=.ptr 6 0 0∧st.heap 6 0=some (.cells (aB gL))∧st.env 11=.v (.int .u64 x)∧st.heap 30 0=some (.row 118 34 (yP (ol v.T) J.aK).length (aR (yP (ol v.T) J.aK)))) ((ol v.O).length) ?step ?start ?rest
   case step =>
    rintro m st ⟨k,hI,h5,hk,hm⟩
    have Gj:(((((ol v.O).take k).filter (fun b=>decide (x<b.slot))).length:Nat):Int)<1000000:=by have:=List.length_filter_le (fun b=>decide (x<b.slot)) ((ol v.O).take k);have h2:=List.length_take_le' k (ol v.O);omega
    by_cases aZ:(k:Int)<(ol v.O).length
    ·have q0:(0:Int)≤k:=by omega
     have hw:IntKind.i64.wrap ((k:Int)+1)=((k+1:Nat):Int):=by rw[pM _ (by omega) (by omega)];omega
     have hs:=tQ fP (fun b=>decide (x<b.slot)) (ol v.O) k (by omega)
     by_cases hh:x<(gx fP (ol v.O) (k:Int)).slot
     ·rw[if_pos (decide_eq_true hh)] at hs;rcases h5 with ⟨hy,h5⟩|⟨hy,g,h5⟩
      ·rw[hy] at hs;apply En ((ol v.O).length-(k+1))
       ·simp only[ZG,seval,Bool.false_and,Prod.mk.injEq,hI,h5,aZ,hw,q0,tF,GQ,hh];rfl
       ·exact⟨k+1,by simp only[E8,seval,hI],.inr ⟨by rw[hs];simp,_,by simp only[E8,seval]<;>rfl,(by simp only[E8,seval]<;>omega),(by rw[hs];simp only[E8,seval]<;>rfl)⟩,by omega,rfl⟩
      ·apply En ((ol v.O).length-(k+1))
       ·simp only[ZG,seval,Bool.false_and,Prod.mk.injEq,hI,h5,Gj,aZ,hw,q0,tF,GQ,hh];rfl
       ·exact⟨k+1,by simp only[E8,seval,hI],.inr ⟨by rw[hs];simp,_,by simp only[E8,seval]<;>rfl,(by simp only[E8,seval]<;>omega),(by rw[hs];simp only[E8,seval]<;>rfl)⟩,by omega,rfl⟩
     ·rw[if_neg (by simpa using hh),List.append_nil] at hs
      apply En ((ol v.O).length-(k+1))
      ·simp only[ZG,seval,Bool.false_and,Prod.mk.injEq,hI,aZ,hw,q0,tF,GQ,hh];rfl
      ·exact⟨k+1,by simp only[E8,seval,hI],by rw[hs];simpa only[E8,seval] using h5,by omega,rfl⟩
    ·have Dv:k=(ol v.O).length:=by omega
     rw[Dv] at h5;apply LB (.exit 0)
     ·simp only[ZG,seval,Bool.false_and,Prod.mk.injEq,hI,aZ,tF,GQ];rfl
     ·exact⟨rfl,by simpa only[E8,seval] using h5,by simp only[E8,seval,hI]⟩
   case start=>exact⟨0,by simp only[E8,seval,eS]<;>rfl,.inl ⟨rfl,by simp only[E8,seval]⟩,by omega,by omega⟩
   case rest =>
    rintro e st ⟨rfl,⟨hy,h5⟩|⟨hy,g,h5,hg,Ak⟩,hI⟩
    ·rw[List.take_length] at hy;rw[show nz ((ol v.O).filter fun b=>decide (x<b.slot))=none from if_pos hy] at hv
     rw[eS] at hI;simp only[ZG,seval,Bool.false_and,Prod.mk.injEq,tF,h5,hI];exact⟨_,by apply eB;rfl;all_goals simp only[aI,Z8,seval,hI,kU,bR,gH,bG,cH,uI,dW,hex]<;>rfl,by rw[hv];rfl⟩
    ·rw[List.take_length] at hy Ak;rw[show nz ((ol v.O).filter fun b=>decide (x<b.slot))=some ((ol v.O).filter fun b=>decide (x<b.slot)) from if_neg hy] at hv
     rw[eS] at hI;simp only[ZG,seval,Bool.false_and,Prod.mk.injEq,tF,h5,Ak,hI];exact⟨_,by apply eB;rfl;all_goals simp only[aI,Z8,seval,hI,Ak,kU,bR,gH,bG,cH,uI,dW,hex]<;>rfl,by rw[hv];rfl⟩
  rw[if_neg e3] at hv;obtain⟨S1,eS⟩:∃S1:aM,S1={ cFg:=s.cFg,gG:=s.gG,bN:=⟨J,F⟩,dV:=s.dV,tree:=⟨.sl Xc.length (cF Xc)⟩,now:=s.now,iR:=s.iR,tables:=.own 30 0 }:=⟨_,rfl⟩
  have hS:∀st:St,st.heap 30 0=some (.row 118 34 (yP (ol v.T) J.aK).length (aR (yP (ol v.T) J.aK)))→fU st (.agg (aB S1))=some (.agg (aB { S1 with tables:=.sl (yP (ol v.T) J.aK).length (aR (yP (ol v.T) J.aK))})):=by
   intro st h;rw[eS];simp only[bR,gH,bG,h,hex,cH,dW,kU,cW]
  have Xd:∀(st:St) (d:Option Nat),st.heap 30 0=some (.row 118 34 (yP (ol v.T) J.aK).length (aR (yP (ol v.T) J.aK)))→aN (aD Tryz.prog) 99 [.agg (aB S1),.v (.int .u64 F.aK)] st d=some { dst:=d,val:=.dZ [.v (.int .u64 (Dx S1 F.aK).1),.v (.bool ((Dx S1 F.aK).2 == 0))]}:=by
   intro st d h;rw[nD,List.map_cons,List.map_cons,List.map_nil,hS st h,Ql,bT,bT,iD];exact B0 (c99 _ F.aK) (by intro x hx;simp only[List.mem_cons,List.not_mem_nil,or_false] at hx;rcases hx with rfl|rfl<;>exact .v _) (.dZ _ (bI (.v _) (.v _)))
  simp only[Dx,eS,ex] at Xd
  simp only[ZG,seval,Bool.false_and,Prod.mk.injEq,tF,GP,eC,hs.tables,Xb,decide_true,decide_false,e2,hs.tree,mS _ _ hs.nn,kp,mS _ _ Is,e3,Xd,hs.bW];have GQ:S1.dV.bW=ov aH v.O:=by rw[eS];exact hs.bW
  refine mH (fun m st=>∃k:Nat,(st.env 3=.ptr 3 0 0∧st.heap 3 0=some (.cells (aB S1))∧st.env 6=.ptr 6 0 0∧st.heap 6 0=some (.cells (aB gL))∧st.env 11=.v (.int .u64 x)∧st.heap 30 0=some (.row 118 34 (yP (ol v.T) J.aK).length (aR (yP (ol v.T) J.aK)))∧st.env 14=.v (.int .i64 k))∧(((((ol v.O).take k).filter (fun b=>decide (x<b.slot)))=[]∧st.env 13=.v (.slice none 0 0))∨((((ol v.O).take k).filter (fun b=>decide (x<b.slot)))≠[]∧∃g,st.env 13=.own 99 g∧g<st.aO 99∧st.heap 99 g=some (.row 74 238 (((ol v.O).take k).filter (fun b=>decide (x<b.slot))).length (aH (((ol v.O).take k).filter (fun b=>decide (x<b.slot)))))))∧k≤(ol v.O).length∧m=(ol v.O).length-k)
   (fun e st=>e=.exit 0∧(((((ol v.O).take (ol v.O).length).filter (fun b=>decide (x<b.slot)))=[]∧st.env 13=.v (.slice none 0 0))∨((((ol v.O).take (ol v.O).length).filter (fun b=>decide (x<b.slot)))≠[]∧∃g,st.env 13=.own 99 g∧g<st.aO 99∧st.heap 99 g=some (.row 74 238 (((ol v.O).take (ol v.O).length).filter (fun b=>decide (x<b.slot))).length (aH (((ol v.O).take (ol v.O).length).filter (fun b=>decide (x<b.slot)))))))∧st.env 3=.ptr 3 0 0∧st.heap 3 0=some (.cells (aB S1))∧st.env 6=.ptr 6 0 0∧st.heap 6 0=some (.cells (aB gL))∧st.env 11=.v (.int .u64 x)∧st.heap 30 0=some (.row 118 34 (yP (ol v.T) J.aK).length (aR (yP (ol v.T) J.aK)))) ((ol v.O).length) ?step ?start ?rest
  case step =>
   rintro m st ⟨k,hI,h5,hk,hm⟩
   have Gj:(((((ol v.O).take k).filter (fun b=>decide (x<b.slot))).length:Nat):Int)<1000000:=by have:=List.length_filter_le (fun b=>decide (x<b.slot)) ((ol v.O).take k);have h2:=List.length_take_le' k (ol v.O);omega
   by_cases aZ:(k:Int)<(ol v.O).length
   ·have q0:(0:Int)≤k:=by omega
    have hw:IntKind.i64.wrap ((k:Int)+1)=((k+1:Nat):Int):=by rw[pM _ (by omega) (by omega)];omega
    have hs:=tQ fP (fun b=>decide (x<b.slot)) (ol v.O) k (by omega)
    by_cases hh:x<(gx fP (ol v.O) (k:Int)).slot
    ·rw[if_pos (decide_eq_true hh)] at hs;rcases h5 with ⟨hy,h5⟩|⟨hy,g,h5⟩
     ·rw[hy] at hs;apply En ((ol v.O).length-(k+1))
      ·simp only[ZG,seval,Bool.false_and,Prod.mk.injEq,hI,h5,aZ,hw,q0,tF,GQ,hh];rfl
      ·exact⟨k+1,by simp only[E8,seval,hI],.inr ⟨by rw[hs];simp,_,by simp only[E8,seval]<;>rfl,(by simp only[E8,seval]<;>omega),(by rw[hs];simp only[E8,seval]<;>rfl)⟩,by omega,rfl⟩
     ·apply En ((ol v.O).length-(k+1))
      ·simp only[ZG,seval,Bool.false_and,Prod.mk.injEq,hI,h5,Gj,aZ,hw,q0,tF,GQ,hh];rfl
      ·exact⟨k+1,by simp only[E8,seval,hI],.inr ⟨by rw[hs];simp,_,by simp only[E8,seval]<;>rfl,(by simp only[E8,seval]<;>omega),(by rw[hs];simp only[E8,seval]<;>rfl)⟩,by omega,rfl⟩
    ·rw[if_neg (by simpa using hh),List.append_nil] at hs
     apply En ((ol v.O).length-(k+1))
     ·simp only[ZG,seval,Bool.false_and,Prod.mk.injEq,hI,aZ,hw,q0,tF,GQ,hh];rfl
     ·exact⟨k+1,by simp only[E8,seval,hI],by rw[hs];simpa only[E8,seval] using h5,by omega,rfl⟩
   ·have Dv:k=(ol v.O).length:=by omega
    rw[Dv] at h5;apply LB (.exit 0)
    ·simp only[ZG,seval,Bool.false_and,Prod.mk.injEq,hI,aZ,tF,GQ];rfl
    ·exact⟨rfl,by simpa only[E8,seval] using h5,by simp only[E8,seval,hI]⟩
  case start=>exact⟨0,by simp only[E8,seval,eS]<;>rfl,.inl ⟨rfl,by simp only[E8,seval]⟩,by omega,by omega⟩
  case rest =>
   rintro e st ⟨rfl,⟨hy,h5⟩|⟨hy,g,h5,hg,Ak⟩,hI⟩
   ·rw[List.take_length] at hy;rw[show nz ((ol v.O).filter fun b=>decide (x<b.slot))=none from if_pos hy] at hv
    rw[eS] at hI;simp only[ZG,seval,Bool.false_and,Prod.mk.injEq,tF,h5,hI];exact⟨_,by apply eB;rfl;all_goals simp only[aI,Z8,seval,hI,kU,bR,gH,bG,cH,uI,dW,hex]<;>rfl,by rw[hv];rfl⟩
   ·rw[List.take_length] at hy Ak;rw[show nz ((ol v.O).filter fun b=>decide (x<b.slot))=some ((ol v.O).filter fun b=>decide (x<b.slot)) from if_neg hy] at hv
    rw[eS] at hI;simp only[ZG,seval,Bool.false_and,Prod.mk.injEq,tF,h5,Ak,hI];exact⟨_,by apply eB;rfl;all_goals simp only[aI,Z8,seval,hI,Ak,kU,bR,gH,bG,cH,uI,dW,hex]<;>rfl,by rw[hv];rfl⟩
theorem k61 {s:aM} {v:SV} (hs:SD s v) (hu:iB v.ns) (hp:s.cFg.rD≠0) (c1 c2:fV) (st:St) (d:Option Nat):aN (aD Tryz.prog) 61 [.agg (aB s),.agg (bZ c1),.agg (bZ c2)] st d=some { dst:=d,val:=.agg (aB (xL s v c1 c2))}:=bL (oE hs.flat (.agg _ (dD c1)) (.agg _ (dD c2))) (c61 hs hu hp c1 c2) (hs.dM hu c1 c2).flat
end Go.Ab.Tryz
