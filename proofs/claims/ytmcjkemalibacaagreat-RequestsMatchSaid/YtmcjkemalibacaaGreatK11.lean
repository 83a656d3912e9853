/-
  Part 11 of the proof: an evaluator of programs, its soundness, and what functions of this program compute.
-/
import Derived.Test.YtmcjkemalibacaaGreatK10
import Derived.Test.YtmcjkemalibacaaGreatK9
set_option linter.all false
set_option maxRecDepth 20000
set_option maxHeartbeats 40000000
namespace Go.Ab.Tryz
open Classical Go.Proofs Go.Ab
theorem xV (s:Config):Flat (.agg (bS s))↔Flat s.jI:=by
 constructor
 ·intro h;have h:∀x∈bS s,Flat x:=by cases h with|agg _ h=>exact h
  exact h _ (List.mem_of_getElem? (yJ s))
 ·intro h0;exact .agg _ (tR s h0)
theorem Mr (s:uJ):Flat (.agg (eZ s))↔Flat s.dV∧Flat s.gU:=by
 constructor
 ·intro h;have h:∀x∈eZ s,Flat x:=by cases h with|agg _ h=>exact h
  exact⟨h _ (List.mem_of_getElem? (uV s)),h _ (List.mem_of_getElem? (wO s))⟩
 ·rintro⟨h0,h1⟩
  exact .agg _ (qE s h0 h1)
theorem CT (s:yK):Flat (.agg (jP s))↔Flat s.early∧Flat s.bU:=by
 constructor
 ·intro h;have h:∀x∈jP s,Flat x:=by cases h with|agg _ h=>exact h
  exact⟨h _ (List.mem_of_getElem? (uW s)),h _ (List.mem_of_getElem? (sG s))⟩
 ·rintro⟨h0,h1⟩
  exact .agg _ (Ms s h0 h1)
theorem KK (s:Fa):Flat (.agg (mI s))↔Flat s.nodes:=by
 constructor
 ·intro h;have h:∀x∈mI s,Flat x:=by cases h with|agg _ h=>exact h
  exact h _ (List.mem_of_getElem? (wP s))
 ·intro h0;exact .agg _ (vW s h0)
theorem yL (s:aP):Flat (.agg (aB s))↔Flat s.cFg.jI∧Flat s.fV.dV∧Flat s.fV.gU∧Flat s.dM.early∧Flat s.dM.bU∧Flat s.tree.nodes∧Flat s.tables:=by
 constructor
 ·intro h;have h:∀x∈aB s,Flat x:=by cases h with|agg _ h=>exact h
  exact⟨h _ (List.mem_of_getElem? (qF s)),h _ (List.mem_of_getElem? (oV s)),h _ (List.mem_of_getElem? (pQ s)),h _ (List.mem_of_getElem? (oW s)),h _ (List.mem_of_getElem? (nH s)),h _ (List.mem_of_getElem? (qG s)),h _ (List.mem_of_getElem? (uX s))⟩
 ·rintro⟨h0,h1,h2,h3,h4,h5,h6⟩
  exact .agg _ (Ry s h0 h1 h2 h3 h4 h5 h6)
theorem lO (s:State):Flat (.agg (aI s))↔Flat s.store.cFg.jI∧Flat s.store.fV.dV∧Flat s.store.fV.gU∧Flat s.store.dM.early∧Flat s.store.dM.bU∧Flat s.store.tree.nodes∧Flat s.store.tables∧Flat s.dQ∧Flat s.mV:=by
 constructor
 ·intro h;have h:∀x∈aI s,Flat x:=by cases h with|agg _ h=>exact h
  exact⟨h _ (List.mem_of_getElem? (qH s)),h _ (List.mem_of_getElem? (pF s)),h _ (List.mem_of_getElem? (pW s)),h _ (List.mem_of_getElem? (pG s)),h _ (List.mem_of_getElem? (oA s)),h _ (List.mem_of_getElem? (qI s)),h _ (List.mem_of_getElem? (tS s)),h _ (List.mem_of_getElem? (yM s)),h _ (List.mem_of_getElem? (Ai s))⟩
 ·rintro⟨h0,h1,h2,h3,h4,h5,h6,h7,h8⟩
  exact .agg _ (KL s h0 h1 h2 h3 h4 h5 h6 h7 h8)
theorem yN (s:rQ):Flat (.agg (gV s))↔Flat s.eU:=by
 constructor
 ·intro h;have h:∀x∈gV s,Flat x:=by cases h with|agg _ h=>exact h
  exact h _ (List.mem_of_getElem? (Dw s))
 ·intro h0;exact .agg _ (Pt s h0)
theorem yO (s:Claim):Flat (.agg (gO s))↔Flat s.eU:=by
 constructor
 ·intro h;have h:∀x∈gO s,Flat x:=by cases h with|agg _ h=>exact h
  exact h _ (List.mem_of_getElem? (tT s))
 ·intro h0;exact .agg _ (Gk s h0)
theorem mW (s:fW):Flat (.agg (bV s))↔Flat s.first.eU∧Flat s.second.eU:=by
 constructor
 ·intro h;have h:∀x∈bV s,Flat x:=by cases h with|agg _ h=>exact h
  exact⟨h _ (List.mem_of_getElem? (oB s)),h _ (List.mem_of_getElem? (nI s))⟩
 ·rintro⟨h0,h1⟩
  exact .agg _ (Gl s h0 h1)
theorem jZ (s:Table):Flat (.agg (cA s))↔Flat s.jI:=by
 constructor
 ·intro h;have h:∀x∈cA s,Flat x:=by cases h with|agg _ h=>exact h
  exact h _ (List.mem_of_getElem? (Bh s))
 ·intro h0;exact .agg _ (Gm s h0)
theorem RR (s:wM):Flat (.agg (kX s))↔Flat s.Fq.eU∧Flat s.oM.first.eU∧Flat s.oM.second.eU∧Flat s.table.jI:=by
 constructor
 ·intro h;have h:∀x∈kX s,Flat x:=by cases h with|agg _ h=>exact h
  exact⟨h _ (List.mem_of_getElem? (Ci s)),h _ (List.mem_of_getElem? (rS s)),h _ (List.mem_of_getElem? (rI s)),h _ (List.mem_of_getElem? (Aj s))⟩
 ·rintro⟨h0,h1,h2,h3⟩
  exact .agg _ (ZS s h0 h1 h2 h3)
theorem aEW (x:Value):Flat (.v x)=True:=eq_true (.v x)
theorem KM (o:Option (List Int)):Flat (ov bC o)=True:=eq_true (dR o)
theorem KN (o:Option (List Int)):Flat (ov aK o)=True:=eq_true (bO o)
theorem CU (o:Option (List kF)):Flat (ov cK o)=True:=eq_true (qJ o)
theorem Vn (o:Option (List Block)):Flat (ov aJ o)=True:=eq_true (Dx o)
theorem Mt (o:Option (List Request)):Flat (ov aA o)=True:=eq_true (dF o)
theorem KO (n:Nat) (o:List Int):Flat (.sl n (bC o))=True:=eq_true (.sl _ _ (hU o))
theorem KP (n:Nat) (o:List Int):Flat (.sl n (aK o))=True:=eq_true (.sl _ _ (gD o))
theorem CV (n:Nat) (o:List kF):Flat (.sl n (cK o))=True:=eq_true (.sl _ _ (mX o))
theorem Vo (n:Nat) (o:List Block):Flat (.sl n (aJ o))=True:=eq_true (.sl _ _ (oX o))
theorem Mu (n:Nat) (o:List Request):Flat (.sl n (aA o))=True:=eq_true (.sl _ _ (jQ o))
theorem CW (n:Nat) (o:List Node):Flat (.sl n (cC o))=True:=eq_true (.sl _ _ (lB o))
theorem WY (r:cM):Flat (.agg (aZ r))=True:=eq_true (rH r)
theorem KQ (r:Block):Flat (.agg (aU r))=True:=eq_true (uI r)
theorem WZ (r:qX):Flat (.agg (gF r))=True:=eq_true (.agg _ (iJ r))
theorem Ak (r:fR):Flat (.agg (bY r))=True:=eq_true (.agg _ (dA r))
theorem I3 (r:Request):Flat (.agg (bK r))=True:=eq_true (.agg _ (eI r))
theorem Vp (r:eD):Flat (.agg (bN r))=True:=eq_true (.agg _ (gE r))
theorem CX (r:oY):Flat (.agg (fI r))=True:=eq_true (.agg _ (Dy r))
theorem KR (x:AV):Flat (.agg [x])↔Flat x:=by
 constructor
 ·intro h;cases h with|agg _ h=>exact h x (by simp)
 ·intro h;exact .agg _ (by simpa using h)
theorem dY:(type_of% aEW)∧(type_of% KM)∧(type_of% KN)∧(type_of% CU)∧(type_of% Vn)∧(type_of% Mt)∧(type_of% KO)∧(type_of% KP)∧(type_of% CV)∧(type_of% Vo)∧(type_of% Mu)∧(type_of% CW)∧(type_of% WY)∧(type_of% KQ)∧(type_of% WZ)∧(type_of% Ak)∧(type_of% I3)∧(type_of% Vp)∧(type_of% CX)∧(type_of% KR)∧(type_of% xV)∧(type_of% Mr)∧(type_of% CT)∧(type_of% KK)∧(type_of% yL)∧(type_of% lO)∧(type_of% yN)∧(type_of% yO)∧(type_of% mW)∧(type_of% jZ)∧(type_of% RR) :=
 ⟨aEW,KM,KN,CU,Vn,Mt,KO,KP,CV,Vo,Mu,CW,WY,KQ,WZ,Ak,I3,Vp,CX,KR,xV,Mr,CT,KK,yL,lO,yN,yO,mW,jZ,RR⟩
structure SV where
 B:Option (List Int)
 L:Option (List kF)
 Q:Option (List Int)
 E:Option (List rQ)
 O:Option (List Block)
 T:Option (List Table)
 ns:List Node
def Cj (a:rQ):Prop:=∃V:Option (List Int),a.eU=ov aK V∧((ol V).length:Int)<1000000
def rT (t:Table):Prop:=∃b:Option (List Int),t.jI=ov bC b∧((ol b).length:Int)<1000000
structure SD (s:aP) (v:SV):Prop where
 jI:s.cFg.jI=ov bC v.B
 dV:s.fV.dV=ov cK v.L
 gU:s.fV.gU=ov aK v.Q
 early:s.dM.early=ov dE v.E
 bU:s.dM.bU=ov aJ v.O
 tree:s.tree=⟨.sl v.ns.length (cC v.ns)⟩
 tables:s.tables=ov aT v.T
 eV:∀a∈ol v.E,Cj a
 tB:∀t∈ol v.T,rT t
 nB:((ol v.B).length:Int)<1000000
 nL:((ol v.L).length:Int)<1000000
 nQ:((ol v.Q).length:Int)<1000000
 nE:((ol v.E).length:Int)<1000000
 nO:((ol v.O).length:Int)<1000000
 nT:((ol v.T).length:Int)<1000000
 nn:(v.ns.length:Int)<1000000
theorem Cj.fl {a:rQ} (h:Cj a):Flat a.eU:=by obtain⟨V,h,_⟩:=h;rw[h];exact bO V
theorem rT.fl {a:Table} (h:rT a):Flat a.jI:=by obtain⟨V,h,_⟩:=h;rw[h];exact dR V
theorem SD.fE {s:aP} {v:SV} (h:SD s v):Flat (ov dE v.E):=Vq v.E fun a ha=>(h.eV a ha).fl
theorem SD.fT {s:aP} {v:SV} (h:SD s v):Flat (ov aT v.T):=lQ v.T fun a ha=>(h.tB a ha).fl
theorem SD.flat {s:aP} {v:SV} (h:SD s v):Flat (.agg (aB s)):=by
 rw[yL,h.jI,h.dV,h.gU,h.early,h.bU,h.tree,h.tables];exact⟨dR _,qJ _,bO _,h.fE,Dx _,.sl _ _ (lB _),h.fT⟩
theorem c97 {s:aP} {v:SV} (hs:SD s v):aC Tryz.prog 97 [.agg (aB s)]=some (.v (.int .i64 (ol v.B).length)):=by
 rw[cL Tryz.func97 rfl aNT rfl];simp only[Z8,seval,hs.jI];exact bT rfl (by simp only[E8,seval]<;>rfl) (.v _)
theorem Vr {s:aP} {v:SV} (hs:SD s v) (st:St) (d:Option Nat):aN (aC Tryz.prog) 97 [.agg (aB s)] st d=some { dst:=d,val:=.v (.int .i64 (ol v.B).length)}:=bI (cO hs.flat) (c97 hs) (.v _)
noncomputable def Bi (s:aP) (x:Int):Int:=IntKind.u64.wrap (x.tdiv s.cFg.qK)
theorem c98 (s:aP) (h:s.cFg.qK≠0) (x:Int):aC Tryz.prog 98 [.agg (aB s),.v (.int .u64 x)]=some (.v (.int .u64 (Bi s x))):=by
 rw[cL Tryz.func98 rfl aNU rfl];have h0:(s.cFg.qK=0)=False:=eq_false h
 simp only[Z8,seval,h0];exact bT rfl (by simp only[E8,seval,Bi]<;>rfl) (.v _)
theorem sH (s:aP) (h:s.cFg.qK≠0) (hf:Flat (.agg (aB s))) (x:Int) (st:St) (d:Option Nat):aN (aC Tryz.prog) 98 [.agg (aB s),.v (.int .u64 x)] st d=some { dst:=d,val:=.v (.int .u64 (Bi s x))}:=bI (bE hf (.v _)) (c98 s h x) (.v _)
noncomputable def Dk (s:aP) (e:Int):Int × Int:=JV e s.cFg.qK
theorem c99 (s:aP) (x:Int):aC Tryz.prog 99 [.agg (aB s),.v (.int .u64 x)]=some (.eE [.v (.int .u64 (Dk s x).1),.v (.bool ((Dk s x).2 == 0))]):=by
 rw[cL Tryz.func99 rfl aNW rfl];simp only[Z8,seval,aNs,eA];exact dO rfl rfl rfl (by simp only[E8,seval,Dk]<;>rfl) (by simp only[E8,seval,Dk]<;>rfl)
theorem Ue (s:aP) (hf:Flat (.agg (aB s))) (x:Int) (st:St) (d:Option Nat):aN (aC Tryz.prog) 99 [.agg (aB s),.v (.int .u64 x)] st d=some { dst:=d,val:=.eE [.v (.int .u64 (Dk s x).1),.v (.bool ((Dk s x).2 == 0))]}:=bI (bE hf (.v _)) (c99 s x) (.eE _ (bE (.v _) (.v _)))
theorem aNX {s:aP} {v:SV} (hs:SD s v) (i:Int):aC Tryz.prog 251 [.agg (aB s),.v (.int .i64 i)]=some (.v (.bool (decide (0≤i) && decide (i<v.ns.length)))):=by
 rw[cL Tryz.func251 rfl aI3 rfl];by_cases h:0≤i
 all_goals
  simp only[Z8,seval,h,hs.tree,decide_true,decide_false,Bool.true_and,Bool.false_and];exact bT rfl (by simp only[E8,seval,h,decide_true,decide_false,Bool.true_and,Bool.false_and]<;>rfl) (.v _)
theorem Vs {s:aP} {v:SV} (hs:SD s v) (i:Int) (st:St) (d:Option Nat):aN (aC Tryz.prog) 251 [.agg (aB s),.v (.int .i64 i)] st d=some { dst:=d,val:=.v (.bool (decide (0≤i) && decide (i<v.ns.length)))}:=bI (bE hs.flat (.v _)) (aNX hs i) (.v _)
def I4 (s:aP) (b:Block):Prop:=b.fin.aL≤b.dN.aL∧b.dN.aL≤b.dS.pj.aL∧b.fin.aL≤b.dS.pf.aL∧b.dS.pf.aL≤b.dS.pj.aL∧b.dS.pj.aL≤Bi s b.slot
theorem aNY (s:aP) (h:s.cFg.qK≠0) (hf:Flat (.agg (aB s))) (b:Block):aC Tryz.prog 137 [.agg (aB s),.agg (aU b)]=some (.v (.bool (decide (I4 s b)))):=by
 rw[cL Tryz.func137 rfl aI4 rfl];have h98:=sH s h hf
 unfold I4;by_cases h1:b.fin.aL≤b.dN.aL
 ·by_cases h2:b.dN.aL≤b.dS.pj.aL
  ·by_cases h3:b.fin.aL≤b.dS.pf.aL
   ·by_cases h4:b.dS.pf.aL≤b.dS.pj.aL
    ·simp only[*,true_and,false_and,and_true,and_false,decide_true,decide_false];simp only[Z8,seval, *];exact bT rfl (by simp only[E8,seval, *]<;>rfl) (.v _)
    ·simp only[*,true_and,false_and,and_true,and_false,decide_true,decide_false];simp only[Z8,seval, *];exact bT rfl (by simp only[E8,seval, *]<;>rfl) (.v _)
   ·simp only[*,true_and,false_and,and_true,and_false,decide_true,decide_false];simp only[Z8,seval, *];exact bT rfl (by simp only[E8,seval, *]<;>rfl) (.v _)
  ·simp only[*,true_and,false_and,and_true,and_false,decide_true,decide_false];simp only[Z8,seval, *];exact bT rfl (by simp only[E8,seval, *]<;>rfl) (.v _)
 ·simp only[*,true_and,false_and,and_true,and_false,decide_true,decide_false];simp only[Z8,seval, *];exact bT rfl (by simp only[E8,seval, *]<;>rfl) (.v _)
theorem aI5 (s:aP) (h:s.cFg.qK≠0) (hf:Flat (.agg (aB s))) (b:Block) (st:St) (d:Option Nat):aN (aC Tryz.prog) 137 [.agg (aB s),.agg (aU b)] st d=some { dst:=d,val:=.v (.bool (decide (I4 s b)))}:=bI (bE hf (uI _)) (aNY s h hf b) (.v _)
noncomputable def Pu (s:aP) (ns:List Node) (i e:Int):Prop:=(Dk s e).2≠0∨(nd ns i).block.slot≤(Dk s e).1
theorem aNZ {s:aP} {v:SV} (hs:SD s v) (i e:Int) (i0:0≤i) (i1:i<v.ns.length):aC Tryz.prog 122 [.agg (aB s),.v (.int .i64 i),.v (.int .u64 e)]=some (.v (.bool (decide (Pu s v.ns i e)))):=by
 rw[cL Tryz.func122 rfl aI6 rfl];unfold Pu;by_cases h:(Dk s e).2=0
 ·have hq:((Dk s e).2 == 0)=true:=by simp[h]
  simp only[h,ne_eq,not_true_eq_false,false_or];simp only[Z8,seval,Ue s hs.flat,eA,hq,hs.tree,i0,i1];exact bT rfl (by simp only[E8,seval]<;>rfl) (.v _)
 ·have hq:((Dk s e).2 == 0)=false:=by simp[h]
  simp only[h,ne_eq,not_false_eq_true,true_or,decide_true];simp only[Z8,seval,Ue s hs.flat,eA,hq,hs.tree,i0,i1];exact bT rfl (by simp only[E8,seval]<;>rfl) (.v _)
theorem KS {s:aP} {v:SV} (hs:SD s v) (i e:Int) (i0:0≤i) (i1:i<v.ns.length) (st:St) (d:Option Nat):aN (aC Tryz.prog) 122 [.agg (aB s),.v (.int .i64 i),.v (.int .u64 e)] st d=some { dst:=d,val:=.v (.bool (decide (Pu s v.ns i e)))}:=bI (lN hs.flat (.v _) (.v _)) (aNZ hs i e i0 i1) (.v _)
theorem qA (x:Int) (h1:-9223372036854775808≤x) (h2:x≤9223372036854775807):IntKind.i64.wrap x=x:=wrap_i64 x h1 h2
theorem xW {α:Type} (z:α) (p:α→Bool) (l:List α) (k:Nat) (h:k<l.length):(l.take (k+1)).filter p=(l.take k).filter p++if p (gx z l k)=true then [gx z l k] else []:=by
 have hg:gx z l k=l[k]:=by simp[gx,h]
 rw[List.take_succ_eq_append_getElem h,List.filter_append,hg];congr 1
 by_cases hp:p l[k]=true<;>simp[hp]
noncomputable def Bj (p:Nat→Prop):Nat→Int
 | 0=>-1
 | k+1=>if 0≤Bj p k then Bj p k else if p k then k else -1
theorem sT {p:Nat→Prop}:∀n:Nat,(∀j,j<n→¬p j)→Bj p n=-1
 | 0,_=>rfl
 | n+1,h=>by
   simp only[Bj];rw[sT n fun j hj=>h j (by omega),if_neg (by omega),if_neg (h n (by omega))]
theorem Ie {p:Nat→Prop} {k:Nat} (hk:p k) (hj:∀j,j<k→¬p j):∀n:Nat,k<n→Bj p n=k
 | 0,h=>by omega
 | n+1,h=>by
   simp only[Bj];by_cases Fy:k=n
   ·subst Fy;rw[sT k hj,if_neg (by omega),if_pos hk]
   ·rw[Ie hk hj n (by omega),if_pos (by omega)]
theorem yP (p:Nat→Prop) (n:Nat):(Bj p n=-1∧∀j,j<n→¬p j)∨∃k:Nat,k<n∧p k∧(∀j,j<k→¬p j)∧Bj p n=k:=by
 by_cases h:∃k,k<n∧p k
 ·obtain⟨k,⟨hk,hp⟩,hm⟩:=Dz h
  have hj:∀j,j<k→¬p j:=fun j hj hpj=>by have:=hm j ⟨by omega,hpj⟩;omega
  exact .inr ⟨k,hk,hp,hj,Ie hp hj n hk⟩
 ·have h':∀j,j<n→¬p j:=fun j hj hp=>h ⟨j,hj,hp⟩
  exact .inl ⟨sT n h',h'⟩
theorem RS (p:Nat→Prop) (n:Nat):-1≤Bj p n∧Bj p n<n:=by
 rcases yP p n with ⟨h,_⟩|⟨k,hk,_,_,h⟩<;>rw[h]<;>omega
noncomputable def RT (l:List Table) (c:fR):Int:=Bj (fun k=>(gx iT l k).ck=c) l.length
theorem c65 (o:Option (List Table)) (hn:((ol o).length:Int)<1000000) (c:fR):aC Tryz.prog 65 [ov aT o,.agg (bY c)]=some (.v (.int .i64 (RT (ol o) c))):=by
 rw[cL Tryz.func65 rfl aN0 (by cases o<;>rfl)]
 simp only[Z8,seval];refine mH (fun m st=>∃k:Nat,(st.env 0=ov aT o∧st.env 3=.ptr 3 0 0∧st.heap 3 0=some (.cells (bY c))∧st.env 5=.v (.int .i64 k))∧(∀j:Nat,j<k→¬((gx iT (ol o) (j:Int)).ck=c))∧k≤(ol o).length∧m=(ol o).length-k)
  (fun e st=>(e=.ret∧∃k:Nat,k<(ol o).length∧((gx iT (ol o) (k:Int)).ck=c)∧(∀j:Nat,j<k→¬((gx iT (ol o) (j:Int)).ck=c))∧st.env 4=.v (.int .i64 (k:Nat)))∨(e=.exit 0∧(∀j:Nat,j<(ol o).length→¬((gx iT (ol o) (j:Int)).ck=c))∧st.env 0=ov aT o∧st.env 3=.ptr 3 0 0∧st.heap 3 0=some (.cells (bY c)))) ((ol o).length) ?step ?start ?rest
 case step =>
  rintro m st ⟨k,hI,hj,hk,hm⟩
  by_cases bB:(k:Int)<(ol o).length
  ·have q0:(0:Int)≤k:=by omega
   have hw:IntKind.i64.wrap ((k:Int)+1)=((k+1:Nat):Int):=by rw[qA _ (by omega) (by omega)];omega
   by_cases hh:(gx iT (ol o) (k:Int)).ck=c
   ·apply oT (.ret)
    ·simp only[Z8,seval,hI,bB,q0,hh];rfl
    ·exact .inl ⟨rfl,k,by omega,hh,hj,by simp only[E8,seval]⟩
   ·apply oN ((ol o).length-(k+1))
    ·simp only[Z8,seval,hI,bB,q0,hh,hw];rfl
    ·exact⟨k+1,by simp only[E8,seval,hI],fun j h=>(Nat.lt_succ_iff_lt_or_eq.1 h).elim (hj j) fun e=>by subst e;exact hh,by omega,rfl⟩
  ·apply oT (.exit 0)
   ·simp only[Z8,seval,hI,bB];rfl
   ·exact .inr ⟨rfl,fun j h=>hj j (by omega),by simp only[E8,seval,hI]⟩
 case start=>exact⟨0,by simp only[E8,seval]<;>rfl,fun j h=>by omega,by omega,by omega⟩
 case rest =>
  rintro e st (⟨rfl,k,hk,hh,hj,h⟩|⟨rfl,hj,h⟩)
  ·have hv:RT (ol o) c=k:=Ie hh hj _ hk
   simp only[Z8,seval];exact bT rfl (by simp only[E8,seval,h,hv]<;>rfl) (.v _)
  ·have hv:RT (ol o) c=-1:=sT _ hj
   simp only[Z8,seval];exact bT rfl (by simp only[E8,seval,h,hv]<;>rfl) (.v _)
theorem yQ (o:Option (List Table)) (hn:((ol o).length:Int)<1000000) (hf:Flat (ov aT o)) (c:fR) (st:St) (d:Option Nat):aN (aC Tryz.prog) 65 [ov aT o,.agg (bY c)] st d=some { dst:=d,val:=.v (.int .i64 (RT (ol o) c))}:=bI (bE hf (.agg _ (dA c))) (c65 o hn c) (.v _)
noncomputable def nz {α:Type} (l:List α):Option (List α):=if l=[] then none else some l
theorem oO {α:Type} (l:List α):ol (nz l)=l:=by unfold nz;split<;>simp[ol, *]
noncomputable def xX (l:List Table) (x:Int):List Table:=l.filter fun t=>decide (x≤t.ck.aL)
noncomputable def Mv (e sz:Nat) {α:Type} (c:List α→List AV) (l:List α):AV:=if l=[] then .v (.slice none 0 0) else .uniq e sz l.length (c l)
theorem aN1 (o:Option (List Table)) (hn:((ol o).length:Int)<1000000) (ht:∀t∈ol o,Flat t.jI) (x:Int):aC Tryz.prog 128 [ov aT o,.v (.int .u64 x)]=some (Mv 118 34 aT (xX (ol o) x)):=by
 rw[cL Tryz.func128 rfl aI7 (by cases o<;>rfl)]
 have wQ:∀l:List Table,(∀t∈l,t∈ol o)→∀y∈aT l,Flat y:=fun l h=>lR l fun t m=>ht t (h t m)
 simp only[Z8,seval];refine mH (fun m st=>∃k:Nat,(st.env 0=ov aT o∧st.env 1=.v (.int .u64 x)∧st.env 6=.v (.int .i64 k))∧(((((ol o).take k).filter (fun t=>decide (x≤t.ck.aL)))=[]∧st.env 5=.v (.slice none 0 0))∨((((ol o).take k).filter (fun t=>decide (x≤t.ck.aL)))≠[]∧∃g,st.env 5=.own 27 g∧g<st.aQ 27∧st.heap 27 g=some (.row 118 34 (((ol o).take k).filter (fun t=>decide (x≤t.ck.aL))).length (aT (((ol o).take k).filter (fun t=>decide (x≤t.ck.aL)))))))∧k≤(ol o).length∧m=(ol o).length-k)
  (fun e st=>e=.exit 0∧(((((ol o).take (ol o).length).filter (fun t=>decide (x≤t.ck.aL)))=[]∧st.env 5=.v (.slice none 0 0))∨((((ol o).take (ol o).length).filter (fun t=>decide (x≤t.ck.aL)))≠[]∧∃g,st.env 5=.own 27 g∧g<st.aQ 27∧st.heap 27 g=some (.row 118 34 (((ol o).take (ol o).length).filter (fun t=>decide (x≤t.ck.aL))).length (aT (((ol o).take (ol o).length).filter (fun t=>decide (x≤t.ck.aL)))))))∧st.env 0=ov aT o∧st.env 1=.v (.int .u64 x)) ((ol o).length) ?step ?start ?rest
 case step =>
  rintro m st ⟨k,hI,h5,hk,hm⟩
  have Fz:(((((ol o).take k).filter (fun t=>decide (x≤t.ck.aL))).length:Nat):Int)<1000000:=by have:=List.length_filter_le (fun t=>decide (x≤t.ck.aL)) ((ol o).take k);have h2:=List.length_take_le' k (ol o);omega
  by_cases bB:(k:Int)<(ol o).length
  ·have q0:(0:Int)≤k:=by omega
   have hw:IntKind.i64.wrap ((k:Int)+1)=((k+1:Nat):Int):=by rw[qA _ (by omega) (by omega)];omega
   have hs:=xW iT (fun t=>decide (x≤t.ck.aL)) (ol o) k (by omega)
   have aEX:Flat (.agg (cA (gx iT (ol o) (k:Int)))):=(jZ _).2 (ht _ (uY q0 bB))
   by_cases hh:x≤(gx iT (ol o) (k:Int)).ck.aL
   ·rw[if_pos (decide_eq_true hh)] at hs;rcases h5 with ⟨hy,h5⟩|⟨hy,g,h5⟩
    ·rw[hy] at hs;apply oN ((ol o).length-(k+1))
     ·simp only[Z8,seval,hI,h5,bB,hw,q0,aEX,hh];rfl
     ·exact⟨k+1,by simp only[E8,seval,hI],.inr ⟨by rw[hs];simp,_,by simp only[E8,seval]<;>rfl,(by simp only[E8,seval]<;>omega),(by rw[hs];simp only[E8,seval]<;>rfl)⟩,by omega,rfl⟩
    ·apply oN ((ol o).length-(k+1))
     ·simp only[Z8,seval,hI,h5,Fz,bB,hw,q0,aEX,hh];rfl
     ·exact⟨k+1,by simp only[E8,seval,hI],.inr ⟨by rw[hs];simp,_,by simp only[E8,seval]<;>rfl,(by simp only[E8,seval]<;>omega),(by rw[hs];simp only[E8,seval]<;>rfl)⟩,by omega,rfl⟩
   ·rw[if_neg (by simpa using hh),List.append_nil] at hs
    apply oN ((ol o).length-(k+1))
    ·simp only[Z8,seval,hI,bB,hw,q0,aEX,hh];rfl
    ·exact⟨k+1,by simp only[E8,seval,hI],by rw[hs];simpa only[E8,seval] using h5,by omega,rfl⟩
  ·have Fy:k=(ol o).length:=by omega
   rw[Fy] at h5;apply oT (.exit 0)
   ·simp only[Z8,seval,hI,bB];rfl
   ·exact⟨rfl,by simpa only[E8,seval] using h5,by simp only[E8,seval,hI]⟩
 case start=>exact⟨0,by simp only[E8,seval]<;>rfl,.inl ⟨rfl,by simp only[E8,seval]⟩,by omega,by omega⟩
 case rest =>
  rintro e st ⟨rfl,⟨hy,h5⟩|⟨hy,g,h5,hg,zT⟩,hI⟩
  ·rw[List.take_length] at hy;rw[show Mv 118 34 aT (xX (ol o) x)=.v (.slice none 0 0) from if_pos hy];simp only[Z8,seval,h5];exact bT rfl (by simp only[E8,seval]<;>rfl) (.v _)
  ·rw[List.take_length] at hy zT;rw[show Mv 118 34 aT (xX (ol o) x)=.uniq 118 34 (xX (ol o) x).length (aT (xX (ol o) x)) from if_neg hy];simp only[Z8,seval,h5,zT];exact sF rfl (by simp only[E8,seval];rfl) (by simp only[E8,seval,zT];rfl) (wQ _ fun t m=>(List.mem_filter.1 m).1)
theorem EO {T n sz:Nat} (ha:jF Tryz.prog T=some (n,sz)) (st:St) (x:AV) {k:IntKind} {i:Int} (h0:0≤i) (h1:i<n):bD Tryz.prog st T x (.v (.int k i))=uR x (i.toNat * sz):=by
 simp only[bD,ha];rw[if_pos ⟨h0,h1⟩]
theorem RU (st:St) (x:AV) {k:IntKind} {i:Int} (h0:0≤i) (h1:i<32):bD Tryz.prog st 27 x (.v (.int k i))=uR x (i.toNat * 1):=EO aEY st x h0 h1
theorem Gn (st:St) (x:AV) {k:IntKind} {i:Int} (h0:0≤i) (h1:i<4):bD Tryz.prog st 33 x (.v (.int k i))=uR x (i.toNat * 1):=EO aI8 st x h0 h1
def rb (r:cM) (i:Int):Int:=r.toList.getD i.toNat 0
def wb (r:qX) (i:Int):Int:=r.toList.getD i.toNat 0
theorem CY (r:cM) {i:Int} (h0:0≤i) (h1:i<32):(aZ r)[i.toNat]? = some (.v (.int .u8 (rb r i))):=by
 have h:i.toNat<r.toList.length:=by simp;omega
 unfold aZ rb;rw[List.getElem?_map,List.getElem?_eq_getElem h,List.getD_eq_getElem?_getD,List.getElem?_eq_getElem h];rfl
theorem Pv (r:qX) {i:Int} (h0:0≤i) (h1:i<4):(gF r)[i.toNat]? = some (.v (.int .u64 (wb r i))):=by
 have h:i.toNat<r.toList.length:=by simp;omega
 unfold gF wb;rw[List.getElem?_map,List.getElem?_eq_getElem h,List.getD_eq_getElem?_getD,List.getElem?_eq_getElem h];rfl
theorem aI9 (a b:cM):∃c:Int,aC Tryz.prog 176 [.agg (aZ a),.agg (aZ b)]=some (.v (.int .i64 c)):=by
 rw[cL Tryz.func176 rfl aJa rfl];suffices h:∃r,cD (yH Tryz.prog _ (St.init [.agg (aZ a),.agg (aZ b)])) (zU Tryz.prog 176 Tryz.f176)=some r∧∃c:Int,r=.v (.int .i64 c) by
  obtain⟨r,h,c,rfl⟩:=h;exact⟨c,h⟩
 simp only[Z8,seval];refine cH (fun m st=>∃k:Nat,(st.env 2=.ptr 2 0 0∧st.heap 2 0=some (.cells (aZ a))∧st.env 3=.ptr 3 0 0∧st.heap 3 0=some (.cells (aZ b))∧st.env 5=.v (.int .i64 k))∧k≤32∧m=32-k)
  (fun e st=>(e=.ret∧∃c:Int,st.env 4=.v (.int .i64 c))∨e=.exit 0) 32 ?step ?start ?rest
 case step =>
  rintro m st ⟨k,hI,hk,hm⟩
  by_cases bB:(k:Int)<32
  ·have q0:(0:Int)≤k:=by omega
   have hw:IntKind.i64.wrap ((k:Int)+1)=((k+1:Nat):Int):=by rw[qA _ (by omega) (by omega)];omega
   have ga:=CY a q0 bB
   have gb:=CY b q0 bB
   by_cases h1:rb a k<rb b k
   ·apply oT (.ret)
    ·simp only[Z8,seval,hI,bB,q0,RU,ga,gb,h1];rfl
    ·exact .inl ⟨rfl,-1,by simp only[E8,seval]⟩
   ·by_cases h2:rb b k<rb a k
    ·apply oT (.ret)
     ·simp only[Z8,seval,hI,bB,q0,RU,ga,gb,h1,h2];rfl
     ·exact .inl ⟨rfl,1,by simp only[E8,seval]⟩
    ·apply oN (32-(k+1))
     ·simp only[Z8,seval,hI,bB,q0,RU,ga,gb,h1,h2,hw];rfl
     ·exact⟨k+1,by simp only[E8,seval,hI],by omega,rfl⟩
  ·apply oT (.exit 0)
   ·simp only[Z8,seval,hI,bB];rfl
   ·exact .inr rfl
 case start=>exact⟨0,by simp only[E8,seval]<;>rfl,by omega,by omega⟩
 case rest =>
  rintro e st (⟨rfl,c,h⟩|rfl)
  ·simp only[Z8,seval];exact⟨_,bT rfl h (.v _),c,rfl⟩
  ·simp only[Z8,seval];exact⟨_,bT rfl (by simp only[E8,seval]<;>rfl) (.v _),0,rfl⟩
noncomputable def aJb (a b:cM):Int:=Classical.choose (aI9 a b)
theorem aEZ (a b:cM) (st:St) (d:Option Nat):aN (aC Tryz.prog) 176 [.agg (aZ a),.agg (aZ b)] st d=some { dst:=d,val:=.v (.int .i64 (aJb a b))}:=bI (bE (rH a) (rH b)) (Classical.choose_spec (aI9 a b)) (.v _)
theorem aJc (a b:qX):∃c:Int,aC Tryz.prog 170 [.agg (gF a),.agg (gF b)]=some (.v (.int .i64 c)):=by
 rw[cL Tryz.func170 rfl aJd rfl];suffices h:∃r,cD (yH Tryz.prog _ (St.init [.agg (gF a),.agg (gF b)])) (zU Tryz.prog 170 Tryz.f170)=some r∧∃c:Int,r=.v (.int .i64 c) by
  obtain⟨r,h,c,rfl⟩:=h;exact⟨c,h⟩
 simp only[Z8,seval];refine cH (fun m st=>∃k:Nat,(st.env 2=.ptr 2 0 0∧st.heap 2 0=some (.cells (gF a))∧st.env 3=.ptr 3 0 0∧st.heap 3 0=some (.cells (gF b))∧st.env 5=.v (.int .i64 ((k:Int)-1)))∧k≤4∧m=k)
  (fun e st=>(e=.ret∧∃c:Int,st.env 4=.v (.int .i64 c))∨e=.exit 0) 4 ?step ?start ?rest
 case step =>
  rintro m st ⟨k,hI,hk,hm⟩
  by_cases bB:(0:Int)≤(k:Int)-1
  ·have q1:(k:Int)-1<4:=by omega
   have hw:IntKind.i64.wrap ((k:Int)-1-1)=((k-1:Nat):Int)-1:=by rw[qA _ (by omega) (by omega)];omega
   have ga:=Pv a bB q1
   have gb:=Pv b bB q1
   by_cases h1:wb a ((k:Int)-1)<wb b ((k:Int)-1)
   ·apply oT (.ret)
    ·simp only[Z8,seval,hI,bB,q1,Gn,ga,gb,h1];rfl
    ·exact .inl ⟨rfl,-1,by simp only[E8,seval]⟩
   ·by_cases h2:wb b ((k:Int)-1)<wb a ((k:Int)-1)
    ·apply oT (.ret)
     ·simp only[Z8,seval,hI,bB,q1,Gn,ga,gb,h1,h2];rfl
     ·exact .inl ⟨rfl,1,by simp only[E8,seval]⟩
    ·apply oN (k-1)
     ·simp only[Z8,seval,hI,bB,q1,Gn,ga,gb,h1,h2,hw];rfl
     ·exact⟨k-1,by simp only[E8,seval,hI],by omega,rfl⟩
  ·apply oT (.exit 0)
   ·simp only[Z8,seval,hI,bB];rfl
   ·exact .inr rfl
 case start=>exact⟨4,by simp only[E8,seval]<;>rfl,by omega,by omega⟩
 case rest =>
  rintro e st (⟨rfl,c,h⟩|rfl)
  ·simp only[Z8,seval];exact⟨_,bT rfl h (.v _),c,rfl⟩
  ·simp only[Z8,seval];exact⟨_,bT rfl (by simp only[E8,seval]<;>rfl) (.v _),0,rfl⟩
noncomputable def aBa (a b:qX):Int:=Classical.choose (aJc a b)
theorem aJe (a b:qX) (st:St) (d:Option Nat):aN (aC Tryz.prog) 170 [.agg (gF a),.agg (gF b)] st d=some { dst:=d,val:=.v (.int .i64 (aBa a b))}:=bI (bE (.agg _ (iJ a)) (.agg _ (iJ b))) (Classical.choose_spec (aJc a b)) (.v _)
theorem aN2 (p b:Block):aC Tryz.prog 169 [.agg (aU p),.agg (aU b)]=some (.v (.bool (!decide (b.iL=dK) && decide (p.iL=dK)))):=by
 rw[cL Tryz.func169 rfl aJf rfl];by_cases h:b.iL=dK
 all_goals
  simp only[h,decide_true,decide_false,Bool.not_true,Bool.not_false,Bool.true_and,Bool.false_and];simp only[Z8,seval,h,decide_true,decide_false];exact bT rfl (by simp only[E8,seval]<;>rfl) (.v _)
theorem aE0 (p b:Block) (st:St) (d:Option Nat):aN (aC Tryz.prog) 169 [.agg (aU p),.agg (aU b)] st d=some { dst:=d,val:=.v (.bool (!decide (b.iL=dK) && decide (p.iL=dK)))}:=bI (bE (uI p) (uI b)) (aN2 p b) (.v _)
def ZT (Zz:qX) (p b:Block):Prop:=(b.iL=dK→p.iL=dK)∧(b.iL≠dK→p.iL=dK→aBa b.Vt Zz<0∧0≤aBa b.diff Zz)
theorem aN3 (Zz:qX) (p b:Block):aC Tryz.prog 114 [.agg (gF Zz),.agg (aU p),.agg (aU b)]=some (.v (.bool (decide (ZT Zz p b)))):=by
 rw[cL Tryz.func114 rfl aJg rfl];unfold ZT;by_cases h:b.iL=dK
 ·simp only[h,forall_const,ne_eq,not_true_eq_false,false_implies,and_true];simp only[Z8,seval,h,decide_true];exact bT rfl (by simp only[E8,seval]<;>rfl) (.v _)
 ·by_cases hp:p.iL=dK
  ·simp only[h,hp,ne_eq,not_false_eq_true,forall_const,false_implies,true_and];by_cases h1:aBa b.Vt Zz<0
   ·simp only[h1,true_and];simp only[Z8,seval,h,hp,aE0,aJe,h1,decide_true,decide_false,Bool.not_false,Bool.true_and];exact bT rfl (by simp only[E8,seval]<;>rfl) (.v _)
   ·simp only[h1,false_and,decide_false];simp only[Z8,seval,h,hp,aE0,aJe,h1,decide_true,decide_false,Bool.not_false,Bool.true_and];exact bT rfl (by simp only[E8,seval]<;>rfl) (.v _)
  ·simp only[h,hp,ne_eq,not_false_eq_true,forall_const,false_implies,and_self,decide_true];simp only[Z8,seval,h,hp,aE0,decide_false,Bool.not_false,Bool.true_and];exact bT rfl (by simp only[E8,seval]<;>rfl) (.v _)
theorem Vu (Zz:qX) (p b:Block) (st:St) (d:Option Nat):aN (aC Tryz.prog) 114 [.agg (gF Zz),.agg (aU p),.agg (aU b)] st d=some { dst:=d,val:=.v (.bool (decide (ZT Zz p b)))}:=bI (lN (.agg _ (iJ Zz)) (uI p) (uI b)) (aN3 Zz p b) (.v _)
noncomputable def Mw (b:Block):Int:=if b.iL=dK then 1 else 0
theorem aN4 (b:Block):aC Tryz.prog 233 [.agg (aU b)]=some (.v (.int .i64 (Mw b))):=by
 rw[cL Tryz.func233 rfl aJh rfl];unfold Mw;by_cases h:b.iL=dK
 ·simp only[h,if_true];simp only[Z8,seval,h,decide_true];exact bT rfl (by simp only[E8,seval]<;>rfl) (.v _)
 ·simp only[h,if_false];simp only[Z8,seval,h,decide_false];exact bT rfl (by simp only[E8,seval]<;>rfl) (.v _)
theorem aJi (b:Block) (st:St) (d:Option Nat):aN (aC Tryz.prog) 233 [.agg (aU b)] st d=some { dst:=d,val:=.v (.int .i64 (Mw b))}:=bI (cO (uI b)) (aN4 b) (.v _)
theorem kx {g:Nat} {args:List AV} {r:AV} (h:aC Tryz.prog g args=some r) (hf:∀x∈args,Flat x) (hr:Flat r):∀(st:St) (d:Option Nat),aN (aC Tryz.prog) g args st d=some { dst:=d,val:=r }:=fun st d=>bI hf h hr
theorem bf {x y:Int} (h:¬x=y):(x == y)=false∧(x != y)=true:=by simp[h]
theorem bt {x y:Int} (h:x=y):(x == y)=true∧(x != y)=false:=by simp[h]
def Ta (l:List Int) (n:Int) (k:Nat):Prop:=gx (0:Int) l k<0∨n≤gx (0:Int) l k∨(0<k∧gx (0:Int) l k≤gx (0:Int) l ((k:Int)-1))
noncomputable def Zs (l:List Int) (n:Int):Int:=if l=[] then 2 else if Bj (Ta l n) l.length<0 then 0 else if gx (0:Int) l (Bj (Ta l n) l.length)<0∨n≤gx (0:Int) l (Bj (Ta l n) l.length) then 3 else 8
theorem c40 (o:Option (List Int)) (hn:((ol o).length:Int)<1000000) (n:Int):aC Tryz.prog 40 [ov aK o,.v (.int .i64 n)]=some (.v (.int .i64 (Zs (ol o) n))):=by
 rw[cL Tryz.func40 rfl aN5 (by cases o<;>rfl)]
 refine jR ?_
 by_cases h0:ol o=[]
 ·have hv:Zs (ol o) n=2:=if_pos h0
  have hl:(ol o).length=0:=by rw[h0];rfl
  simp only[Z8,seval,hl];exact⟨_,bT rfl (by simp only[E8,seval,hv]<;>rfl) (by first|exact .v _|simp only[dY,hv]),rfl⟩
 have hl:=bf (x:=((ol o).length:Int)) (y:=0) (by have:=List.length_pos_iff.2 h0;omega)
 simp only[Z8,seval,hl];refine cH (fun m st=>∃k:Nat,(st.env 0=ov aK o∧st.env 1=.v (.int .i64 n)∧st.env 5=.v (.int .i64 k))∧(∀j:Nat,j<k→¬Ta (ol o) n j)∧k≤(ol o).length∧m=(ol o).length-k)
  (fun e st=>(e=.ret∧∃k:Nat,k<(ol o).length∧Ta (ol o) n k∧(∀j:Nat,j<k→¬Ta (ol o) n j)∧st.env 4=.v (.int .i64 (if gx (0:Int) (ol o) k<0∨n≤gx (0:Int) (ol o) k then 3 else 8)))∨(e=.exit 0∧∀j:Nat,j<(ol o).length→¬Ta (ol o) n j)) (ol o).length ?step ?start ?rest
 case step =>
  rintro m st ⟨k,hI,hj,hk,hm⟩
  by_cases bB:(k:Int)<(ol o).length
  ·have q0:(0:Int)≤k:=by omega
   have hw:IntKind.i64.wrap ((k:Int)+1)=((k+1:Nat):Int):=by rw[qA _ (by omega) (by omega)];omega
   by_cases h1:gx (0:Int) (ol o) k<0
   ·apply oT (.ret)
    ·simp only[Z8,seval,hI,bB,q0,h1];rfl
    ·exact .inl ⟨rfl,k,by omega,.inl h1,hj,by simp only[E8,seval,h1,true_or]⟩
   by_cases h2:n≤gx (0:Int) (ol o) k
   ·apply oT (.ret)
    ·simp only[Z8,seval,hI,bB,q0,h1,h2];rfl
    ·exact .inl ⟨rfl,k,by omega,.inr (.inl h2),hj,by simp only[E8,seval,h2,or_true]⟩
   by_cases h3:(0:Int)<k
   ·have q1:(0:Int)≤(k:Int)-1:=by omega
    have q2:(k:Int)-1<(ol o).length:=by omega
    have I0:IntKind.i64.wrap ((k:Int)-1)=(k:Int)-1:=by rw[qA _ (by omega) (by omega)]
    by_cases h4:gx (0:Int) (ol o) k≤gx (0:Int) (ol o) ((k:Int)-1)
    ·apply oT (.ret)
     ·simp only[Z8,seval,hI,bB,q0,q1,q2,I0,h1,h2,h3,h4];rfl
     ·exact .inl ⟨rfl,k,by omega,.inr (.inr ⟨by omega,h4⟩),hj,by simp only[E8,seval,h1,h2,or_self]⟩
    ·apply oN ((ol o).length-(k+1))
     ·simp only[Z8,seval,hI,bB,q0,q1,q2,I0,h1,h2,h3,h4,hw];rfl
     ·exact⟨k+1,by simp only[E8,seval,hI],fun j h=>(Nat.lt_succ_iff_lt_or_eq.1 h).elim (hj j) fun e=>by subst e;unfold Ta;simp only[h1,h2,h4,and_false,or_self,not_false_eq_true],by omega,rfl⟩
   ·have h5:¬(0<k):=by omega
    apply oN ((ol o).length-(k+1))
    ·simp only[Z8,seval,hI,bB,q0,h1,h2,h3,hw];rfl
    ·exact⟨k+1,by simp only[E8,seval,hI],fun j h=>(Nat.lt_succ_iff_lt_or_eq.1 h).elim (hj j) fun e=>by subst e;unfold Ta;simp only[h1,h2,h5,false_and,or_self,not_false_eq_true],by omega,rfl⟩
  ·apply oT (.exit 0)
   ·simp only[Z8,seval,hI,bB];rfl
   ·exact .inr ⟨rfl,fun j h=>hj j (by omega)⟩
 case start=>exact⟨0,by simp only[E8,seval]<;>rfl,fun j h=>by omega,by omega,by omega⟩
 case rest =>
  rintro e st (⟨rfl,k,hk,hh,hj,h⟩|⟨rfl,hj⟩)
  ·have hv:Zs (ol o) n=if gx (0:Int) (ol o) k<0∨n≤gx (0:Int) (ol o) k then 3 else 8:=by
    unfold Zs;rw[if_neg h0,Ie hh hj _ hk,if_neg (by omega)]
   rw[← hv] at h;simp only[Z8,seval];exact⟨_,bT rfl (by simp only[E8,seval,h]<;>rfl) (by first|exact .v _|simp only[dY,h]),rfl⟩
  ·have hv:Zs (ol o) n=0:=by
    unfold Zs;rw[if_neg h0,sT _ hj,if_pos (by omega)]
   simp only[Z8,seval];exact⟨_,bT rfl (by simp only[E8,seval,hv]<;>rfl) (by first|exact .v _|simp only[dY,hv]),rfl⟩
theorem aBb (a b:Int):(Zx a b).2≠21:=by unfold Zx;split<;>simp
theorem RV (l:List Int) (n:Int):Zs l n≠21:=by unfold Zs;split;simp;split;simp;split<;>simp
theorem aJj (o:Option (List Int)) (hn:((ol o).length:Int)<1000000):∃r,aC Tryz.prog 175 [ov bC o]=some r∧∃a e:Int,r=.eE [.v (.int .u64 a),.v (.int .i64 e)]∧e≠21:=by
 rw[cL Tryz.func175 rfl aDL (by cases o<;>rfl)]
 simp only[Z8,seval];refine cH (fun m st=>∃(k:Nat) (a:Int),(st.env 0=ov bC o∧st.env 4=.v (.int .u64 a)∧st.env 5=.v (.int .i64 k))∧k≤(ol o).length∧m=(ol o).length-k)
  (fun e st=>(e=.ret∧∃a e:Int,st.env 2=.v (.int .u64 a)∧st.env 3=.v (.int .i64 e)∧e≠21)∨(e=.exit 0∧∃a:Int,st.env 4=.v (.int .u64 a))) (ol o).length ?step ?start ?rest
 case step =>
  rintro m st ⟨k,a,hI,hk,hm⟩
  by_cases bB:(k:Int)<(ol o).length
  ·have q0:(0:Int)≤k:=by omega
   have hw:IntKind.i64.wrap ((k:Int)+1)=((k+1:Nat):Int):=by rw[qA _ (by omega) (by omega)];omega
   by_cases h1:(Zx a (gx (0:Int) (ol o) k)).2=0
   ·apply oN ((ol o).length-(k+1))
    ·simp only[Z8,seval,hI,bB,q0,aEL,eA,h1,hw];rfl
    ·exact⟨k+1,_,by simp only[E8,seval,hI]<;>rfl,by omega,rfl⟩
   ·apply oT (.ret)
    ·simp only[Z8,seval,hI,bB,q0,aEL,eA,bf h1];rfl
    ·exact .inl ⟨rfl,_,_,by simp only[E8,seval]<;>rfl,by simp only[E8,seval]<;>rfl,aBb _ _⟩
  ·apply oT (.exit 0)
   ·simp only[Z8,seval,hI,bB];rfl
   ·exact .inr ⟨rfl,a,by simp only[E8,seval,hI]⟩
 case start=>exact⟨0,0,by simp only[E8,seval]<;>exact⟨rfl,rfl⟩,by omega,by omega⟩
 case rest =>
  rintro e st (⟨rfl,a,e,h,h',gT⟩|⟨rfl,a,h⟩)
  ·simp only[Z8,seval];exact⟨_,dO rfl rfl rfl (by simp only[E8,seval,h,h']<;>rfl) (by simp only[E8,seval,h,h']<;>rfl),_,_,rfl,gT⟩
  ·simp only[Z8,seval,h];exact⟨_,dO rfl rfl rfl (by simp only[E8,seval,h]<;>rfl) (by simp only[E8,seval,h]<;>rfl),_,_,rfl,by decide⟩
theorem aDM (t:Table) (b:Option (List Int)) (hb:t.jI=ov bC b) (hl:((ol b).length:Int)<1000000) (n:Int):∃r,aC Tryz.prog 130 [.agg (cA t),.v (.int .i64 n)]=some r∧∃e:Int,r=.v (.int .i64 e)∧e≠21∧(e=0→((ol b).length:Int)=n):=by
 obtain⟨r,hr,a,e,rfl,he⟩:=aJj b hl
 have ZU:=kx hr (cO (dR b)) (.eE _ (bE (.v _) (.v _)))
 rw[cL Tryz.func130 rfl aDN rfl];by_cases h1:((ol b).length:Int)=n
 ·by_cases h2:e=0
  ·by_cases h3:4611686018427387904<a
   all_goals
    simp only[Z8,seval,hb,bt h1,bt h2,h3,ZU,eA];exact⟨_,bT rfl (by simp only[E8,seval]<;>rfl) (by first|exact .v _|simp only[dY]),_,rfl,by decide,fun _=>h1⟩
  ·simp only[Z8,seval,hb,bt h1,bf h2,ZU,eA];exact⟨_,bT rfl (by simp only[E8,seval]<;>rfl) (by first|exact .v _|simp only[dY]),_,rfl,by decide,fun _=>h1⟩
 ·simp only[Z8,seval,hb,bf h1];exact⟨_,bT rfl (by simp only[E8,seval]<;>rfl) (by first|exact .v _|simp only[dY]),_,rfl,by decide,fun h=>by cases h⟩
theorem aN6 (t:Table) (ht:rT t) (n:Int):∃r,aC Tryz.prog 130 [.agg (cA t),.v (.int .i64 n)]=some r∧∃e:Int,r=.v (.int .i64 e)∧e≠21:=by
 obtain⟨b,hb,hl⟩:=ht
 obtain⟨r,hr,e,h1,h2,_⟩:=aDM t b hb hl n
 exact⟨r,hr,e,h1,h2⟩
theorem aE1 (a b:fR):∃r,aC Tryz.prog 131 [.agg (bY a),.agg (bY b)]=some r∧∃e:Int,r=.v (.int .i64 e):=by
 rw[cL Tryz.func131 rfl aJk rfl];by_cases h1:a.aL=b.aL
 ·simp only[Z8,seval,bt h1,aEZ];exact⟨_,bT rfl (by simp only[E8,seval]<;>rfl) (by first|exact .v _|simp only[dY]),_,rfl⟩
 ·by_cases h2:a.aL<b.aL
  all_goals
   simp only[Z8,seval,bf h1,h2];exact⟨_,bT rfl (by simp only[E8,seval]<;>rfl) (by first|exact .v _|simp only[dY]),_,rfl⟩
noncomputable def aJl (a b:fR):Int:=Classical.choose (Classical.choose_spec (aE1 a b)).2
theorem aJm (a b:fR) (st:St) (d:Option Nat):aN (aC Tryz.prog) 131 [.agg (bY a),.agg (bY b)] st d=some { dst:=d,val:=.v (.int .i64 (aJl a b))}:=by
 have h:=(Classical.choose_spec (aE1 a b)).1
 rw[Classical.choose_spec (Classical.choose_spec (aE1 a b)).2] at h;exact bI (bE (.agg _ (dA a)) (.agg _ (dA b))) h (.v _)
def KnB (v:SV) (r:cM):Prop:=(∃j:Nat,j<(ol v.O).length∧(gx fB (ol v.O) j).root=r)∨0≤aM v.ns r
theorem c54 {s:aP} {v:SV} (hs:SD s v) (r:cM):aC Tryz.prog 54 [.agg (aB s),.agg (aZ r)]=some (.v (.bool (decide (KnB v r)))):=by
 have hn:=hs.nO
 rw[cL Tryz.func54 rfl aN7 rfl];refine jR ?_
 simp only[Z8,seval,hs.bU];refine cH (fun m st=>∃k:Nat,(st.env 2=.ptr 2 0 0∧st.heap 2 0=some (.cells (aB s))∧st.env 3=.ptr 3 0 0∧st.heap 3 0=some (.cells (aZ r))∧st.env 5=.v (.int .i64 k))∧(∀j:Nat,j<k→¬((gx fB (ol v.O) (j:Int)).root=r))∧k≤(ol v.O).length∧m=(ol v.O).length-k)
  (fun e st=>(e=.ret∧∃k:Nat,k<(ol v.O).length∧((gx fB (ol v.O) (k:Int)).root=r)∧(∀j:Nat,j<k→¬((gx fB (ol v.O) (j:Int)).root=r))∧st.env 4=.v (.bool true))∨(e=.exit 0∧(∀j:Nat,j<(ol v.O).length→¬((gx fB (ol v.O) (j:Int)).root=r))∧st.env 2=.ptr 2 0 0∧st.heap 2 0=some (.cells (aB s))∧st.env 3=.ptr 3 0 0∧st.heap 3 0=some (.cells (aZ r)))) ((ol v.O).length) ?step ?start ?rest
 case step =>
  rintro m st ⟨k,hI,hj,hk,hm⟩
  by_cases bB:(k:Int)<(ol v.O).length
  ·have q0:(0:Int)≤k:=by omega
   have hw:IntKind.i64.wrap ((k:Int)+1)=((k+1:Nat):Int):=by rw[qA _ (by omega) (by omega)];omega
   by_cases hh:(gx fB (ol v.O) (k:Int)).root=r
   ·apply oT (.ret)
    ·simp only[Z8,seval,hI,bB,q0,hs.bU,hh];rfl
    ·exact .inl ⟨rfl,k,by omega,hh,hj,by simp only[E8,seval,hs.bU]⟩
   ·apply oN ((ol v.O).length-(k+1))
    ·simp only[Z8,seval,hI,bB,q0,hs.bU,hh,hw];rfl
    ·exact⟨k+1,by simp only[E8,seval,hI],fun j h=>(Nat.lt_succ_iff_lt_or_eq.1 h).elim (hj j) fun e=>by subst e;exact hh,by omega,rfl⟩
  ·apply oT (.exit 0)
   ·simp only[Z8,seval,hI,bB,hs.bU];rfl
   ·exact .inr ⟨rfl,fun j h=>hj j (by omega),by simp only[E8,seval,hI]⟩
 case start=>exact⟨0,by simp only[E8,seval]<;>rfl,fun j h=>by omega,by omega,by omega⟩
 case rest =>
  rintro e st (⟨rfl,k,hk,hh,hj,h⟩|⟨rfl,hj,hI⟩)
  ·have hv:decide (KnB v r)=true:=decide_eq_true (.inl ⟨k,hk,hh⟩)
   simp only[Z8,seval];exact⟨_,bT rfl (by simp only[E8,seval,h]<;>rfl) (by first|exact .v _|simp only[dY,h]),by rw[hv]⟩
  ·have hv:decide (KnB v r)=decide (0≤aM v.ns r):=by
    refine decide_eq_decide.2 ⟨fun h=>h.elim (fun ⟨j,hj1,hj2⟩=>absurd hj2 (hj j hj1)) id,.inr⟩
   simp only[Z8,seval,hI,hs.tree,jA _ _ hs.nn];exact⟨_,bT rfl (by simp only[E8,seval]<;>rfl) (by first|exact .v _|simp only[dY]),by rw[hv]⟩
theorem I5 {s:aP} {v:SV} (hs:SD s v) (r:cM) (st:St) (d:Option Nat):aN (aC Tryz.prog) 54 [.agg (aB s),.agg (aZ r)] st d=some { dst:=d,val:=.v (.bool (decide (KnB v r)))}:=bI (bE hs.flat (rH r)) (c54 hs r) (.v _)
def EP (s:aP) (a:rQ):Prop:=a.target.aL≠Bi s a.slot∨(a.target.aL≠Bi s s.now∧(Bi s s.now=0∨a.target.aL≠IntKind.u64.wrap (Bi s s.now-1)))
noncomputable def Ga (s:aP) (v:SV) (a:rQ) (V:List Int):Bool × Int :=
 if Zs V (ol v.B).length≠0 then (false,Zs V (ol v.B).length) else
 if EP s a then (false,18) else
 if aM v.ns a.root<0 then (false,10) else
 if aM v.ns a.target.root<0 then (false,10) else
 if a.slot<(nd v.ns (aM v.ns a.root)).block.slot then (false,14) else
 if EK v.ns (aM v.ns a.root) (Dk s a.target.aL).1≠aM v.ns a.target.root then (false,19) else (decide (s.now≤a.slot),0)
theorem c39 {s:aP} {v:SV} (hs:SD s v) (hu:gZ v.ns) (hp:s.cFg.qK≠0) (a:rQ) (o:Option (List Int)) (hV:a.eU=ov aK o) (hl:((ol o).length:Int)<1000000) :
 aC Tryz.prog 39 [.agg (aB s),.agg (gV a)]=some (.eE [.v (.bool (Ga s v a (ol o)).1),.v (.int .i64 (Ga s v a (ol o)).2)]):=by
 have hf:=hs.flat
 have JJ:=fun n=>kx (c40 o hl n) (bE (bO o) (.v _)) (.v _)
 rw[cL Tryz.func39 rfl aN8 rfl];refine jR ?_
 have r1:=dW v.ns a.root
 by_cases g1:Zs (ol o) (ol v.B).length=0
 case neg =>
  have hv:Ga s v a (ol o)=(false,Zs (ol o) (ol v.B).length):=by simp only[Ga,ne_eq,g1,not_false_eq_true,if_true]
  simp only[Z8,seval,hV,Vr hs,JJ,bf g1];exact⟨_,dO rfl rfl rfl (by simp only[E8,seval]<;>rfl) (by simp only[E8,seval]<;>rfl),by rw[hv]⟩
 have RW:EP s a→Ga s v a (ol o)=(false,18):=fun g=>by simp only[Ga,ne_eq,g1,not_true_eq_false,if_false,g,if_true]
 by_cases g2:a.target.aL=Bi s a.slot
 case neg =>
  have hv:=RW (.inl g2)
  simp only[Z8,seval,hV,Vr hs,JJ,bt g1,sH s hp hf,bf g2];exact⟨_,dO rfl rfl rfl (by simp only[E8,seval]<;>rfl) (by simp only[E8,seval]<;>rfl),by rw[hv]⟩
 by_cases g3:a.target.aL=Bi s s.now
 case neg =>
  by_cases g4:Bi s s.now=0
  ·have hv:=RW (.inr ⟨g3,.inl g4⟩)
   simp only[Z8,seval,hV,Vr hs,JJ,bt g1,sH s hp hf,bt g2,bf g3,bt g4];exact⟨_,dO rfl rfl rfl (by simp only[E8,seval]<;>rfl) (by simp only[E8,seval]<;>rfl),by rw[hv]⟩
  by_cases g5:a.target.aL=IntKind.u64.wrap (Bi s s.now-1)
  case neg =>
   have hv:=RW (.inr ⟨g3,.inr g5⟩)
   simp only[Z8,seval,hV,Vr hs,JJ,bt g1,sH s hp hf,bt g2,bf g3,bf g4,bf g5];exact⟨_,dO rfl rfl rfl (by simp only[E8,seval]<;>rfl) (by simp only[E8,seval]<;>rfl),by rw[hv]⟩
  have gb:¬EP s a:=fun h=>h.elim (fun h=>h g2) fun h=>h.2.elim g4 fun h=>h g5
  by_cases g6:aM v.ns a.root<0
  ·have hv:Ga s v a (ol o)=(false,10):=by simp only[Ga,ne_eq,g1,not_true_eq_false,if_false,gb,g6,if_true]
   simp only[Z8,seval,hV,Vr hs,JJ,bt g1,sH s hp hf,bt g2,bf g3,bf g4,bt g5,hs.tree,jA _ _ hs.nn,g6];exact⟨_,dO rfl rfl rfl (by simp only[E8,seval]<;>rfl) (by simp only[E8,seval]<;>rfl),by rw[hv]⟩
  by_cases g7:aM v.ns a.target.root<0
  ·have hv:Ga s v a (ol o)=(false,10):=by simp only[Ga,ne_eq,g1,not_true_eq_false,if_false,gb,g6,g7,if_true]
   simp only[Z8,seval,hV,Vr hs,JJ,bt g1,sH s hp hf,bt g2,bf g3,bf g4,bt g5,hs.tree,jA _ _ hs.nn,g6,g7];exact⟨_,dO rfl rfl rfl (by simp only[E8,seval]<;>rfl) (by simp only[E8,seval]<;>rfl),by rw[hv]⟩
  have q0:0≤aM v.ns a.root:=by omega
  by_cases g8:a.slot<(nd v.ns (aM v.ns a.root)).block.slot
  ·have hv:Ga s v a (ol o)=(false,14):=by simp only[Ga,ne_eq,g1,not_true_eq_false,if_false,gb,g6,g7,g8,if_true]
   simp only[Z8,seval,hV,Vr hs,JJ,bt g1,sH s hp hf,bt g2,bf g3,bf g4,bt g5,hs.tree,jA _ _ hs.nn,g6,g7,q0,r1,g8];exact⟨_,dO rfl rfl rfl (by simp only[E8,seval]<;>rfl) (by simp only[E8,seval]<;>rfl),by rw[hv]⟩
  by_cases g9:EK v.ns (aM v.ns a.root) (Dk s a.target.aL).1=aM v.ns a.target.root
  ·have hv:Ga s v a (ol o)=(decide (s.now≤a.slot),0):=by simp only[Ga,ne_eq,g1,not_true_eq_false,if_false,gb,g6,g7,g8,g9]
   simp only[Z8,seval,hV,Vr hs,JJ,bt g1,sH s hp hf,bt g2,bf g3,bf g4,bt g5,hs.tree,jA _ _ hs.nn,g6,g7,q0,r1,g8,Ue s hf,eA,JY _ hu hs.nn,bt g9];exact⟨_,dO rfl rfl rfl (by simp only[E8,seval]<;>rfl) (by simp only[E8,seval]<;>rfl),by rw[hv]⟩
  ·have hv:Ga s v a (ol o)=(false,19):=by simp only[Ga,ne_eq,g1,not_true_eq_false,if_false,gb,g6,g7,g8,g9,not_false_eq_true,if_true]
   simp only[Z8,seval,hV,Vr hs,JJ,bt g1,sH s hp hf,bt g2,bf g3,bf g4,bt g5,hs.tree,jA _ _ hs.nn,g6,g7,q0,r1,g8,Ue s hf,eA,JY _ hu hs.nn,bf g9];exact⟨_,dO rfl rfl rfl (by simp only[E8,seval]<;>rfl) (by simp only[E8,seval]<;>rfl),by rw[hv]⟩
 have gb:¬EP s a:=fun h=>h.elim (fun h=>h g2) fun h=>h.1 g3
 by_cases g6:aM v.ns a.root<0
 ·have hv:Ga s v a (ol o)=(false,10):=by simp only[Ga,ne_eq,g1,not_true_eq_false,if_false,gb,g6,if_true]
  simp only[Z8,seval,hV,Vr hs,JJ,bt g1,sH s hp hf,bt g2,bt g3,hs.tree,jA _ _ hs.nn,g6];exact⟨_,dO rfl rfl rfl (by simp only[E8,seval]<;>rfl) (by simp only[E8,seval]<;>rfl),by rw[hv]⟩
 by_cases g7:aM v.ns a.target.root<0
 ·have hv:Ga s v a (ol o)=(false,10):=by simp only[Ga,ne_eq,g1,not_true_eq_false,if_false,gb,g6,g7,if_true]
  simp only[Z8,seval,hV,Vr hs,JJ,bt g1,sH s hp hf,bt g2,bt g3,hs.tree,jA _ _ hs.nn,g6,g7];exact⟨_,dO rfl rfl rfl (by simp only[E8,seval]<;>rfl) (by simp only[E8,seval]<;>rfl),by rw[hv]⟩
 have q0:0≤aM v.ns a.root:=by omega
 by_cases g8:a.slot<(nd v.ns (aM v.ns a.root)).block.slot
 ·have hv:Ga s v a (ol o)=(false,14):=by simp only[Ga,ne_eq,g1,not_true_eq_false,if_false,gb,g6,g7,g8,if_true]
  simp only[Z8,seval,hV,Vr hs,JJ,bt g1,sH s hp hf,bt g2,bt g3,hs.tree,jA _ _ hs.nn,g6,g7,q0,r1,g8];exact⟨_,dO rfl rfl rfl (by simp only[E8,seval]<;>rfl) (by simp only[E8,seval]<;>rfl),by rw[hv]⟩
 by_cases g9:EK v.ns (aM v.ns a.root) (Dk s a.target.aL).1=aM v.ns a.target.root
 ·have hv:Ga s v a (ol o)=(decide (s.now≤a.slot),0):=by simp only[Ga,ne_eq,g1,not_true_eq_false,if_false,gb,g6,g7,g8,g9]
  simp only[Z8,seval,hV,Vr hs,JJ,bt g1,sH s hp hf,bt g2,bt g3,hs.tree,jA _ _ hs.nn,g6,g7,q0,r1,g8,Ue s hf,eA,JY _ hu hs.nn,bt g9];exact⟨_,dO rfl rfl rfl (by simp only[E8,seval]<;>rfl) (by simp only[E8,seval]<;>rfl),by rw[hv]⟩
 ·have hv:Ga s v a (ol o)=(false,19):=by simp only[Ga,ne_eq,g1,not_true_eq_false,if_false,gb,g6,g7,g8,g9,not_false_eq_true,if_true]
  simp only[Z8,seval,hV,Vr hs,JJ,bt g1,sH s hp hf,bt g2,bt g3,hs.tree,jA _ _ hs.nn,g6,g7,q0,r1,g8,Ue s hf,eA,JY _ hu hs.nn,bf g9];exact⟨_,dO rfl rfl rfl (by simp only[E8,seval]<;>rfl) (by simp only[E8,seval]<;>rfl),by rw[hv]⟩
theorem RX (ns:List Node) (s:Int) (l:List Int):Dr ns s l=-1∨Dr ns s l∈l:=by
 suffices h:∀(l:List Int) (a:Int),l.foldl (fun r x=>if (nd ns x).block.slot≤s then x else r) a=a∨l.foldl (fun r x=>if (nd ns x).block.slot≤s then x else r) a∈l from h l (-1)
 intro l;induction l with
 | nil=>exact fun a=>.inl rfl
 | cons x l ih =>
   intro a;rw[List.foldl_cons];split
   ·rcases ih x with h|h
    ·exact .inr (by rw[h];simp)
    ·exact .inr (by simp[h])
   ·rcases ih a with h|h
    ·exact .inl h
    ·exact .inr (by simp[h])
theorem CZ {ns:List Node} (hu:gZ ns) (i s:Int):-1≤EK ns i s∧EK ns i s<ns.length∧EK ns i s≤max i (-1):=by
 by_cases hi:0≤i∧i<ns.length
 ·rcases RX ns s (path ns i) with h|h
  ·rw[show EK ns i s=-1 from h];omega
  ·have:=Vb hu i.toNat i rfl hi.1 hi.2 _ h
   rw[show EK ns i s=Dr ns s (path ns i) from rfl];omega
 ·rw[JX s hi];omega
noncomputable def elC {α:Type} (x:AV) (k:fR→Option α) (fb:Option α):Option α:=if h:∃c,x=.agg (bY c) then k (Classical.choose h) else fb
theorem aJn {α:Type} (c:fR) (k:fR→Option α) (fb:Option α):elC (.agg (bY c)) k fb=k c:=by
 unfold elC;have h:∃c',AV.agg (bY c)=.agg (bY c'):=⟨c,rfl⟩
 rw[dif_pos h];have:=Classical.choose_spec h
 injection this with h2
 rw[← (mQ _ _).1 h2]
@[congr] theorem aHT {α:Type} {x y:AV} {k:fR→Option α} {fb:Option α} (h:x=y):elC x k fb=elC y k fb:=by rw[h]
theorem aE2 {call:Nat→List AV→Option AV} {ops:Array Oper} {st:St} {T:Nat} {pos:String} {eN:Array Edge} (d:Nat) (x y z w:Operand) :
 bZ Tryz.prog call ops ⟨some d,.buildSlice 109 4 #[(0,x),(1,y),(2,z),(3,w)],T,pos,eN,none⟩ st =
  elC (st.ev x) (fun a=>elC (st.ev y) (fun b=>elC (st.ev z) (fun c=>elC (st.ev w) (fun e=>some ((st.new d (.row 41 33 [a,b,c,e].length (yR [a,b,c,e]))).put (some d) (.own d (st.aQ d))))
   (bZ Tryz.prog call ops ⟨some d,.buildSlice 109 4 #[(0,x),(1,y),(2,z),(3,w)],T,pos,eN,none⟩ st)) (bZ Tryz.prog call ops ⟨some d,.buildSlice 109 4 #[(0,x),(1,y),(2,z),(3,w)],T,pos,eN,none⟩ st))
   (bZ Tryz.prog call ops ⟨some d,.buildSlice 109 4 #[(0,x),(1,y),(2,z),(3,w)],T,pos,eN,none⟩ st)) (bZ Tryz.prog call ops ⟨some d,.buildSlice 109 4 #[(0,x),(1,y),(2,z),(3,w)],T,pos,eN,none⟩ st):=by
 unfold elC;split
 ·rename_i h1;have h1c:=h1
  obtain⟨a,CG⟩:=h1c
  have e1:Classical.choose h1=a:=by have:=(Classical.choose_spec h1).symm.trans CG;injection this with t;exact (mQ _ _).1 t
  rw[e1];split
  ·rename_i h2;have h2c:=h2
   obtain⟨b,h2'⟩:=h2c
   have e2:Classical.choose h2=b:=by have:=(Classical.choose_spec h2).symm.trans h2';injection this with t;exact (mQ _ _).1 t
   rw[e2];split
   ·rename_i h3;have h3c:=h3
    obtain⟨c,h3'⟩:=h3c
    have e3:Classical.choose h3=c:=by have:=(Classical.choose_spec h3).symm.trans h3';injection this with t;exact (mQ _ _).1 t
    rw[e3];split
    ·rename_i h4;have h4c:=h4
     obtain⟨e,F5⟩:=h4c
     have e4:Classical.choose h4=e:=by have:=(Classical.choose_spec h4).symm.trans F5;injection this with t;exact (mQ _ _).1 t
     rw[e4,kU,I6];have hz:((List.range 4).flatMap fun _=>Ck.map AV.v)=yR [iM,iM,iM,iM]:=by rw[Al];rfl
     have u0:=Mx [iM,iM,iM,iM] 0 a (by simp)
     have u1:=Mx [a,iM,iM,iM] 1 b (by simp)
     have u2:=Mx [a,b,iM,iM] 2 c (by simp)
     have u3:=Mx [a,b,c,iM] 3 e (by simp)
     simp only[Int.reduceToNat,Nat.reduceMul,Nat.reduceAdd,List.set_cons_zero,List.set_cons_succ,List.set] at u0 u1 u2 u3;simp only[cU,aJo,List.toList_toArray,List.map_cons,List.map_nil,List.all_cons,List.all_nil,CG,h2',h3',F5,AV.jL,Bool.and_self,DA,KT,AV.cells,bQ,Vv,hz,List.length_cons,List.length_nil,Nat.reduceMul,Nat.reduceAdd,Nat.reducePow,Nat.reduceLeDiff,Nat.reduceLT,true_or,true_and,and_true,and_self,if_true,↓reduceIte,u0,u1,u2,u3,Nat.zero_le,Nat.le_refl]
    ·rfl
   ·rfl
  ·rfl
 ·rfl
def ZV (s:aP) (v:SV) (b:Block) (c:fR):Prop:=c.aL≤s.aG.fin.aL∨(if (Dk s c.aL).1<b.slot then 0≤EK v.ns (aM v.ns b.parent) (Dk s c.aL).1∧(nd v.ns (EK v.ns (aM v.ns b.parent) (Dk s c.aL).1)).block.root=c.root else b.root=c.root)
def Iy (b:Block):List fR:=[b.dN,b.fin,b.dS.pj,b.dS.pf]
def ER (s:aP) (v:SV) (b:Block):Prop:=0≤aM v.ns b.parent∧I4 s b∧∀j:Nat,j<4→ZV s v b (gx iM (Iy b) j)
theorem c69 {s:aP} {v:SV} (hs:SD s v) (hu:gZ v.ns) (hp:s.cFg.qK≠0) (b:Block):aC Tryz.prog 69 [.agg (aB s),.agg (aU b)]=some (.v (.bool (decide (ER s v b)))):=by
 have hf:=hs.flat
 rw[cL Tryz.func69 rfl aN9 rfl];refine jR ?_
 have r1:=dW v.ns b.parent
 by_cases g1:aM v.ns b.parent<0
 ·have hv:decide (ER s v b)=false:=decide_eq_false (fun h=>by have:=h.1;omega)
  simp only[Z8,seval,hs.tree,jA _ _ hs.nn,g1];exact⟨_,bT rfl (by simp only[E8,seval]<;>rfl) (by first|exact .v _|simp only[dY]),by rw[hv]⟩
 by_cases g2:I4 s b
 case neg =>
  have hv:decide (ER s v b)=false:=decide_eq_false (fun h=>g2 h.2.1)
  simp only[Z8,seval,hs.tree,jA _ _ hs.nn,g1,aI5 s hp hf,g2];exact⟨_,bT rfl (by simp only[E8,seval]<;>rfl) (by first|exact .v _|simp only[dY]),by rw[hv]⟩
 simp only[Z8,seval,hs.tree,jA _ _ hs.nn,g1,aI5 s hp hf,g2,aE2,aJn];have h4:(Iy b).length=4:=rfl
 refine cH (fun m st=>∃k:Nat,(st.env 2=.ptr 2 0 0∧st.heap 2 0=some (.cells (aB s))∧st.env 3=.ptr 3 0 0∧st.heap 3 0=some (.cells (aU b))∧st.env 5=.v (.int .i64 (aM v.ns b.parent))∧st.env 6=.own 33 0∧st.heap 33 0=some (.row 41 33 (Iy b).length (yR (Iy b)))∧st.env 7=.v (.int .i64 k))∧(∀j:Nat,j<k→ZV s v b (gx iM (Iy b) j))∧k≤4∧m=4-k)
  (fun e st=>(e=.ret∧st.env 4=.v (.bool false)∧∃j:Nat,j<4∧¬ZV s v b (gx iM (Iy b) j))∨(e=.exit 0∧∀j:Nat,j<4→ZV s v b (gx iM (Iy b) j))) 4 ?step ?start ?rest
 case step =>
  rintro m st ⟨k,hI,hj,hk,hm⟩
  by_cases JR:k<4
  ·have bB:(k:Int)<(Iy b).length:=by rw[h4];omega
   have q0:(0:Int)≤k:=by omega
   have hw:IntKind.i64.wrap ((k:Int)+1)=((k+1:Nat):Int):=by rw[qA _ (by omega) (by omega)];omega
   obtain⟨c,hc⟩:∃c,gx iM (Iy b) k=c:=⟨_,rfl⟩
   have ra:=CZ hu (aM v.ns b.parent) (Dk s c.aL).1
   have ld:∀T kk off,sU Tryz.prog T=some kk→0<kk→off+kk≤33→uK Tryz.prog T (some (.row 41 33 (Iy b).length (yR (Iy b)))) ((k:Int).toNat * 33+off)=fD Tryz.prog T (bY c) off:=fun T kk off h1 h2 h3=>by rw[ES q0 bB h1 h2 h3,hc]
   have ld0:∀T kk,sU Tryz.prog T=some kk→0<kk→kk≤33→uK Tryz.prog T (some (.row 41 33 (Iy b).length (yR (Iy b)))) ((k:Int).toNat * 33)=fD Tryz.prog T (bY c) 0:=fun T kk h1 h2 h3=>by rw[XA q0 bB h1 h2 h3,hc]
   have nxt:ZV s v b c→∀j:Nat,j<k+1→ZV s v b (gx iM (Iy b) j):=fun h j hj'=>(Nat.lt_succ_iff_lt_or_eq.1 hj').elim (hj j) fun e=>by subst e;rw[hc];exact h
   have ld1:=ld0 23 1 RY (by decide) (by decide)
   have ld2:=ld 27 32 1 aJp (by decide) (by decide)
   have cl:∀i:Int,(k:Int)<4:=fun _=>by omega
   have hl4:(k:Int)<((Iy b).length:Int):=bB
   by_cases h1:c.aL≤s.aG.fin.aL
   ·apply oN (4-(k+1))
    ·simp only[Z8,seval,hI,bB,q0,ld1,ld2,h1,hw];rfl
    ·exact⟨k+1,by simp only[E8,seval,hI],nxt (.inl h1),by omega,rfl⟩
   by_cases h2:(Dk s c.aL).1<b.slot
   ·by_cases h3:EK v.ns (aM v.ns b.parent) (Dk s c.aL).1<0
    ·apply oT (.ret)
     ·simp only[Z8,seval,hI,bB,q0,ld1,ld2,h1,h2,h3,Ue s hf,eA,hs.tree,JY _ hu hs.nn];rfl
     ·exact .inl ⟨rfl,by simp only[E8,seval],k,JR,by rw[hc];exact fun h=>h.elim h1 fun h=>by rw[if_pos h2] at h;omega⟩
    have q3:0≤EK v.ns (aM v.ns b.parent) (Dk s c.aL).1:=by omega
    by_cases F5:(nd v.ns (EK v.ns (aM v.ns b.parent) (Dk s c.aL).1)).block.root=c.root
    ·apply oN (4-(k+1))
     ·simp only[Z8,seval,hI,bB,q0,ld1,ld2,h1,h2,h3,Ue s hf,eA,hs.tree,JY _ hu hs.nn,q3,ra,F5,hw];rfl
     ·exact⟨k+1,by simp only[E8,seval,hI],nxt (.inr (by rw[if_pos h2];exact⟨q3,F5⟩)),by omega,rfl⟩
    ·apply oT (.ret)
     ·simp only[Z8,seval,hI,bB,q0,ld1,ld2,h1,h2,h3,Ue s hf,eA,hs.tree,JY _ hu hs.nn,q3,ra,F5];rfl
     ·exact .inl ⟨rfl,by simp only[E8,seval],k,JR,by rw[hc];exact fun h=>h.elim h1 fun h=>by rw[if_pos h2] at h;exact F5 h.2⟩
   ·by_cases F5:b.root=c.root
    ·apply oN (4-(k+1))
     ·simp only[Z8,seval,hI,bB,q0,ld1,ld2,h1,h2,Ue s hf,eA,F5,hw];rfl
     ·exact⟨k+1,by simp only[E8,seval,hI],nxt (.inr (by rw[if_neg h2];exact F5)),by omega,rfl⟩
    ·apply oT (.ret)
     ·simp only[Z8,seval,hI,bB,q0,ld1,ld2,h1,h2,Ue s hf,eA,F5];rfl
     ·exact .inl ⟨rfl,by simp only[E8,seval],k,JR,by rw[hc];exact fun h=>h.elim h1 fun h=>by rw[if_neg h2] at h;exact F5 h⟩
  ·have bB:¬((k:Int)<(Iy b).length):=by rw[h4];omega
   apply oT (.exit 0)
   ·simp only[Z8,seval,hI,bB];rfl
   ·exact .inr ⟨rfl,fun j h=>hj j (by omega)⟩
 case start=>exact⟨0,by simp only[E8,seval]<;>rfl,fun j h=>by omega,by omega,by omega⟩
 case rest =>
  rintro e st (⟨rfl,h,j,hj,hn⟩|⟨rfl,h⟩)
  ·have hv:decide (ER s v b)=false:=decide_eq_false (fun h=>hn (h.2.2 j hj))
   simp only[Z8,seval];exact⟨_,bT rfl (by simp only[E8,seval,h]<;>rfl) (by first|exact .v _|simp only[dY,h]),by rw[hv]⟩
  ·have hv:decide (ER s v b)=true:=decide_eq_true ⟨by omega,g2,h⟩
   simp only[Z8,seval];exact⟨_,bT rfl (by simp only[E8,seval]<;>rfl) (by first|exact .v _|simp only[dY]),by rw[hv]⟩
theorem I7 {s:aP} {v:SV} (hs:SD s v) (hu:gZ v.ns) (hp:s.cFg.qK≠0) (b:Block) (st:St) (d:Option Nat):aN (aC Tryz.prog) 69 [.agg (aB s),.agg (aU b)] st d=some { dst:=d,val:=.v (.bool (decide (ER s v b)))}:=bI (bE hs.flat (uI b)) (c69 hs hu hp b) (.v _)
noncomputable def Jo (s:aP) (v:SV) (b:Block):Int :=
 if b.root=dK then 2 else if KnB v b.root then 9 else if s.now<b.slot then 12 else if b.slot≤(Dk s s.aG.fin.aL).1 then 13 else
 if aM v.ns b.parent<0 then 10 else if b.slot≤(nd v.ns (aM v.ns b.parent)).block.slot then 14 else if (nd v.ns (aM v.ns b.parent)).status=2 then 15 else
 if ¬ER s v b then 16 else if ¬ZT s.cFg.Zz (nd v.ns (aM v.ns b.parent)).block b then 17 else if s.cFg.mA.rK≤(v.ns.length:Int) then 11 else 0
theorem c52 {s:aP} {v:SV} (hs:SD s v) (hu:gZ v.ns) (hp:s.cFg.qK≠0) (b:Block):aC Tryz.prog 52 [.agg (aB s),.agg (aU b)]=some (.v (.int .i64 (Jo s v b))):=by
 have hf:=hs.flat
 rw[cL Tryz.func52 rfl aOb rfl];refine jR ?_
 have r1:=dW v.ns b.parent
 by_cases g1:b.root=dK
 ·simp only[Z8,seval,Ue s hf,eA,I5 hs,hs.tree,jA _ _ hs.nn,I7 hs hu hp,Vu,decide_true,decide_false,g1];exact⟨_,bT rfl (by simp only[E8,seval]<;>rfl) (by first|exact .v _|simp only[dY]),by simp only[Jo,g1,not_true_eq_false,not_false_eq_true,if_true,if_false]⟩
 by_cases g2:KnB v b.root
 ·simp only[Z8,seval,Ue s hf,eA,I5 hs,hs.tree,jA _ _ hs.nn,I7 hs hu hp,Vu,decide_true,decide_false,g1,g2];exact⟨_,bT rfl (by simp only[E8,seval]<;>rfl) (by first|exact .v _|simp only[dY]),by simp only[Jo,g1,g2,not_true_eq_false,not_false_eq_true,if_true,if_false]⟩
 by_cases g3:s.now<b.slot
 ·simp only[Z8,seval,Ue s hf,eA,I5 hs,hs.tree,jA _ _ hs.nn,I7 hs hu hp,Vu,decide_true,decide_false,g1,g2,g3];exact⟨_,bT rfl (by simp only[E8,seval]<;>rfl) (by first|exact .v _|simp only[dY]),by simp only[Jo,g1,g2,g3,not_true_eq_false,not_false_eq_true,if_true,if_false]⟩
 by_cases g4:b.slot≤(Dk s s.aG.fin.aL).1
 ·simp only[Z8,seval,Ue s hf,eA,I5 hs,hs.tree,jA _ _ hs.nn,I7 hs hu hp,Vu,decide_true,decide_false,g1,g2,g3,g4];exact⟨_,bT rfl (by simp only[E8,seval]<;>rfl) (by first|exact .v _|simp only[dY]),by simp only[Jo,g1,g2,g3,g4,not_true_eq_false,not_false_eq_true,if_true,if_false]⟩
 by_cases g5:aM v.ns b.parent<0
 ·simp only[Z8,seval,Ue s hf,eA,I5 hs,hs.tree,jA _ _ hs.nn,I7 hs hu hp,Vu,decide_true,decide_false,g1,g2,g3,g4,g5];exact⟨_,bT rfl (by simp only[E8,seval]<;>rfl) (by first|exact .v _|simp only[dY]),by simp only[Jo,g1,g2,g3,g4,g5,not_true_eq_false,not_false_eq_true,if_true,if_false]⟩
 have q0:0≤aM v.ns b.parent:=by omega
 by_cases g6:b.slot≤(nd v.ns (aM v.ns b.parent)).block.slot
 ·simp only[Z8,seval,Ue s hf,eA,I5 hs,hs.tree,jA _ _ hs.nn,I7 hs hu hp,Vu,decide_true,decide_false,g1,g2,g3,g4,g5,q0,r1,g6];exact⟨_,bT rfl (by simp only[E8,seval]<;>rfl) (by first|exact .v _|simp only[dY]),by simp only[Jo,g1,g2,g3,g4,g5,g6,not_true_eq_false,not_false_eq_true,if_true,if_false]⟩
 by_cases g7:(nd v.ns (aM v.ns b.parent)).status=2
 ·simp only[Z8,seval,Ue s hf,eA,I5 hs,hs.tree,jA _ _ hs.nn,I7 hs hu hp,Vu,decide_true,decide_false,g1,g2,g3,g4,g5,q0,r1,g6,bt g7];exact⟨_,bT rfl (by simp only[E8,seval]<;>rfl) (by first|exact .v _|simp only[dY]),by simp only[Jo,g1,g2,g3,g4,g5,g6,g7,not_true_eq_false,not_false_eq_true,if_true,if_false]⟩
 by_cases g8:¬ER s v b
 ·simp only[Z8,seval,Ue s hf,eA,I5 hs,hs.tree,jA _ _ hs.nn,I7 hs hu hp,Vu,decide_true,decide_false,g1,g2,g3,g4,g5,q0,r1,g6,bf g7,g8];exact⟨_,bT rfl (by simp only[E8,seval]<;>rfl) (by first|exact .v _|simp only[dY]),by simp only[Jo,g1,g2,g3,g4,g5,g6,g7,g8,not_true_eq_false,not_false_eq_true,if_true,if_false]⟩
 replace g8:=Classical.not_not.1 g8
 by_cases g9:¬ZT s.cFg.Zz (nd v.ns (aM v.ns b.parent)).block b
 ·simp only[Z8,seval,Ue s hf,eA,I5 hs,hs.tree,jA _ _ hs.nn,I7 hs hu hp,Vu,decide_true,decide_false,g1,g2,g3,g4,g5,q0,r1,g6,bf g7,g8,g9];exact⟨_,bT rfl (by simp only[E8,seval]<;>rfl) (by first|exact .v _|simp only[dY]),by simp only[Jo,g1,g2,g3,g4,g5,g6,g7,g8,g9,not_true_eq_false,not_false_eq_true,if_true,if_false]⟩
 replace g9:=Classical.not_not.1 g9
 by_cases Rz:s.cFg.mA.rK≤(v.ns.length:Int)
 ·simp only[Z8,seval,Ue s hf,eA,I5 hs,hs.tree,jA _ _ hs.nn,I7 hs hu hp,Vu,decide_true,decide_false,g1,g2,g3,g4,g5,q0,r1,g6,bf g7,g8,g9,Rz];exact⟨_,bT rfl (by simp only[E8,seval]<;>rfl) (by first|exact .v _|simp only[dY]),by simp only[Jo,g1,g2,g3,g4,g5,g6,g7,g8,g9,Rz,not_true_eq_false,not_false_eq_true,if_true,if_false]⟩
 simp only[Z8,seval,Ue s hf,eA,I5 hs,hs.tree,jA _ _ hs.nn,I7 hs hu hp,Vu,decide_true,decide_false,g1,g2,g3,g4,g5,q0,r1,g6,bf g7,g8,g9,Rz];exact⟨_,bT rfl (by simp only[E8,seval]<;>rfl) (by first|exact .v _|simp only[dY]),by simp only[Jo,g1,g2,g3,g4,g5,g6,g7,g8,g9,Rz,not_true_eq_false,not_false_eq_true,if_true,if_false]⟩
theorem k52 {s:aP} {v:SV} (hs:SD s v) (hu:gZ v.ns) (hp:s.cFg.qK≠0) (b:Block) (st:St) (d:Option Nat):aN (aC Tryz.prog) 52 [.agg (aB s),.agg (aU b)] st d=some { dst:=d,val:=.v (.int .i64 (Jo s v b))}:=bI (bE hs.flat (uI b)) (c52 hs hu hp b) (.v _)
def KU (acc:Bool × fR × fR) (n:Node):Bool × fR × fR :=
 if n.status=2 then acc else (true,if acc.1=false∨acc.2.1.aL<n.block.dS.pj.aL then n.block.dS.pj else acc.2.1,if acc.1=false∨acc.2.2.aL<n.block.dS.pf.aL then n.block.dS.pf else acc.2.2)
def ZW (ns:List Node):Bool × fR × fR:=ns.foldl KU (false,iM,iM)
def Iz (ns:List Node):oY:=⟨(ZW ns).2.1,(ZW ns).2.2⟩
theorem ZX (ns:List Node) (k:Nat) (h:k<ns.length):ZW (ns.take (k+1))=KU (ZW (ns.take k)) (nd ns k):=by
 obtain⟨h',e⟩:=Km (ns:=ns) (i:=(k:Int)) (by omega) (by omega)
 unfold ZW;rw[List.take_succ_eq_append_getElem h,List.foldl_append,e];rfl
theorem c67 {s:aP} {v:SV} (hs:SD s v):aC Tryz.prog 67 [.agg (aB s)]=some (.agg (fI (Iz v.ns))):=by
 have hn:=hs.nn
 rw[cL Tryz.func67 rfl aOc rfl];refine jR ?_
 simp only[Z8,seval,hs.tree];refine cH (fun m st=>∃(k:Nat) (b:Bool) (x y:fR),(st.env 1=.ptr 1 0 0∧st.heap 1 0=some (.cells (aB s))∧st.env 2=.ptr 2 0 0∧st.heap 2 0=some (.cells (fI My))∧st.env 3=.ptr 3 0 0∧st.heap 3 0=some (.cells (fI ⟨x,y⟩))∧st.env 4=.v (.bool b)∧st.env 5=.v (.int .i64 k))∧ZW (v.ns.take k)=(b,x,y)∧k≤v.ns.length∧m=v.ns.length-k)
  (fun e st=>e=.exit 0∧∃(x y:fR),(st.env 2=.ptr 2 0 0∧st.heap 2 0=some (.cells (fI My))∧st.env 3=.ptr 3 0 0∧st.heap 3 0=some (.cells (fI ⟨x,y⟩)))∧Iz v.ns=⟨x,y⟩) v.ns.length ?step ?start ?rest
 case step =>
  rintro m st ⟨k,b,x,y,hI,hp,hk,hm⟩
  by_cases bB:(k:Int)<v.ns.length
  ·have q0:(0:Int)≤k:=by omega
   have hw:IntKind.i64.wrap ((k:Int)+1)=((k+1:Nat):Int):=by rw[qA _ (by omega) (by omega)];omega
   have xG:=ZX v.ns k (by omega)
   rw[hp] at xG;unfold KU at xG;by_cases h1:(nd v.ns k).status=2
   ·rw[if_pos h1] at xG;apply oN (v.ns.length-(k+1))
    ·simp only[Z8,seval,hI,bB,q0,hs.tree,bt h1,hw];rfl
    ·exact⟨k+1,b,x,y,by simp only[E8,seval,hI],xG,by omega,rfl⟩
   rw[if_neg h1] at xG;cases b
   ·simp only[true_or,if_true] at xG;apply oN (v.ns.length-(k+1))
    ·simp only[Z8,seval,hI,bB,q0,hs.tree,bf h1,hw];rfl
    ·exact⟨k+1,true,_,_,by simp only[E8,seval,hI]<;>rfl,xG,by omega,rfl⟩
   ·simp only[Bool.true_eq_false,false_or] at xG;by_cases h2:x.aL<(nd v.ns k).block.dS.pj.aL
    ·rw[if_pos h2] at xG;by_cases h3:y.aL<(nd v.ns k).block.dS.pf.aL
     ·rw[if_pos h3] at xG;apply oN (v.ns.length-(k+1))
      ·simp only[Z8,seval,hI,bB,q0,hs.tree,bf h1,h2,h3,hw];rfl
      ·exact⟨k+1,true,_,_,by simp only[E8,seval,hI]<;>rfl,xG,by omega,rfl⟩
     ·rw[if_neg h3] at xG;apply oN (v.ns.length-(k+1))
      ·simp only[Z8,seval,hI,bB,q0,hs.tree,bf h1,h2,h3,hw];rfl
      ·exact⟨k+1,true,_,_,by simp only[E8,seval,hI]<;>rfl,xG,by omega,rfl⟩
    ·rw[if_neg h2] at xG;by_cases h3:y.aL<(nd v.ns k).block.dS.pf.aL
     ·rw[if_pos h3] at xG;apply oN (v.ns.length-(k+1))
      ·simp only[Z8,seval,hI,bB,q0,hs.tree,bf h1,h2,h3,hw];rfl
      ·exact⟨k+1,true,_,_,by simp only[E8,seval,hI]<;>rfl,xG,by omega,rfl⟩
     ·rw[if_neg h3] at xG;apply oN (v.ns.length-(k+1))
      ·simp only[Z8,seval,hI,bB,q0,hs.tree,bf h1,h2,h3,hw];rfl
      ·exact⟨k+1,true,_,_,by simp only[E8,seval,hI]<;>rfl,xG,by omega,rfl⟩
  ·have Fy:k=v.ns.length:=by omega
   rw[Fy,List.take_length] at hp;apply oT (.exit 0)
   ·simp only[Z8,seval,hI,bB,hs.tree];rfl
   ·exact⟨rfl,x,y,by simp only[E8,seval,hI],by unfold Iz;rw[hp]⟩
 case start=>exact⟨0,false,iM,iM,by simp only[E8,seval]<;>rfl,rfl,by omega,by omega⟩
 case rest =>
  rintro e st ⟨rfl,x,y,hI,hp⟩
  simp only[Z8,seval,hI];exact⟨_,fF rfl (by simp only[E8,seval,hI]<;>rfl) (by simp only[Z8,seval,hI]<;>rfl) (by simp only[dY,and_self,hI]),by rw[hp]⟩
theorem k67 {s:aP} {v:SV} (hs:SD s v) (st:St) (d:Option Nat):aN (aC Tryz.prog) 67 [.agg (aB s)] st d=some { dst:=d,val:=.agg (fI (Iz v.ns))}:=bI (cO hs.flat) (c67 hs) (.agg _ (Dy _))
noncomputable def Gb (s:aP) (c:fR):fR:=if s.aG.dN.aL<c.aL then c else s.aG.dN
noncomputable def Bw (s:aP) (c:fR):fR:=if s.aG.fin.aL<c.aL then c else s.aG.fin
def cT (s:aP) (v:SV) (J F:fR):Prop :=
 aM v.ns J.root<0∨aM v.ns F.root<0∨(nd v.ns (aM v.ns J.root)).status=2∨(nd v.ns (aM v.ns F.root)).status=2∨¬Pu s v.ns (aM v.ns J.root) J.aL∨¬Pu s v.ns (aM v.ns F.root) F.aL ∨
 wY v.ns (aM v.ns F.root) (aM v.ns J.root)=false∨J.aL<F.aL∨Bi s s.now<J.aL∨RT (ol v.T) J<0
noncomputable def ZY (s:aP) (v:SV) (c1 c2:fR):AV:=if cT s v (Gb s c1) (Bw s c2) then .eE [.agg (bY iM),.agg (bY iM),.v (.bool false)] else .eE [.agg (bY (Gb s c1)),.agg (bY (Bw s c2)),.v (.bool true)]
end Go.Ab.Tryz
section
namespace Go.Ab.Tryz
open Classical Go.Proofs Go.Ab
end Go.Ab.Tryz
namespace Go.Ab
end Go.Ab
namespace Go.Ab.Tryz
open Classical Go.Proofs Go.Ab
theorem iN:aF 7 73 (some 41)=[]∧aF 7 72 (some 41)=[]:=⟨rfl,rfl⟩
theorem gW {α:Type} (a:α) (l m:List α):List.append (a :: l) m=a :: List.append l m:=rfl
theorem gX {α:Type} (m:List α):List.append ([]:List α) m=m:=rfl
theorem c59 {s:aP} {v:SV} (hs:SD s v) (hu:gZ v.ns) (hp:s.cFg.qK≠0) (c1 c2:fR):aC Tryz.prog 59 [.agg (aB s),.agg (bY c1),.agg (bY c2)]=some (ZY s v c1 c2):=by
 have hf:=hs.flat
 have wQ:=hs.fT
 rw[cG Tryz.func59 rfl aOd (by kernel_rfl) rfl]
 refine jR ?_
 unfold ZY;by_cases a1:s.aG.dN.aL<c1.aL
 ·rw[show Gb s c1=c1 from if_pos a1];by_cases a2:s.aG.fin.aL<c2.aL
  ·rw[show Bw s c2=c2 from if_pos a2];have r1:=dW v.ns c1.root
   have r2:=dW v.ns c2.root
   by_cases g1:aM v.ns c1.root<0
   ·simp only[ZG,seval,Bool.false_and,Prod.mk.injEq,mY,iN,gW,gX,a1,a2,hs.tree,jA _ _ hs.nn,sS _ hu hs.nn,sH s hp hf,hs.tables,yQ _ hs.nT wQ,decide_true,decide_false,g1];exact⟨_,by apply cN;rfl;all_goals simp only[aE,bJ,Z8,seval,a1,a2]<;>rfl,by rw[if_pos (show cT s v c1 c2 by simp only[cT,g1,not_true_eq_false,not_false_eq_true,true_or,or_true])]⟩
   by_cases g2:aM v.ns c2.root<0
   ·simp only[ZG,seval,Bool.false_and,Prod.mk.injEq,mY,iN,gW,gX,a1,a2,hs.tree,jA _ _ hs.nn,sS _ hu hs.nn,sH s hp hf,hs.tables,yQ _ hs.nT wQ,decide_true,decide_false,g1,g2];exact⟨_,by apply cN;rfl;all_goals simp only[aE,bJ,Z8,seval,a1,a2]<;>rfl,by rw[if_pos (show cT s v c1 c2 by simp only[cT,g1,g2,not_true_eq_false,not_false_eq_true,true_or,or_true])]⟩
   have q1:0≤aM v.ns c1.root:=by omega
   have q2:0≤aM v.ns c2.root:=by omega
   by_cases g3:(nd v.ns (aM v.ns c1.root)).status=2
   ·simp only[ZG,seval,Bool.false_and,Prod.mk.injEq,mY,iN,gW,gX,a1,a2,hs.tree,jA _ _ hs.nn,sS _ hu hs.nn,sH s hp hf,hs.tables,yQ _ hs.nT wQ,decide_true,decide_false,g1,g2,q1,q2,r1,r2,bt g3];exact⟨_,by apply cN;rfl;all_goals simp only[aE,bJ,Z8,seval,a1,a2]<;>rfl,by rw[if_pos (show cT s v c1 c2 by simp only[cT,g1,g2,g3,not_true_eq_false,not_false_eq_true,true_or,or_true])]⟩
   by_cases g4:(nd v.ns (aM v.ns c2.root)).status=2
   ·simp only[ZG,seval,Bool.false_and,Prod.mk.injEq,mY,iN,gW,gX,a1,a2,hs.tree,jA _ _ hs.nn,sS _ hu hs.nn,sH s hp hf,hs.tables,yQ _ hs.nT wQ,decide_true,decide_false,g1,g2,q1,q2,r1,r2,bf g3,bt g4];exact⟨_,by apply cN;rfl;all_goals simp only[aE,bJ,Z8,seval,a1,a2]<;>rfl,by rw[if_pos (show cT s v c1 c2 by simp only[cT,g1,g2,g3,g4,not_true_eq_false,not_false_eq_true,true_or,or_true])]⟩
   have Ko:=KS hs (aM v.ns c1.root) c1.aL q1 r1.2
   have Kp:=KS hs (aM v.ns c2.root) c2.aL q2 r2.2
   by_cases g5:¬Pu s v.ns (aM v.ns c1.root) c1.aL
   ·simp only[ZG,seval,Bool.false_and,Prod.mk.injEq,mY,iN,gW,gX,a1,a2,hs.tree,jA _ _ hs.nn,sS _ hu hs.nn,sH s hp hf,hs.tables,yQ _ hs.nT wQ,decide_true,decide_false,g1,g2,q1,q2,r1,r2,bf g3,bf g4,Ko,Kp,g5];exact⟨_,by apply cN;rfl;all_goals simp only[aE,bJ,Z8,seval,a1,a2]<;>rfl,by rw[if_pos (show cT s v c1 c2 by simp only[cT,g1,g2,g3,g4,g5,not_true_eq_false,not_false_eq_true,true_or,or_true])]⟩
   replace g5:=Classical.not_not.1 g5
   by_cases g6:¬Pu s v.ns (aM v.ns c2.root) c2.aL
   ·simp only[ZG,seval,Bool.false_and,Prod.mk.injEq,mY,iN,gW,gX,a1,a2,hs.tree,jA _ _ hs.nn,sS _ hu hs.nn,sH s hp hf,hs.tables,yQ _ hs.nT wQ,decide_true,decide_false,g1,g2,q1,q2,r1,r2,bf g3,bf g4,Ko,Kp,g5,g6];exact⟨_,by apply cN;rfl;all_goals simp only[aE,bJ,Z8,seval,a1,a2]<;>rfl,by rw[if_pos (show cT s v c1 c2 by simp only[cT,g1,g2,g3,g4,g5,g6,not_true_eq_false,not_false_eq_true,true_or,or_true])]⟩
   replace g6:=Classical.not_not.1 g6
   by_cases g7:wY v.ns (aM v.ns c2.root) (aM v.ns c1.root)=false
   ·simp only[ZG,seval,Bool.false_and,Prod.mk.injEq,mY,iN,gW,gX,a1,a2,hs.tree,jA _ _ hs.nn,sS _ hu hs.nn,sH s hp hf,hs.tables,yQ _ hs.nT wQ,decide_true,decide_false,g1,g2,q1,q2,r1,r2,bf g3,bf g4,Ko,Kp,g5,g6,g7];exact⟨_,by apply cN;rfl;all_goals simp only[aE,bJ,Z8,seval,a1,a2]<;>rfl,by rw[if_pos (show cT s v c1 c2 by simp only[cT,g1,g2,g3,g4,g5,g6,g7,not_true_eq_false,not_false_eq_true,true_or,or_true])]⟩
   replace g7:=(by simpa using g7:wY v.ns _ _=true)
   by_cases g8:c1.aL<c2.aL
   ·simp only[ZG,seval,Bool.false_and,Prod.mk.injEq,mY,iN,gW,gX,a1,a2,hs.tree,jA _ _ hs.nn,sS _ hu hs.nn,sH s hp hf,hs.tables,yQ _ hs.nT wQ,decide_true,decide_false,g1,g2,q1,q2,r1,r2,bf g3,bf g4,Ko,Kp,g5,g6,g7,g7,g8];exact⟨_,by apply cN;rfl;all_goals simp only[aE,bJ,Z8,seval,a1,a2]<;>rfl,by rw[if_pos (show cT s v c1 c2 by simp only[cT,g1,g2,g3,g4,g5,g6,g7,g8,not_true_eq_false,not_false_eq_true,true_or,or_true])]⟩
   by_cases g9:Bi s s.now<c1.aL
   ·simp only[ZG,seval,Bool.false_and,Prod.mk.injEq,mY,iN,gW,gX,a1,a2,hs.tree,jA _ _ hs.nn,sS _ hu hs.nn,sH s hp hf,hs.tables,yQ _ hs.nT wQ,decide_true,decide_false,g1,g2,q1,q2,r1,r2,bf g3,bf g4,Ko,Kp,g5,g6,g7,g7,g8,g9];exact⟨_,by apply cN;rfl;all_goals simp only[aE,bJ,Z8,seval,a1,a2]<;>rfl,by rw[if_pos (show cT s v c1 c2 by simp only[cT,g1,g2,g3,g4,g5,g6,g7,g8,g9,not_true_eq_false,not_false_eq_true,true_or,or_true])]⟩
   by_cases Rz:RT (ol v.T) c1<0
   ·simp only[ZG,seval,Bool.false_and,Prod.mk.injEq,mY,iN,gW,gX,a1,a2,hs.tree,jA _ _ hs.nn,sS _ hu hs.nn,sH s hp hf,hs.tables,yQ _ hs.nT wQ,decide_true,decide_false,g1,g2,q1,q2,r1,r2,bf g3,bf g4,Ko,Kp,g5,g6,g7,g7,g8,g9,Rz];exact⟨_,by apply cN;rfl;all_goals simp only[aE,bJ,Z8,seval,a1,a2]<;>rfl,by rw[if_pos (show cT s v c1 c2 by simp only[cT,g1,g2,g3,g4,g5,g6,g7,g8,g9,Rz,not_true_eq_false,not_false_eq_true,true_or,or_true])]⟩
   simp only[ZG,seval,Bool.false_and,Prod.mk.injEq,mY,iN,gW,gX,a1,a2,hs.tree,jA _ _ hs.nn,sS _ hu hs.nn,sH s hp hf,hs.tables,yQ _ hs.nT wQ,decide_true,decide_false,g1,g2,q1,q2,r1,r2,bf g3,bf g4,Ko,Kp,g5,g6,g7,g7,g8,g9,Rz];exact⟨_,by apply cN;rfl;all_goals simp only[aE,bJ,Z8,seval,a1,a2]<;>rfl,by rw[if_neg (show ¬cT s v c1 c2 by simp only[cT,g1,g2,g3,g4,g5,g6,g7,g8,g9,Rz,not_true_eq_false,not_false_eq_true,or_self,Bool.true_eq_false])]⟩
  ·rw[show Bw s c2=s.aG.fin from if_neg a2];have r1:=dW v.ns c1.root
   have r2:=dW v.ns s.aG.fin.root
   by_cases g1:aM v.ns c1.root<0
   ·simp only[ZG,seval,Bool.false_and,Prod.mk.injEq,mY,iN,gW,gX,a1,a2,hs.tree,jA _ _ hs.nn,sS _ hu hs.nn,sH s hp hf,hs.tables,yQ _ hs.nT wQ,decide_true,decide_false,g1];exact⟨_,by apply cN;rfl;all_goals simp only[aE,bJ,Z8,seval,a1,a2]<;>rfl,by rw[if_pos (show cT s v c1 s.aG.fin by simp only[cT,g1,not_true_eq_false,not_false_eq_true,true_or,or_true])]⟩
   by_cases g2:aM v.ns s.aG.fin.root<0
   ·simp only[ZG,seval,Bool.false_and,Prod.mk.injEq,mY,iN,gW,gX,a1,a2,hs.tree,jA _ _ hs.nn,sS _ hu hs.nn,sH s hp hf,hs.tables,yQ _ hs.nT wQ,decide_true,decide_false,g1,g2];exact⟨_,by apply cN;rfl;all_goals simp only[aE,bJ,Z8,seval,a1,a2]<;>rfl,by rw[if_pos (show cT s v c1 s.aG.fin by simp only[cT,g1,g2,not_true_eq_false,not_false_eq_true,true_or,or_true])]⟩
   have q1:0≤aM v.ns c1.root:=by omega
   have q2:0≤aM v.ns s.aG.fin.root:=by omega
   by_cases g3:(nd v.ns (aM v.ns c1.root)).status=2
   ·simp only[ZG,seval,Bool.false_and,Prod.mk.injEq,mY,iN,gW,gX,a1,a2,hs.tree,jA _ _ hs.nn,sS _ hu hs.nn,sH s hp hf,hs.tables,yQ _ hs.nT wQ,decide_true,decide_false,g1,g2,q1,q2,r1,r2,bt g3];exact⟨_,by apply cN;rfl;all_goals simp only[aE,bJ,Z8,seval,a1,a2]<;>rfl,by rw[if_pos (show cT s v c1 s.aG.fin by simp only[cT,g1,g2,g3,not_true_eq_false,not_false_eq_true,true_or,or_true])]⟩
   by_cases g4:(nd v.ns (aM v.ns s.aG.fin.root)).status=2
   ·simp only[ZG,seval,Bool.false_and,Prod.mk.injEq,mY,iN,gW,gX,a1,a2,hs.tree,jA _ _ hs.nn,sS _ hu hs.nn,sH s hp hf,hs.tables,yQ _ hs.nT wQ,decide_true,decide_false,g1,g2,q1,q2,r1,r2,bf g3,bt g4];exact⟨_,by apply cN;rfl;all_goals simp only[aE,bJ,Z8,seval,a1,a2]<;>rfl,by rw[if_pos (show cT s v c1 s.aG.fin by simp only[cT,g1,g2,g3,g4,not_true_eq_false,not_false_eq_true,true_or,or_true])]⟩
   have Ko:=KS hs (aM v.ns c1.root) c1.aL q1 r1.2
   have Kp:=KS hs (aM v.ns s.aG.fin.root) s.aG.fin.aL q2 r2.2
   by_cases g5:¬Pu s v.ns (aM v.ns c1.root) c1.aL
   ·simp only[ZG,seval,Bool.false_and,Prod.mk.injEq,mY,iN,gW,gX,a1,a2,hs.tree,jA _ _ hs.nn,sS _ hu hs.nn,sH s hp hf,hs.tables,yQ _ hs.nT wQ,decide_true,decide_false,g1,g2,q1,q2,r1,r2,bf g3,bf g4,Ko,Kp,g5];exact⟨_,by apply cN;rfl;all_goals simp only[aE,bJ,Z8,seval,a1,a2]<;>rfl,by rw[if_pos (show cT s v c1 s.aG.fin by simp only[cT,g1,g2,g3,g4,g5,not_true_eq_false,not_false_eq_true,true_or,or_true])]⟩
   replace g5:=Classical.not_not.1 g5
   by_cases g6:¬Pu s v.ns (aM v.ns s.aG.fin.root) s.aG.fin.aL
   ·simp only[ZG,seval,Bool.false_and,Prod.mk.injEq,mY,iN,gW,gX,a1,a2,hs.tree,jA _ _ hs.nn,sS _ hu hs.nn,sH s hp hf,hs.tables,yQ _ hs.nT wQ,decide_true,decide_false,g1,g2,q1,q2,r1,r2,bf g3,bf g4,Ko,Kp,g5,g6];exact⟨_,by apply cN;rfl;all_goals simp only[aE,bJ,Z8,seval,a1,a2]<;>rfl,by rw[if_pos (show cT s v c1 s.aG.fin by simp only[cT,g1,g2,g3,g4,g5,g6,not_true_eq_false,not_false_eq_true,true_or,or_true])]⟩
   replace g6:=Classical.not_not.1 g6
   by_cases g7:wY v.ns (aM v.ns s.aG.fin.root) (aM v.ns c1.root)=false
   ·simp only[ZG,seval,Bool.false_and,Prod.mk.injEq,mY,iN,gW,gX,a1,a2,hs.tree,jA _ _ hs.nn,sS _ hu hs.nn,sH s hp hf,hs.tables,yQ _ hs.nT wQ,decide_true,decide_false,g1,g2,q1,q2,r1,r2,bf g3,bf g4,Ko,Kp,g5,g6,g7];exact⟨_,by apply cN;rfl;all_goals simp only[aE,bJ,Z8,seval,a1,a2]<;>rfl,by rw[if_pos (show cT s v c1 s.aG.fin by simp only[cT,g1,g2,g3,g4,g5,g6,g7,not_true_eq_false,not_false_eq_true,true_or,or_true])]⟩
   replace g7:=(by simpa using g7:wY v.ns _ _=true)
   by_cases g8:c1.aL<s.aG.fin.aL
   ·simp only[ZG,seval,Bool.false_and,Prod.mk.injEq,mY,iN,gW,gX,a1,a2,hs.tree,jA _ _ hs.nn,sS _ hu hs.nn,sH s hp hf,hs.tables,yQ _ hs.nT wQ,decide_true,decide_false,g1,g2,q1,q2,r1,r2,bf g3,bf g4,Ko,Kp,g5,g6,g7,g7,g8];exact⟨_,by apply cN;rfl;all_goals simp only[aE,bJ,Z8,seval,a1,a2]<;>rfl,by rw[if_pos (show cT s v c1 s.aG.fin by simp only[cT,g1,g2,g3,g4,g5,g6,g7,g8,not_true_eq_false,not_false_eq_true,true_or,or_true])]⟩
   by_cases g9:Bi s s.now<c1.aL
   ·simp only[ZG,seval,Bool.false_and,Prod.mk.injEq,mY,iN,gW,gX,a1,a2,hs.tree,jA _ _ hs.nn,sS _ hu hs.nn,sH s hp hf,hs.tables,yQ _ hs.nT wQ,decide_true,decide_false,g1,g2,q1,q2,r1,r2,bf g3,bf g4,Ko,Kp,g5,g6,g7,g7,g8,g9];exact⟨_,by apply cN;rfl;all_goals simp only[aE,bJ,Z8,seval,a1,a2]<;>rfl,by rw[if_pos (show cT s v c1 s.aG.fin by simp only[cT,g1,g2,g3,g4,g5,g6,g7,g8,g9,not_true_eq_false,not_false_eq_true,true_or,or_true])]⟩
   by_cases Rz:RT (ol v.T) c1<0
   ·simp only[ZG,seval,Bool.false_and,Prod.mk.injEq,mY,iN,gW,gX,a1,a2,hs.tree,jA _ _ hs.nn,sS _ hu hs.nn,sH s hp hf,hs.tables,yQ _ hs.nT wQ,decide_true,decide_false,g1,g2,q1,q2,r1,r2,bf g3,bf g4,Ko,Kp,g5,g6,g7,g7,g8,g9,Rz];exact⟨_,by apply cN;rfl;all_goals simp only[aE,bJ,Z8,seval,a1,a2]<;>rfl,by rw[if_pos (show cT s v c1 s.aG.fin by simp only[cT,g1,g2,g3,g4,g5,g6,g7,g8,g9,Rz,not_true_eq_false,not_false_eq_true,true_or,or_true])]⟩
   simp only[ZG,seval,Bool.false_and,Prod.mk.injEq,mY,iN,gW,gX,a1,a2,hs.tree,jA _ _ hs.nn,sS _ hu hs.nn,sH s hp hf,hs.tables,yQ _ hs.nT wQ,decide_true,decide_false,g1,g2,q1,q2,r1,r2,bf g3,bf g4,Ko,Kp,g5,g6,g7,g7,g8,g9,Rz];exact⟨_,by apply cN;rfl;all_goals simp only[aE,bJ,Z8,seval,a1,a2]<;>rfl,by rw[if_neg (show ¬cT s v c1 s.aG.fin by simp only[cT,g1,g2,g3,g4,g5,g6,g7,g8,g9,Rz,not_true_eq_false,not_false_eq_true,or_self,Bool.true_eq_false])]⟩
 ·rw[show Gb s c1=s.aG.dN from if_neg a1];by_cases a2:s.aG.fin.aL<c2.aL
  ·rw[show Bw s c2=c2 from if_pos a2];have r1:=dW v.ns s.aG.dN.root
   have r2:=dW v.ns c2.root
   by_cases g1:aM v.ns s.aG.dN.root<0
   ·simp only[ZG,seval,Bool.false_and,Prod.mk.injEq,mY,iN,gW,gX,a1,a2,hs.tree,jA _ _ hs.nn,sS _ hu hs.nn,sH s hp hf,hs.tables,yQ _ hs.nT wQ,decide_true,decide_false,g1];exact⟨_,by apply cN;rfl;all_goals simp only[aE,bJ,Z8,seval,a1,a2]<;>rfl,by rw[if_pos (show cT s v s.aG.dN c2 by simp only[cT,g1,not_true_eq_false,not_false_eq_true,true_or,or_true])]⟩
   by_cases g2:aM v.ns c2.root<0
   ·simp only[ZG,seval,Bool.false_and,Prod.mk.injEq,mY,iN,gW,gX,a1,a2,hs.tree,jA _ _ hs.nn,sS _ hu hs.nn,sH s hp hf,hs.tables,yQ _ hs.nT wQ,decide_true,decide_false,g1,g2];exact⟨_,by apply cN;rfl;all_goals simp only[aE,bJ,Z8,seval,a1,a2]<;>rfl,by rw[if_pos (show cT s v s.aG.dN c2 by simp only[cT,g1,g2,not_true_eq_false,not_false_eq_true,true_or,or_true])]⟩
   have q1:0≤aM v.ns s.aG.dN.root:=by omega
   have q2:0≤aM v.ns c2.root:=by omega
   by_cases g3:(nd v.ns (aM v.ns s.aG.dN.root)).status=2
   ·simp only[ZG,seval,Bool.false_and,Prod.mk.injEq,mY,iN,gW,gX,a1,a2,hs.tree,jA _ _ hs.nn,sS _ hu hs.nn,sH s hp hf,hs.tables,yQ _ hs.nT wQ,decide_true,decide_false,g1,g2,q1,q2,r1,r2,bt g3];exact⟨_,by apply cN;rfl;all_goals simp only[aE,bJ,Z8,seval,a1,a2]<;>rfl,by rw[if_pos (show cT s v s.aG.dN c2 by simp only[cT,g1,g2,g3,not_true_eq_false,not_false_eq_true,true_or,or_true])]⟩
   by_cases g4:(nd v.ns (aM v.ns c2.root)).status=2
   ·simp only[ZG,seval,Bool.false_and,Prod.mk.injEq,mY,iN,gW,gX,a1,a2,hs.tree,jA _ _ hs.nn,sS _ hu hs.nn,sH s hp hf,hs.tables,yQ _ hs.nT wQ,decide_true,decide_false,g1,g2,q1,q2,r1,r2,bf g3,bt g4];exact⟨_,by apply cN;rfl;all_goals simp only[aE,bJ,Z8,seval,a1,a2]<;>rfl,by rw[if_pos (show cT s v s.aG.dN c2 by simp only[cT,g1,g2,g3,g4,not_true_eq_false,not_false_eq_true,true_or,or_true])]⟩
   have Ko:=KS hs (aM v.ns s.aG.dN.root) s.aG.dN.aL q1 r1.2
   have Kp:=KS hs (aM v.ns c2.root) c2.aL q2 r2.2
   by_cases g5:¬Pu s v.ns (aM v.ns s.aG.dN.root) s.aG.dN.aL
   ·simp only[ZG,seval,Bool.false_and,Prod.mk.injEq,mY,iN,gW,gX,a1,a2,hs.tree,jA _ _ hs.nn,sS _ hu hs.nn,sH s hp hf,hs.tables,yQ _ hs.nT wQ,decide_true,decide_false,g1,g2,q1,q2,r1,r2,bf g3,bf g4,Ko,Kp,g5];exact⟨_,by apply cN;rfl;all_goals simp only[aE,bJ,Z8,seval,a1,a2]<;>rfl,by rw[if_pos (show cT s v s.aG.dN c2 by simp only[cT,g1,g2,g3,g4,g5,not_true_eq_false,not_false_eq_true,true_or,or_true])]⟩
   replace g5:=Classical.not_not.1 g5
   by_cases g6:¬Pu s v.ns (aM v.ns c2.root) c2.aL
   ·simp only[ZG,seval,Bool.false_and,Prod.mk.injEq,mY,iN,gW,gX,a1,a2,hs.tree,jA _ _ hs.nn,sS _ hu hs.nn,sH s hp hf,hs.tables,yQ _ hs.nT wQ,decide_true,decide_false,g1,g2,q1,q2,r1,r2,bf g3,bf g4,Ko,Kp,g5,g6];exact⟨_,by apply cN;rfl;all_goals simp only[aE,bJ,Z8,seval,a1,a2]<;>rfl,by rw[if_pos (show cT s v s.aG.dN c2 by simp only[cT,g1,g2,g3,g4,g5,g6,not_true_eq_false,not_false_eq_true,true_or,or_true])]⟩
   replace g6:=Classical.not_not.1 g6
   by_cases g7:wY v.ns (aM v.ns c2.root) (aM v.ns s.aG.dN.root)=false
   ·simp only[ZG,seval,Bool.false_and,Prod.mk.injEq,mY,iN,gW,gX,a1,a2,hs.tree,jA _ _ hs.nn,sS _ hu hs.nn,sH s hp hf,hs.tables,yQ _ hs.nT wQ,decide_true,decide_false,g1,g2,q1,q2,r1,r2,bf g3,bf g4,Ko,Kp,g5,g6,g7];exact⟨_,by apply cN;rfl;all_goals simp only[aE,bJ,Z8,seval,a1,a2]<;>rfl,by rw[if_pos (show cT s v s.aG.dN c2 by simp only[cT,g1,g2,g3,g4,g5,g6,g7,not_true_eq_false,not_false_eq_true,true_or,or_true])]⟩
   replace g7:=(by simpa using g7:wY v.ns _ _=true)
   by_cases g8:s.aG.dN.aL<c2.aL
   ·simp only[ZG,seval,Bool.false_and,Prod.mk.injEq,mY,iN,gW,gX,a1,a2,hs.tree,jA _ _ hs.nn,sS _ hu hs.nn,sH s hp hf,hs.tables,yQ _ hs.nT wQ,decide_true,decide_false,g1,g2,q1,q2,r1,r2,bf g3,bf g4,Ko,Kp,g5,g6,g7,g7,g8];exact⟨_,by apply cN;rfl;all_goals simp only[aE,bJ,Z8,seval,a1,a2]<;>rfl,by rw[if_pos (show cT s v s.aG.dN c2 by simp only[cT,g1,g2,g3,g4,g5,g6,g7,g8,not_true_eq_false,not_false_eq_true,true_or,or_true])]⟩
   by_cases g9:Bi s s.now<s.aG.dN.aL
   ·simp only[ZG,seval,Bool.false_and,Prod.mk.injEq,mY,iN,gW,gX,a1,a2,hs.tree,jA _ _ hs.nn,sS _ hu hs.nn,sH s hp hf,hs.tables,yQ _ hs.nT wQ,decide_true,decide_false,g1,g2,q1,q2,r1,r2,bf g3,bf g4,Ko,Kp,g5,g6,g7,g7,g8,g9];exact⟨_,by apply cN;rfl;all_goals simp only[aE,bJ,Z8,seval,a1,a2]<;>rfl,by rw[if_pos (show cT s v s.aG.dN c2 by simp only[cT,g1,g2,g3,g4,g5,g6,g7,g8,g9,not_true_eq_false,not_false_eq_true,true_or,or_true])]⟩
   by_cases Rz:RT (ol v.T) s.aG.dN<0
   ·simp only[ZG,seval,Bool.false_and,Prod.mk.injEq,mY,iN,gW,gX,a1,a2,hs.tree,jA _ _ hs.nn,sS _ hu hs.nn,sH s hp hf,hs.tables,yQ _ hs.nT wQ,decide_true,decide_false,g1,g2,q1,q2,r1,r2,bf g3,bf g4,Ko,Kp,g5,g6,g7,g7,g8,g9,Rz];exact⟨_,by apply cN;rfl;all_goals simp only[aE,bJ,Z8,seval,a1,a2]<;>rfl,by rw[if_pos (show cT s v s.aG.dN c2 by simp only[cT,g1,g2,g3,g4,g5,g6,g7,g8,g9,Rz,not_true_eq_false,not_false_eq_true,true_or,or_true])]⟩
   simp only[ZG,seval,Bool.false_and,Prod.mk.injEq,mY,iN,gW,gX,a1,a2,hs.tree,jA _ _ hs.nn,sS _ hu hs.nn,sH s hp hf,hs.tables,yQ _ hs.nT wQ,decide_true,decide_false,g1,g2,q1,q2,r1,r2,bf g3,bf g4,Ko,Kp,g5,g6,g7,g7,g8,g9,Rz];exact⟨_,by apply cN;rfl;all_goals simp only[aE,bJ,Z8,seval,a1,a2]<;>rfl,by rw[if_neg (show ¬cT s v s.aG.dN c2 by simp only[cT,g1,g2,g3,g4,g5,g6,g7,g8,g9,Rz,not_true_eq_false,not_false_eq_true,or_self,Bool.true_eq_false])]⟩
  ·rw[show Bw s c2=s.aG.fin from if_neg a2];have r1:=dW v.ns s.aG.dN.root
   have r2:=dW v.ns s.aG.fin.root
   by_cases g1:aM v.ns s.aG.dN.root<0
   ·simp only[ZG,seval,Bool.false_and,Prod.mk.injEq,mY,iN,gW,gX,a1,a2,hs.tree,jA _ _ hs.nn,sS _ hu hs.nn,sH s hp hf,hs.tables,yQ _ hs.nT wQ,decide_true,decide_false,g1];exact⟨_,by apply cN;rfl;all_goals simp only[aE,bJ,Z8,seval,a1,a2]<;>rfl,by rw[if_pos (show cT s v s.aG.dN s.aG.fin by simp only[cT,g1,not_true_eq_false,not_false_eq_true,true_or,or_true])]⟩
   by_cases g2:aM v.ns s.aG.fin.root<0
   ·simp only[ZG,seval,Bool.false_and,Prod.mk.injEq,mY,iN,gW,gX,a1,a2,hs.tree,jA _ _ hs.nn,sS _ hu hs.nn,sH s hp hf,hs.tables,yQ _ hs.nT wQ,decide_true,decide_false,g1,g2];exact⟨_,by apply cN;rfl;all_goals simp only[aE,bJ,Z8,seval,a1,a2]<;>rfl,by rw[if_pos (show cT s v s.aG.dN s.aG.fin by simp only[cT,g1,g2,not_true_eq_false,not_false_eq_true,true_or,or_true])]⟩
   have q1:0≤aM v.ns s.aG.dN.root:=by omega
   have q2:0≤aM v.ns s.aG.fin.root:=by omega
   by_cases g3:(nd v.ns (aM v.ns s.aG.dN.root)).status=2
   ·simp only[ZG,seval,Bool.false_and,Prod.mk.injEq,mY,iN,gW,gX,a1,a2,hs.tree,jA _ _ hs.nn,sS _ hu hs.nn,sH s hp hf,hs.tables,yQ _ hs.nT wQ,decide_true,decide_false,g1,g2,q1,q2,r1,r2,bt g3];exact⟨_,by apply cN;rfl;all_goals simp only[aE,bJ,Z8,seval,a1,a2]<;>rfl,by rw[if_pos (show cT s v s.aG.dN s.aG.fin by simp only[cT,g1,g2,g3,not_true_eq_false,not_false_eq_true,true_or,or_true])]⟩
   by_cases g4:(nd v.ns (aM v.ns s.aG.fin.root)).status=2
   ·simp only[ZG,seval,Bool.false_and,Prod.mk.injEq,mY,iN,gW,gX,a1,a2,hs.tree,jA _ _ hs.nn,sS _ hu hs.nn,sH s hp hf,hs.tables,yQ _ hs.nT wQ,decide_true,decide_false,g1,g2,q1,q2,r1,r2,bf g3,bt g4];exact⟨_,by apply cN;rfl;all_goals simp only[aE,bJ,Z8,seval,a1,a2]<;>rfl,by rw[if_pos (show cT s v s.aG.dN s.aG.fin by simp only[cT,g1,g2,g3,g4,not_true_eq_false,not_false_eq_true,true_or,or_true])]⟩
   have Ko:=KS hs (aM v.ns s.aG.dN.root) s.aG.dN.aL q1 r1.2
   have Kp:=KS hs (aM v.ns s.aG.fin.root) s.aG.fin.aL q2 r2.2
   by_cases g5:¬Pu s v.ns (aM v.ns s.aG.dN.root) s.aG.dN.aL
   ·simp only[ZG,seval,Bool.false_and,Prod.mk.injEq,mY,iN,gW,gX,a1,a2,hs.tree,jA _ _ hs.nn,sS _ hu hs.nn,sH s hp hf,hs.tables,yQ _ hs.nT wQ,decide_true,decide_false,g1,g2,q1,q2,r1,r2,bf g3,bf g4,Ko,Kp,g5];exact⟨_,by apply cN;rfl;all_goals simp only[aE,bJ,Z8,seval,a1,a2]<;>rfl,by rw[if_pos (show cT s v s.aG.dN s.aG.fin by simp only[cT,g1,g2,g3,g4,g5,not_true_eq_false,not_false_eq_true,true_or,or_true])]⟩
   replace g5:=Classical.not_not.1 g5
   by_cases g6:¬Pu s v.ns (aM v.ns s.aG.fin.root) s.aG.fin.aL
   ·simp only[ZG,seval,Bool.false_and,Prod.mk.injEq,mY,iN,gW,gX,a1,a2,hs.tree,jA _ _ hs.nn,sS _ hu hs.nn,sH s hp hf,hs.tables,yQ _ hs.nT wQ,decide_true,decide_false,g1,g2,q1,q2,r1,r2,bf g3,bf g4,Ko,Kp,g5,g6];exact⟨_,by apply cN;rfl;all_goals simp only[aE,bJ,Z8,seval,a1,a2]<;>rfl,by rw[if_pos (show cT s v s.aG.dN s.aG.fin by simp only[cT,g1,g2,g3,g4,g5,g6,not_true_eq_false,not_false_eq_true,true_or,or_true])]⟩
   replace g6:=Classical.not_not.1 g6
   by_cases g7:wY v.ns (aM v.ns s.aG.fin.root) (aM v.ns s.aG.dN.root)=false
   ·simp only[ZG,seval,Bool.false_and,Prod.mk.injEq,mY,iN,gW,gX,a1,a2,hs.tree,jA _ _ hs.nn,sS _ hu hs.nn,sH s hp hf,hs.tables,yQ _ hs.nT wQ,decide_true,decide_false,g1,g2,q1,q2,r1,r2,bf g3,bf g4,Ko,Kp,g5,g6,g7];exact⟨_,by apply cN;rfl;all_goals simp only[aE,bJ,Z8,seval,a1,a2]<;>rfl,by rw[if_pos (show cT s v s.aG.dN s.aG.fin by simp only[cT,g1,g2,g3,g4,g5,g6,g7,not_true_eq_false,not_false_eq_true,true_or,or_true])]⟩
   replace g7:=(by simpa using g7:wY v.ns _ _=true)
   by_cases g8:s.aG.dN.aL<s.aG.fin.aL
   ·simp only[ZG,seval,Bool.false_and,Prod.mk.injEq,mY,iN,gW,gX,a1,a2,hs.tree,jA _ _ hs.nn,sS _ hu hs.nn,sH s hp hf,hs.tables,yQ _ hs.nT wQ,decide_true,decide_false,g1,g2,q1,q2,r1,r2,bf g3,bf g4,Ko,Kp,g5,g6,g7,g7,g8];exact⟨_,by apply cN;rfl;all_goals simp only[aE,bJ,Z8,seval,a1,a2]<;>rfl,by rw[if_pos (show cT s v s.aG.dN s.aG.fin by simp only[cT,g1,g2,g3,g4,g5,g6,g7,g8,not_true_eq_false,not_false_eq_true,true_or,or_true])]⟩
   by_cases g9:Bi s s.now<s.aG.dN.aL
   ·simp only[ZG,seval,Bool.false_and,Prod.mk.injEq,mY,iN,gW,gX,a1,a2,hs.tree,jA _ _ hs.nn,sS _ hu hs.nn,sH s hp hf,hs.tables,yQ _ hs.nT wQ,decide_true,decide_false,g1,g2,q1,q2,r1,r2,bf g3,bf g4,Ko,Kp,g5,g6,g7,g7,g8,g9];exact⟨_,by apply cN;rfl;all_goals simp only[aE,bJ,Z8,seval,a1,a2]<;>rfl,by rw[if_pos (show cT s v s.aG.dN s.aG.fin by simp only[cT,g1,g2,g3,g4,g5,g6,g7,g8,g9,not_true_eq_false,not_false_eq_true,true_or,or_true])]⟩
   by_cases Rz:RT (ol v.T) s.aG.dN<0
   ·simp only[ZG,seval,Bool.false_and,Prod.mk.injEq,mY,iN,gW,gX,a1,a2,hs.tree,jA _ _ hs.nn,sS _ hu hs.nn,sH s hp hf,hs.tables,yQ _ hs.nT wQ,decide_true,decide_false,g1,g2,q1,q2,r1,r2,bf g3,bf g4,Ko,Kp,g5,g6,g7,g7,g8,g9,Rz];exact⟨_,by apply cN;rfl;all_goals simp only[aE,bJ,Z8,seval,a1,a2]<;>rfl,by rw[if_pos (show cT s v s.aG.dN s.aG.fin by simp only[cT,g1,g2,g3,g4,g5,g6,g7,g8,g9,Rz,not_true_eq_false,not_false_eq_true,true_or,or_true])]⟩
   simp only[ZG,seval,Bool.false_and,Prod.mk.injEq,mY,iN,gW,gX,a1,a2,hs.tree,jA _ _ hs.nn,sS _ hu hs.nn,sH s hp hf,hs.tables,yQ _ hs.nT wQ,decide_true,decide_false,g1,g2,q1,q2,r1,r2,bf g3,bf g4,Ko,Kp,g5,g6,g7,g7,g8,g9,Rz];exact⟨_,by apply cN;rfl;all_goals simp only[aE,bJ,Z8,seval,a1,a2]<;>rfl,by rw[if_neg (show ¬cT s v s.aG.dN s.aG.fin by simp only[cT,g1,g2,g3,g4,g5,g6,g7,g8,g9,Rz,not_true_eq_false,not_false_eq_true,or_self,Bool.true_eq_false])]⟩
theorem k59 {s:aP} {v:SV} (hs:SD s v) (hu:gZ v.ns) (hp:s.cFg.qK≠0) (c1 c2:fR) (st:St) (d:Option Nat):aN (aC Tryz.prog) 59 [.agg (aB s),.agg (bY c1),.agg (bY c2)] st d=some { dst:=d,val:=ZY s v c1 c2 }:=bI (lN hs.flat (.agg _ (dA c1)) (.agg _ (dA c2))) (c59 hs hu hp c1 c2) (by unfold ZY;split<;>exact .eE _ (lN (.agg _ (dA _)) (.agg _ (dA _)) (.v _)))
end Go.Ab.Tryz
end
