/-
  Part 11 of the proof: an evaluator of programs, its soundness, and what functions of this program compute.
-/
import Derived.Test.YtmcjkemalibacaaGreatK10
import Derived.Test.YtmcjkemalibacaaGreatK9
set_option linter.all false
set_option maxRecDepth 20000
set_option maxHeartbeats 40000000
namespace Go.Ab.Tryz
open Classical Go.Proofs Go.Ab
theorem xP (s:Config):Flat (.agg (bR s))↔Flat s.jH:=by
 constructor
 ·intro h;have h:∀x∈bR s,Flat x:=by cases h with|agg _ h=>exact h
  exact h _ (List.mem_of_getElem? (yD s))
 ·intro h0;exact .agg _ (tH s h0)
theorem Mr (s:uA):Flat (.agg (eP s))↔Flat s.dR∧Flat s.gZ:=by
 constructor
 ·intro h;have h:∀x∈eP s,Flat x:=by cases h with|agg _ h=>exact h
  exact⟨h _ (List.mem_of_getElem? (uP s)),h _ (List.mem_of_getElem? (wJ s))⟩
 ·rintro⟨h0,h1⟩
  exact .agg _ (qA s h0 h1)
theorem CU (s:yE):Flat (.agg (jK s))↔Flat s.early∧Flat s.bY:=by
 constructor
 ·intro h;have h:∀x∈jK s,Flat x:=by cases h with|agg _ h=>exact h
  exact⟨h _ (List.mem_of_getElem? (uQ s)),h _ (List.mem_of_getElem? (sF s))⟩
 ·rintro⟨h0,h1⟩
  exact .agg _ (Ms s h0 h1)
theorem KK (s:Eu):Flat (.agg (mF s))↔Flat s.nodes:=by
 constructor
 ·intro h;have h:∀x∈mF s,Flat x:=by cases h with|agg _ h=>exact h
  exact h _ (List.mem_of_getElem? (wK s))
 ·intro h0;exact .agg _ (vO s h0)
theorem Gh (s:aN):Flat (.agg (aB s))↔Flat s.cFg.jH∧Flat s.fY.dR∧Flat s.fY.gZ∧Flat s.dQ.early∧Flat s.dQ.bY∧Flat s.tree.nodes∧Flat s.tables:=by
 constructor
 ·intro h;have h:∀x∈aB s,Flat x:=by cases h with|agg _ h=>exact h
  exact⟨h _ (List.mem_of_getElem? (qB s)),h _ (List.mem_of_getElem? (oL s)),h _ (List.mem_of_getElem? (pL s)),h _ (List.mem_of_getElem? (oM s)),h _ (List.mem_of_getElem? (mU s)),h _ (List.mem_of_getElem? (qC s)),h _ (List.mem_of_getElem? (uR s))⟩
 ·rintro⟨h0,h1,h2,h3,h4,h5,h6⟩
  exact .agg _ (Sa s h0 h1 h2 h3 h4 h5 h6)
theorem qD (s:State):Flat (.agg (aF s))↔Flat s.store.cFg.jH∧Flat s.store.fY.dR∧Flat s.store.fY.gZ∧Flat s.store.dQ.early∧Flat s.store.dQ.bY∧Flat s.store.tree.nodes∧Flat s.store.tables∧Flat s.cW∧Flat s.nA:=by
 constructor
 ·intro h;have h:∀x∈aF s,Flat x:=by cases h with|agg _ h=>exact h
  exact⟨h _ (List.mem_of_getElem? (qE s)),h _ (List.mem_of_getElem? (oX s)),h _ (List.mem_of_getElem? (pR s)),h _ (List.mem_of_getElem? (oY s)),h _ (List.mem_of_getElem? (nH s)),h _ (List.mem_of_getElem? (qF s)),h _ (List.mem_of_getElem? (tI s)),h _ (List.mem_of_getElem? (yF s)),h _ (List.mem_of_getElem? (Aa s))⟩
 ·rintro⟨h0,h1,h2,h3,h4,h5,h6,h7,h8⟩
  exact .agg _ (KL s h0 h1 h2 h3 h4 h5 h6 h7 h8)
theorem Ba (s:rQ):Flat (.agg (iF s))↔Flat s.eK:=by
 constructor
 ·intro h;have h:∀x∈iF s,Flat x:=by cases h with|agg _ h=>exact h
  exact h _ (List.mem_of_getElem? (Dt s))
 ·intro h0;exact .agg _ (Pt s h0)
theorem yG (s:Claim):Flat (.agg (gL s))↔Flat s.eK:=by
 constructor
 ·intro h;have h:∀x∈gL s,Flat x:=by cases h with|agg _ h=>exact h
  exact h _ (List.mem_of_getElem? (tJ s))
 ·intro h0;exact .agg _ (Gi s h0)
theorem mL (s:fN):Flat (.agg (bW s))↔Flat s.first.eK∧Flat s.second.eK:=by
 constructor
 ·intro h;have h:∀x∈bW s,Flat x:=by cases h with|agg _ h=>exact h
  exact⟨h _ (List.mem_of_getElem? (nI s)),h _ (List.mem_of_getElem? (mV s))⟩
 ·rintro⟨h0,h1⟩
  exact .agg _ (Gj s h0 h1)
theorem kL (s:Table):Flat (.agg (cN s))↔Flat s.jH:=by
 constructor
 ·intro h;have h:∀x∈cN s,Flat x:=by cases h with|agg _ h=>exact h
  exact h _ (List.mem_of_getElem? (Bb s))
 ·intro h0;exact .agg _ (Gk s h0)
theorem RQ (s:wG):Flat (.agg (kF s))↔Flat s.Fk.eK∧Flat s.oD.first.eK∧Flat s.oD.second.eK∧Flat s.table.jH:=by
 constructor
 ·intro h;have h:∀x∈kF s,Flat x:=by cases h with|agg _ h=>exact h
  exact⟨h _ (List.mem_of_getElem? (Ca s)),h _ (List.mem_of_getElem? (rR s)),h _ (List.mem_of_getElem? (rC s)),h _ (List.mem_of_getElem? (Ac s))⟩
 ·rintro⟨h0,h1,h2,h3⟩
  exact .agg _ (ZQ s h0 h1 h2 h3)
theorem aEH (x:Value):Flat (.v x)=True:=eq_true (.v x)
theorem KM (o:Option (List Int)):Flat (ov bD o)=True:=eq_true (dX o)
theorem KN (o:Option (List Int)):Flat (ov aJ o)=True:=eq_true (bQ o)
theorem CV (o:Option (List lE)):Flat (ov cV o)=True:=eq_true (vP o)
theorem Vq (o:Option (List Block)):Flat (ov aH o)=True:=eq_true (Du o)
theorem Mt (o:Option (List Request)):Flat (ov aA o)=True:=eq_true (fO o)
theorem KO (n:Nat) (o:List Int):Flat (.sl n (bD o))=True:=eq_true (.sl _ _ (gV o))
theorem KP (n:Nat) (o:List Int):Flat (.sl n (aJ o))=True:=eq_true (.sl _ _ (fG o))
theorem CW (n:Nat) (o:List lE):Flat (.sl n (cV o))=True:=eq_true (.sl _ _ (mM o))
theorem Vr (n:Nat) (o:List Block):Flat (.sl n (aH o))=True:=eq_true (.sl _ _ (oO o))
theorem Mu (n:Nat) (o:List Request):Flat (.sl n (aA o))=True:=eq_true (.sl _ _ (gM o))
theorem CX (n:Nat) (o:List Node):Flat (.sl n (bZ o))=True:=eq_true (.sl _ _ (jQ o))
theorem WX (r:cC):Flat (.agg (aV r))=True:=eq_true (pZ r)
theorem KQ (r:Block):Flat (.agg (aT r))=True:=eq_true (tZ r)
theorem WY (r:rS):Flat (.agg (gI r))=True:=eq_true (.agg _ (iG r))
theorem Ad (r:fK):Flat (.agg (bV r))=True:=eq_true (.agg _ (dA r))
theorem H7 (r:Request):Flat (.agg (bM r))=True:=eq_true (.agg _ (fU r))
theorem Vs (r:eR):Flat (.agg (bU r))=True:=eq_true (.agg _ (fV r))
theorem CY (r:oP):Flat (.agg (eZ r))=True:=eq_true (.agg _ (Dv r))
theorem KR (x:AV):Flat (.agg [x])↔Flat x:=by
 constructor
 ·intro h;cases h with|agg _ h=>exact h x (by simp)
 ·intro h;exact .agg _ (by simpa using h)
theorem dU:(type_of% aEH)∧(type_of% KM)∧(type_of% KN)∧(type_of% CV)∧(type_of% Vq)∧(type_of% Mt)∧(type_of% KO)∧(type_of% KP)∧(type_of% CW)∧(type_of% Vr)∧(type_of% Mu)∧(type_of% CX)∧(type_of% WX)∧(type_of% KQ)∧(type_of% WY)∧(type_of% Ad)∧(type_of% H7)∧(type_of% Vs)∧(type_of% CY)∧(type_of% KR)∧(type_of% xP)∧(type_of% Mr)∧(type_of% CU)∧(type_of% KK)∧(type_of% Gh)∧(type_of% qD)∧(type_of% Ba)∧(type_of% yG)∧(type_of% mL)∧(type_of% kL)∧(type_of% RQ) :=
 ⟨aEH,KM,KN,CV,Vq,Mt,KO,KP,CW,Vr,Mu,CX,WX,KQ,WY,Ad,H7,Vs,CY,KR,xP,Mr,CU,KK,Gh,qD,Ba,yG,mL,kL,RQ⟩
structure SV where
 B:Option (List Int)
 L:Option (List lE)
 Q:Option (List Int)
 E:Option (List rQ)
 O:Option (List Block)
 T:Option (List Table)
 ns:List Node
def Ev (a:rQ):Prop:=∃V:Option (List Int),a.eK=ov aJ V∧((ol V).length:Int)<1000000
def uB (t:Table):Prop:=∃b:Option (List Int),t.jH=ov bD b∧((ol b).length:Int)<1000000
structure SD (s:aN) (v:SV):Prop where
 jH:s.cFg.jH=ov bD v.B
 dR:s.fY.dR=ov cV v.L
 gZ:s.fY.gZ=ov aJ v.Q
 early:s.dQ.early=ov dC v.E
 bY:s.dQ.bY=ov aH v.O
 tree:s.tree=⟨.sl v.ns.length (bZ v.ns)⟩
 tables:s.tables=ov aR v.T
 eV:∀a∈ol v.E,Ev a
 tB:∀t∈ol v.T,uB t
 nB:((ol v.B).length:Int)<1000000
 nL:((ol v.L).length:Int)<1000000
 nQ:((ol v.Q).length:Int)<1000000
 nE:((ol v.E).length:Int)<1000000
 nO:((ol v.O).length:Int)<1000000
 nT:((ol v.T).length:Int)<1000000
 nn:(v.ns.length:Int)<1000000
theorem Ev.fl {a:rQ} (h:Ev a):Flat a.eK:=by obtain⟨V,h,_⟩:=h;rw[h];exact bQ V
theorem uB.fl {a:Table} (h:uB a):Flat a.jH:=by obtain⟨V,h,_⟩:=h;rw[h];exact dX V
theorem SD.fE {s:aN} {v:SV} (h:SD s v):Flat (ov dC v.E):=Vt v.E fun a ha=>(h.eV a ha).fl
theorem SD.fT {s:aN} {v:SV} (h:SD s v):Flat (ov aR v.T):=oQ v.T fun a ha=>(h.tB a ha).fl
theorem SD.flat {s:aN} {v:SV} (h:SD s v):Flat (.agg (aB s)):=by
 rw[Gh,h.jH,h.dR,h.gZ,h.early,h.bY,h.tree,h.tables];exact⟨dX _,vP _,bQ _,h.fE,Du _,.sl _ _ (jQ _),h.fT⟩
theorem c97 {s:aN} {v:SV} (hs:SD s v):aD Tryz.prog 97 [.agg (aB s)]=some (.v (.int .i64 (ol v.B).length)):=by
 rw[cL Tryz.func97 rfl aNF rfl];simp only[Z8,seval,hs.jH];exact bX rfl (by simp only[E8,seval]<;>rfl) (.v _)
theorem Vu {s:aN} {v:SV} (hs:SD s v) (st:St) (d:Option Nat):aP (aD Tryz.prog) 97 [.agg (aB s)] st d=some { dst:=d,val:=.v (.int .i64 (ol v.B).length)}:=bT (cO hs.flat) (c97 hs) (.v _)
noncomputable def Dg (s:aN) (x:Int):Int:=IntKind.u64.wrap (x.tdiv s.cFg.qG)
theorem c98 (s:aN) (h:s.cFg.qG≠0) (x:Int):aD Tryz.prog 98 [.agg (aB s),.v (.int .u64 x)]=some (.v (.int .u64 (Dg s x))):=by
 rw[cL Tryz.func98 rfl aNG rfl];have h0:(s.cFg.qG=0)=False:=eq_false h
 simp only[Z8,seval,h0];exact bX rfl (by simp only[E8,seval,Dg]<;>rfl) (.v _)
theorem Ly (s:aN) (h:s.cFg.qG≠0) (hf:Flat (.agg (aB s))) (x:Int) (st:St) (d:Option Nat):aP (aD Tryz.prog) 98 [.agg (aB s),.v (.int .u64 x)] st d=some { dst:=d,val:=.v (.int .u64 (Dg s x))}:=bT (bI hf (.v _)) (c98 s h x) (.v _)
noncomputable def Dh (s:aN) (e:Int):Int × Int:=JV e s.cFg.qG
theorem c99 (s:aN) (x:Int):aD Tryz.prog 99 [.agg (aB s),.v (.int .u64 x)]=some (.eB [.v (.int .u64 (Dh s x).1),.v (.bool ((Dh s x).2 == 0))]):=by
 rw[cL Tryz.func99 rfl aNI rfl];simp only[Z8,seval,aNa,dT];exact dM rfl rfl rfl (by simp only[E8,seval,Dh]<;>rfl) (by simp only[E8,seval,Dh]<;>rfl)
theorem Ue (s:aN) (hf:Flat (.agg (aB s))) (x:Int) (st:St) (d:Option Nat):aP (aD Tryz.prog) 99 [.agg (aB s),.v (.int .u64 x)] st d=some { dst:=d,val:=.eB [.v (.int .u64 (Dh s x).1),.v (.bool ((Dh s x).2 == 0))]}:=bT (bI hf (.v _)) (c99 s x) (.eB _ (bI (.v _) (.v _)))
theorem aNJ {s:aN} {v:SV} (hs:SD s v) (i:Int):aD Tryz.prog 251 [.agg (aB s),.v (.int .i64 i)]=some (.v (.bool (decide (0≤i) && decide (i<v.ns.length)))):=by
 rw[cL Tryz.func251 rfl aIM rfl];by_cases h:0≤i
 all_goals
  simp only[Z8,seval,h,hs.tree,decide_true,decide_false,Bool.true_and,Bool.false_and];exact bX rfl (by simp only[E8,seval,h,decide_true,decide_false,Bool.true_and,Bool.false_and]<;>rfl) (.v _)
theorem Vv {s:aN} {v:SV} (hs:SD s v) (i:Int) (st:St) (d:Option Nat):aP (aD Tryz.prog) 251 [.agg (aB s),.v (.int .i64 i)] st d=some { dst:=d,val:=.v (.bool (decide (0≤i) && decide (i<v.ns.length)))}:=bT (bI hs.flat (.v _)) (aNJ hs i) (.v _)
def H8 (s:aN) (b:Block):Prop:=b.fin.aK≤b.gP.aK∧b.gP.aK≤b.dN.pj.aK∧b.fin.aK≤b.dN.pf.aK∧b.dN.pf.aK≤b.dN.pj.aK∧b.dN.pj.aK≤Dg s b.slot
theorem aNK (s:aN) (h:s.cFg.qG≠0) (hf:Flat (.agg (aB s))) (b:Block):aD Tryz.prog 137 [.agg (aB s),.agg (aT b)]=some (.v (.bool (decide (H8 s b)))):=by
 rw[cL Tryz.func137 rfl aIN rfl];have h98:=Ly s h hf
 unfold H8;by_cases h1:b.fin.aK≤b.gP.aK
 ·by_cases h2:b.gP.aK≤b.dN.pj.aK
  ·by_cases h3:b.fin.aK≤b.dN.pf.aK
   ·by_cases h4:b.dN.pf.aK≤b.dN.pj.aK
    ·simp only[*,true_and,false_and,and_true,and_false,decide_true,decide_false];simp only[Z8,seval, *];exact bX rfl (by simp only[E8,seval, *]<;>rfl) (.v _)
    ·simp only[*,true_and,false_and,and_true,and_false,decide_true,decide_false];simp only[Z8,seval, *];exact bX rfl (by simp only[E8,seval, *]<;>rfl) (.v _)
   ·simp only[*,true_and,false_and,and_true,and_false,decide_true,decide_false];simp only[Z8,seval, *];exact bX rfl (by simp only[E8,seval, *]<;>rfl) (.v _)
  ·simp only[*,true_and,false_and,and_true,and_false,decide_true,decide_false];simp only[Z8,seval, *];exact bX rfl (by simp only[E8,seval, *]<;>rfl) (.v _)
 ·simp only[*,true_and,false_and,and_true,and_false,decide_true,decide_false];simp only[Z8,seval, *];exact bX rfl (by simp only[E8,seval, *]<;>rfl) (.v _)
theorem aIO (s:aN) (h:s.cFg.qG≠0) (hf:Flat (.agg (aB s))) (b:Block) (st:St) (d:Option Nat):aP (aD Tryz.prog) 137 [.agg (aB s),.agg (aT b)] st d=some { dst:=d,val:=.v (.bool (decide (H8 s b)))}:=bT (bI hf (tZ _)) (aNK s h hf b) (.v _)
noncomputable def RR (s:aN) (ns:List Node) (i e:Int):Prop:=(Dh s e).2≠0∨(nd ns i).block.slot≤(Dh s e).1
theorem aNL {s:aN} {v:SV} (hs:SD s v) (i e:Int) (i0:0≤i) (i1:i<v.ns.length):aD Tryz.prog 122 [.agg (aB s),.v (.int .i64 i),.v (.int .u64 e)]=some (.v (.bool (decide (RR s v.ns i e)))):=by
 rw[cL Tryz.func122 rfl aIP rfl];unfold RR;by_cases h:(Dh s e).2=0
 ·have hq:((Dh s e).2 == 0)=true:=by simp[h]
  simp only[h,ne_eq,not_true_eq_false,false_or];simp only[Z8,seval,Ue s hs.flat,dT,hq,hs.tree,i0,i1];exact bX rfl (by simp only[E8,seval]<;>rfl) (.v _)
 ·have hq:((Dh s e).2 == 0)=false:=by simp[h]
  simp only[h,ne_eq,not_false_eq_true,true_or,decide_true];simp only[Z8,seval,Ue s hs.flat,dT,hq,hs.tree,i0,i1];exact bX rfl (by simp only[E8,seval]<;>rfl) (.v _)
theorem aIQ {s:aN} {v:SV} (hs:SD s v) (i e:Int) (i0:0≤i) (i1:i<v.ns.length) (st:St) (d:Option Nat):aP (aD Tryz.prog) 122 [.agg (aB s),.v (.int .i64 i),.v (.int .u64 e)] st d=some { dst:=d,val:=.v (.bool (decide (RR s v.ns i e)))}:=bT (mC hs.flat (.v _) (.v _)) (aNL hs i e i0 i1) (.v _)
theorem pV (x:Int) (h1:-9223372036854775808≤x) (h2:x≤9223372036854775807):IntKind.i64.wrap x=x:=wrap_i64 x h1 h2
theorem xQ {α:Type} (z:α) (p:α→Bool) (l:List α) (k:Nat) (h:k<l.length):(l.take (k+1)).filter p=(l.take k).filter p++if p (gx z l k)=true then [gx z l k] else []:=by
 have hg:gx z l k=l[k]:=by simp[gx,h]
 rw[List.take_succ_eq_append_getElem h,List.filter_append,hg];congr 1
 by_cases hp:p l[k]=true<;>simp[hp]
noncomputable def Bc (p:Nat→Prop):Nat→Int
 | 0=>-1
 | k+1=>if 0≤Bc p k then Bc p k else if p k then k else -1
theorem sP {p:Nat→Prop}:∀n:Nat,(∀j,j<n→¬p j)→Bc p n=-1
 | 0,_=>rfl
 | n+1,h=>by
   simp only[Bc];rw[sP n fun j hj=>h j (by omega),if_neg (by omega),if_neg (h n (by omega))]
theorem Ig {p:Nat→Prop} {k:Nat} (hk:p k) (hj:∀j,j<k→¬p j):∀n:Nat,k<n→Bc p n=k
 | 0,h=>by omega
 | n+1,h=>by
   simp only[Bc];by_cases De:k=n
   ·subst De;rw[sP k hj,if_neg (by omega),if_pos hk]
   ·rw[Ig hk hj n (by omega),if_pos (by omega)]
theorem yH (p:Nat→Prop) (n:Nat):(Bc p n=-1∧∀j,j<n→¬p j)∨∃k:Nat,k<n∧p k∧(∀j,j<k→¬p j)∧Bc p n=k:=by
 by_cases h:∃k,k<n∧p k
 ·obtain⟨k,⟨hk,hp⟩,hm⟩:=Dw h
  have hj:∀j,j<k→¬p j:=fun j hj hpj=>by have:=hm j ⟨by omega,hpj⟩;omega
  exact .inr ⟨k,hk,hp,hj,Ig hp hj n hk⟩
 ·have h':∀j,j<n→¬p j:=fun j hj hp=>h ⟨j,hj,hp⟩
  exact .inl ⟨sP n h',h'⟩
theorem RS (p:Nat→Prop) (n:Nat):-1≤Bc p n∧Bc p n<n:=by
 rcases yH p n with ⟨h,_⟩|⟨k,hk,_,_,h⟩<;>rw[h]<;>omega
noncomputable def F0 (l:List Table) (c:fK):Int:=Bc (fun k=>(gx iS l k).ck=c) l.length
theorem c65 (o:Option (List Table)) (hn:((ol o).length:Int)<1000000) (c:fK):aD Tryz.prog 65 [ov aR o,.agg (bV c)]=some (.v (.int .i64 (F0 (ol o) c))):=by
 rw[cL Tryz.func65 rfl aNM (by cases o<;>rfl)]
 simp only[Z8,seval];refine lB (fun m st=>∃k:Nat,(st.env 0=ov aR o∧st.env 3=.ptr 3 0 0∧st.heap 3 0=some (.cells (bV c))∧st.env 5=.v (.int .i64 k))∧(∀j:Nat,j<k→¬((gx iS (ol o) (j:Int)).ck=c))∧k≤(ol o).length∧m=(ol o).length-k)
  (fun e st=>(e=.ret∧∃k:Nat,k<(ol o).length∧((gx iS (ol o) (k:Int)).ck=c)∧(∀j:Nat,j<k→¬((gx iS (ol o) (j:Int)).ck=c))∧st.env 4=.v (.int .i64 (k:Nat)))∨(e=.exit 0∧(∀j:Nat,j<(ol o).length→¬((gx iS (ol o) (j:Int)).ck=c))∧st.env 0=ov aR o∧st.env 3=.ptr 3 0 0∧st.heap 3 0=some (.cells (bV c)))) ((ol o).length) ?step ?start ?rest
 case step =>
  rintro m st ⟨k,hI,hj,hk,hm⟩
  by_cases bA:(k:Int)<(ol o).length
  ·have q0:(0:Int)≤k:=by omega
   have hw:IntKind.i64.wrap ((k:Int)+1)=((k+1:Nat):Int):=by rw[pV _ (by omega) (by omega)];omega
   by_cases hh:(gx iS (ol o) (k:Int)).ck=c
   ·apply oT (.ret)
    ·simp only[Z8,seval,hI,bA,q0,hh];rfl
    ·exact .inl ⟨rfl,k,by omega,hh,hj,by simp only[E8,seval]⟩
   ·apply oN ((ol o).length-(k+1))
    ·simp only[Z8,seval,hI,bA,q0,hh,hw];rfl
    ·exact⟨k+1,by simp only[E8,seval,hI],fun j h=>(Nat.lt_succ_iff_lt_or_eq.1 h).elim (hj j) fun e=>by subst e;exact hh,by omega,rfl⟩
  ·apply oT (.exit 0)
   ·simp only[Z8,seval,hI,bA];rfl
   ·exact .inr ⟨rfl,fun j h=>hj j (by omega),by simp only[E8,seval,hI]⟩
 case start=>exact⟨0,by simp only[E8,seval]<;>rfl,fun j h=>by omega,by omega,by omega⟩
 case rest =>
  rintro e st (⟨rfl,k,hk,hh,hj,h⟩|⟨rfl,hj,h⟩)
  ·have hv:F0 (ol o) c=k:=Ig hh hj _ hk
   simp only[Z8,seval];exact bX rfl (by simp only[E8,seval,h,hv]<;>rfl) (.v _)
  ·have hv:F0 (ol o) c=-1:=sP _ hj
   simp only[Z8,seval];exact bX rfl (by simp only[E8,seval,h,hv]<;>rfl) (.v _)
theorem WZ (o:Option (List Table)) (hn:((ol o).length:Int)<1000000) (hf:Flat (ov aR o)) (c:fK) (st:St) (d:Option Nat):aP (aD Tryz.prog) 65 [ov aR o,.agg (bV c)] st d=some { dst:=d,val:=.v (.int .i64 (F0 (ol o) c))}:=bT (bI hf (.agg _ (dA c))) (c65 o hn c) (.v _)
noncomputable def nz {α:Type} (l:List α):Option (List α):=if l=[] then none else some l
theorem oE {α:Type} (l:List α):ol (nz l)=l:=by unfold nz;split<;>simp[ol, *]
noncomputable def xR (l:List Table) (x:Int):List Table:=l.filter fun t=>decide (x≤t.ck.aK)
noncomputable def Mv (e sz:Nat) {α:Type} (c:List α→List AV) (l:List α):AV:=if l=[] then .v (.slice none 0 0) else .uniq e sz l.length (c l)
theorem aNN (o:Option (List Table)) (hn:((ol o).length:Int)<1000000) (ht:∀t∈ol o,Flat t.jH) (x:Int):aD Tryz.prog 128 [ov aR o,.v (.int .u64 x)]=some (Mv 118 34 aR (xR (ol o) x)):=by
 rw[cL Tryz.func128 rfl aIR (by cases o<;>rfl)]
 have JL:∀l:List Table,(∀t∈l,t∈ol o)→∀y∈aR l,Flat y:=fun l h=>lF l fun t m=>ht t (h t m)
 simp only[Z8,seval];refine lB (fun m st=>∃k:Nat,(st.env 0=ov aR o∧st.env 1=.v (.int .u64 x)∧st.env 6=.v (.int .i64 k))∧(((((ol o).take k).filter (fun t=>decide (x≤t.ck.aK)))=[]∧st.env 5=.v (.slice none 0 0))∨((((ol o).take k).filter (fun t=>decide (x≤t.ck.aK)))≠[]∧∃g,st.env 5=.own 27 g∧g<st.aO 27∧st.heap 27 g=some (.row 118 34 (((ol o).take k).filter (fun t=>decide (x≤t.ck.aK))).length (aR (((ol o).take k).filter (fun t=>decide (x≤t.ck.aK)))))))∧k≤(ol o).length∧m=(ol o).length-k)
  (fun e st=>e=.exit 0∧(((((ol o).take (ol o).length).filter (fun t=>decide (x≤t.ck.aK)))=[]∧st.env 5=.v (.slice none 0 0))∨((((ol o).take (ol o).length).filter (fun t=>decide (x≤t.ck.aK)))≠[]∧∃g,st.env 5=.own 27 g∧g<st.aO 27∧st.heap 27 g=some (.row 118 34 (((ol o).take (ol o).length).filter (fun t=>decide (x≤t.ck.aK))).length (aR (((ol o).take (ol o).length).filter (fun t=>decide (x≤t.ck.aK)))))))∧st.env 0=ov aR o∧st.env 1=.v (.int .u64 x)) ((ol o).length) ?step ?start ?rest
 case step =>
  rintro m st ⟨k,hI,h5,hk,hm⟩
  have Df:(((((ol o).take k).filter (fun t=>decide (x≤t.ck.aK))).length:Nat):Int)<1000000:=by have:=List.length_filter_le (fun t=>decide (x≤t.ck.aK)) ((ol o).take k);have h2:=List.length_take_le' k (ol o);omega
  by_cases bA:(k:Int)<(ol o).length
  ·have q0:(0:Int)≤k:=by omega
   have hw:IntKind.i64.wrap ((k:Int)+1)=((k+1:Nat):Int):=by rw[pV _ (by omega) (by omega)];omega
   have hs:=xQ iS (fun t=>decide (x≤t.ck.aK)) (ol o) k (by omega)
   have aEI:Flat (.agg (cN (gx iS (ol o) (k:Int)))):=(kL _).2 (ht _ (yI q0 bA))
   by_cases hh:x≤(gx iS (ol o) (k:Int)).ck.aK
   ·rw[if_pos (decide_eq_true hh)] at hs;rcases h5 with ⟨hy,h5⟩|⟨hy,g,h5⟩
    ·rw[hy] at hs;apply oN ((ol o).length-(k+1))
     ·simp only[Z8,seval,hI,h5,bA,hw,q0,aEI,hh];rfl
     ·exact⟨k+1,by simp only[E8,seval,hI],.inr ⟨by rw[hs];simp,_,by simp only[E8,seval]<;>rfl,(by simp only[E8,seval]<;>omega),(by rw[hs];simp only[E8,seval]<;>rfl)⟩,by omega,rfl⟩
    ·apply oN ((ol o).length-(k+1))
     ·simp only[Z8,seval,hI,h5,Df,bA,hw,q0,aEI,hh];rfl
     ·exact⟨k+1,by simp only[E8,seval,hI],.inr ⟨by rw[hs];simp,_,by simp only[E8,seval]<;>rfl,(by simp only[E8,seval]<;>omega),(by rw[hs];simp only[E8,seval]<;>rfl)⟩,by omega,rfl⟩
   ·rw[if_neg (by simpa using hh),List.append_nil] at hs
    apply oN ((ol o).length-(k+1))
    ·simp only[Z8,seval,hI,bA,hw,q0,aEI,hh];rfl
    ·exact⟨k+1,by simp only[E8,seval,hI],by rw[hs];simpa only[E8,seval] using h5,by omega,rfl⟩
  ·have De:k=(ol o).length:=by omega
   rw[De] at h5;apply oT (.exit 0)
   ·simp only[Z8,seval,hI,bA];rfl
   ·exact⟨rfl,by simpa only[E8,seval] using h5,by simp only[E8,seval,hI]⟩
 case start=>exact⟨0,by simp only[E8,seval]<;>rfl,.inl ⟨rfl,by simp only[E8,seval]⟩,by omega,by omega⟩
 case rest =>
  rintro e st ⟨rfl,⟨hy,h5⟩|⟨hy,g,h5,hg,xO⟩,hI⟩
  ·rw[List.take_length] at hy;rw[show Mv 118 34 aR (xR (ol o) x)=.v (.slice none 0 0) from if_pos hy];simp only[Z8,seval,h5];exact bX rfl (by simp only[E8,seval]<;>rfl) (.v _)
  ·rw[List.take_length] at hy xO;rw[show Mv 118 34 aR (xR (ol o) x)=.uniq 118 34 (xR (ol o) x).length (aR (xR (ol o) x)) from if_neg hy];simp only[Z8,seval,h5,xO];exact rP rfl (by simp only[E8,seval];rfl) (by simp only[E8,seval,xO];rfl) (JL _ fun t m=>(List.mem_filter.1 m).1)
theorem ER {T n sz:Nat} (ha:jB Tryz.prog T=some (n,sz)) (st:St) (x:AV) {k:IntKind} {i:Int} (h0:0≤i) (h1:i<n):bB Tryz.prog st T x (.v (.int k i))=uL x (i.toNat * sz):=by
 simp only[bB,ha];rw[if_pos ⟨h0,h1⟩]
theorem RT (st:St) (x:AV) {k:IntKind} {i:Int} (h0:0≤i) (h1:i<32):bB Tryz.prog st 27 x (.v (.int k i))=uL x (i.toNat * 1):=ER aEJ st x h0 h1
theorem Gl (st:St) (x:AV) {k:IntKind} {i:Int} (h0:0≤i) (h1:i<4):bB Tryz.prog st 33 x (.v (.int k i))=uL x (i.toNat * 1):=ER aIS st x h0 h1
def rb (r:cC) (i:Int):Int:=r.toList.getD i.toNat 0
def wb (r:rS) (i:Int):Int:=r.toList.getD i.toNat 0
theorem CZ (r:cC) {i:Int} (h0:0≤i) (h1:i<32):(aV r)[i.toNat]? = some (.v (.int .u8 (rb r i))):=by
 have h:i.toNat<r.toList.length:=by simp;omega
 unfold aV rb;rw[List.getElem?_map,List.getElem?_eq_getElem h,List.getD_eq_getElem?_getD,List.getElem?_eq_getElem h];rfl
theorem Pu (r:rS) {i:Int} (h0:0≤i) (h1:i<4):(gI r)[i.toNat]? = some (.v (.int .u64 (wb r i))):=by
 have h:i.toNat<r.toList.length:=by simp;omega
 unfold gI wb;rw[List.getElem?_map,List.getElem?_eq_getElem h,List.getD_eq_getElem?_getD,List.getElem?_eq_getElem h];rfl
theorem aIT (a b:cC):∃c:Int,aD Tryz.prog 176 [.agg (aV a),.agg (aV b)]=some (.v (.int .i64 c)):=by
 rw[cL Tryz.func176 rfl aIU rfl];suffices h:∃r,cH (yB Tryz.prog _ (St.init [.agg (aV a),.agg (aV b)])) (zK Tryz.prog 176 Tryz.f176)=some r∧∃c:Int,r=.v (.int .i64 c) by
  obtain⟨r,h,c,rfl⟩:=h;exact⟨c,h⟩
 simp only[Z8,seval];refine cM (fun m st=>∃k:Nat,(st.env 2=.ptr 2 0 0∧st.heap 2 0=some (.cells (aV a))∧st.env 3=.ptr 3 0 0∧st.heap 3 0=some (.cells (aV b))∧st.env 5=.v (.int .i64 k))∧k≤32∧m=32-k)
  (fun e st=>(e=.ret∧∃c:Int,st.env 4=.v (.int .i64 c))∨e=.exit 0) 32 ?step ?start ?rest
 case step =>
  rintro m st ⟨k,hI,hk,hm⟩
  by_cases bA:(k:Int)<32
  ·have q0:(0:Int)≤k:=by omega
   have hw:IntKind.i64.wrap ((k:Int)+1)=((k+1:Nat):Int):=by rw[pV _ (by omega) (by omega)];omega
   have ga:=CZ a q0 bA
   have gb:=CZ b q0 bA
   by_cases h1:rb a k<rb b k
   ·apply oT (.ret)
    ·simp only[Z8,seval,hI,bA,q0,RT,ga,gb,h1];rfl
    ·exact .inl ⟨rfl,-1,by simp only[E8,seval]⟩
   ·by_cases h2:rb b k<rb a k
    ·apply oT (.ret)
     ·simp only[Z8,seval,hI,bA,q0,RT,ga,gb,h1,h2];rfl
     ·exact .inl ⟨rfl,1,by simp only[E8,seval]⟩
    ·apply oN (32-(k+1))
     ·simp only[Z8,seval,hI,bA,q0,RT,ga,gb,h1,h2,hw];rfl
     ·exact⟨k+1,by simp only[E8,seval,hI],by omega,rfl⟩
  ·apply oT (.exit 0)
   ·simp only[Z8,seval,hI,bA];rfl
   ·exact .inr rfl
 case start=>exact⟨0,by simp only[E8,seval]<;>rfl,by omega,by omega⟩
 case rest =>
  rintro e st (⟨rfl,c,h⟩|rfl)
  ·simp only[Z8,seval];exact⟨_,bX rfl h (.v _),c,rfl⟩
  ·simp only[Z8,seval];exact⟨_,bX rfl (by simp only[E8,seval]<;>rfl) (.v _),0,rfl⟩
noncomputable def aIV (a b:cC):Int:=Classical.choose (aIT a b)
theorem aEK (a b:cC) (st:St) (d:Option Nat):aP (aD Tryz.prog) 176 [.agg (aV a),.agg (aV b)] st d=some { dst:=d,val:=.v (.int .i64 (aIV a b))}:=bT (bI (pZ a) (pZ b)) (Classical.choose_spec (aIT a b)) (.v _)
theorem aIW (a b:rS):∃c:Int,aD Tryz.prog 170 [.agg (gI a),.agg (gI b)]=some (.v (.int .i64 c)):=by
 rw[cL Tryz.func170 rfl aIX rfl];suffices h:∃r,cH (yB Tryz.prog _ (St.init [.agg (gI a),.agg (gI b)])) (zK Tryz.prog 170 Tryz.f170)=some r∧∃c:Int,r=.v (.int .i64 c) by
  obtain⟨r,h,c,rfl⟩:=h;exact⟨c,h⟩
 simp only[Z8,seval];refine cM (fun m st=>∃k:Nat,(st.env 2=.ptr 2 0 0∧st.heap 2 0=some (.cells (gI a))∧st.env 3=.ptr 3 0 0∧st.heap 3 0=some (.cells (gI b))∧st.env 5=.v (.int .i64 ((k:Int)-1)))∧k≤4∧m=k)
  (fun e st=>(e=.ret∧∃c:Int,st.env 4=.v (.int .i64 c))∨e=.exit 0) 4 ?step ?start ?rest
 case step =>
  rintro m st ⟨k,hI,hk,hm⟩
  by_cases bA:(0:Int)≤(k:Int)-1
  ·have q1:(k:Int)-1<4:=by omega
   have hw:IntKind.i64.wrap ((k:Int)-1-1)=((k-1:Nat):Int)-1:=by rw[pV _ (by omega) (by omega)];omega
   have ga:=Pu a bA q1
   have gb:=Pu b bA q1
   by_cases h1:wb a ((k:Int)-1)<wb b ((k:Int)-1)
   ·apply oT (.ret)
    ·simp only[Z8,seval,hI,bA,q1,Gl,ga,gb,h1];rfl
    ·exact .inl ⟨rfl,-1,by simp only[E8,seval]⟩
   ·by_cases h2:wb b ((k:Int)-1)<wb a ((k:Int)-1)
    ·apply oT (.ret)
     ·simp only[Z8,seval,hI,bA,q1,Gl,ga,gb,h1,h2];rfl
     ·exact .inl ⟨rfl,1,by simp only[E8,seval]⟩
    ·apply oN (k-1)
     ·simp only[Z8,seval,hI,bA,q1,Gl,ga,gb,h1,h2,hw];rfl
     ·exact⟨k-1,by simp only[E8,seval,hI],by omega,rfl⟩
  ·apply oT (.exit 0)
   ·simp only[Z8,seval,hI,bA];rfl
   ·exact .inr rfl
 case start=>exact⟨4,by simp only[E8,seval]<;>rfl,by omega,by omega⟩
 case rest =>
  rintro e st (⟨rfl,c,h⟩|rfl)
  ·simp only[Z8,seval];exact⟨_,bX rfl h (.v _),c,rfl⟩
  ·simp only[Z8,seval];exact⟨_,bX rfl (by simp only[E8,seval]<;>rfl) (.v _),0,rfl⟩
noncomputable def aA3 (a b:rS):Int:=Classical.choose (aIW a b)
theorem aIY (a b:rS) (st:St) (d:Option Nat):aP (aD Tryz.prog) 170 [.agg (gI a),.agg (gI b)] st d=some { dst:=d,val:=.v (.int .i64 (aA3 a b))}:=bT (bI (.agg _ (iG a)) (.agg _ (iG b))) (Classical.choose_spec (aIW a b)) (.v _)
theorem aNO (p b:Block):aD Tryz.prog 169 [.agg (aT p),.agg (aT b)]=some (.v (.bool (!decide (b.iI=dI) && decide (p.iI=dI)))):=by
 rw[cL Tryz.func169 rfl aIZ rfl];by_cases h:b.iI=dI
 all_goals
  simp only[h,decide_true,decide_false,Bool.not_true,Bool.not_false,Bool.true_and,Bool.false_and];simp only[Z8,seval,h,decide_true,decide_false];exact bX rfl (by simp only[E8,seval]<;>rfl) (.v _)
theorem aEL (p b:Block) (st:St) (d:Option Nat):aP (aD Tryz.prog) 169 [.agg (aT p),.agg (aT b)] st d=some { dst:=d,val:=.v (.bool (!decide (b.iI=dI) && decide (p.iI=dI)))}:=bT (bI (tZ p) (tZ b)) (aNO p b) (.v _)
def ZR (AD:rS) (p b:Block):Prop:=(b.iI=dI→p.iI=dI)∧(b.iI≠dI→p.iI=dI→aA3 b.Vw AD<0∧0≤aA3 b.diff AD)
theorem aNP (AD:rS) (p b:Block):aD Tryz.prog 114 [.agg (gI AD),.agg (aT p),.agg (aT b)]=some (.v (.bool (decide (ZR AD p b)))):=by
 rw[cL Tryz.func114 rfl aI0 rfl];unfold ZR;by_cases h:b.iI=dI
 ·simp only[h,forall_const,ne_eq,not_true_eq_false,false_implies,and_true];simp only[Z8,seval,h,decide_true];exact bX rfl (by simp only[E8,seval]<;>rfl) (.v _)
 ·by_cases hp:p.iI=dI
  ·simp only[h,hp,ne_eq,not_false_eq_true,forall_const,false_implies,true_and];by_cases h1:aA3 b.Vw AD<0
   ·simp only[h1,true_and];simp only[Z8,seval,h,hp,aEL,aIY,h1,decide_true,decide_false,Bool.not_false,Bool.true_and];exact bX rfl (by simp only[E8,seval]<;>rfl) (.v _)
   ·simp only[h1,false_and,decide_false];simp only[Z8,seval,h,hp,aEL,aIY,h1,decide_true,decide_false,Bool.not_false,Bool.true_and];exact bX rfl (by simp only[E8,seval]<;>rfl) (.v _)
  ·simp only[h,hp,ne_eq,not_false_eq_true,forall_const,false_implies,and_self,decide_true];simp only[Z8,seval,h,hp,aEL,decide_false,Bool.not_false,Bool.true_and];exact bX rfl (by simp only[E8,seval]<;>rfl) (.v _)
theorem Vx (AD:rS) (p b:Block) (st:St) (d:Option Nat):aP (aD Tryz.prog) 114 [.agg (gI AD),.agg (aT p),.agg (aT b)] st d=some { dst:=d,val:=.v (.bool (decide (ZR AD p b)))}:=bT (mC (.agg _ (iG AD)) (tZ p) (tZ b)) (aNP AD p b) (.v _)
noncomputable def Mw (b:Block):Int:=if b.iI=dI then 1 else 0
theorem aNQ (b:Block):aD Tryz.prog 233 [.agg (aT b)]=some (.v (.int .i64 (Mw b))):=by
 rw[cL Tryz.func233 rfl aI1 rfl];unfold Mw;by_cases h:b.iI=dI
 ·simp only[h,if_true];simp only[Z8,seval,h,decide_true];exact bX rfl (by simp only[E8,seval]<;>rfl) (.v _)
 ·simp only[h,if_false];simp only[Z8,seval,h,decide_false];exact bX rfl (by simp only[E8,seval]<;>rfl) (.v _)
theorem aI2 (b:Block) (st:St) (d:Option Nat):aP (aD Tryz.prog) 233 [.agg (aT b)] st d=some { dst:=d,val:=.v (.int .i64 (Mw b))}:=bT (cO (tZ b)) (aNQ b) (.v _)
theorem kx {g:Nat} {args:List AV} {r:AV} (h:aD Tryz.prog g args=some r) (hf:∀x∈args,Flat x) (hr:Flat r):∀(st:St) (d:Option Nat),aP (aD Tryz.prog) g args st d=some { dst:=d,val:=r }:=fun st d=>bT hf h hr
theorem bf {x y:Int} (h:¬x=y):(x == y)=false∧(x != y)=true:=by simp[h]
theorem bt {x y:Int} (h:x=y):(x == y)=true∧(x != y)=false:=by simp[h]
def Sz (l:List Int) (n:Int) (k:Nat):Prop:=gx (0:Int) l k<0∨n≤gx (0:Int) l k∨(0<k∧gx (0:Int) l k≤gx (0:Int) l ((k:Int)-1))
noncomputable def Zu (l:List Int) (n:Int):Int:=if l=[] then 2 else if Bc (Sz l n) l.length<0 then 0 else if gx (0:Int) l (Bc (Sz l n) l.length)<0∨n≤gx (0:Int) l (Bc (Sz l n) l.length) then 3 else 8
theorem c40 (o:Option (List Int)) (hn:((ol o).length:Int)<1000000) (n:Int):aD Tryz.prog 40 [ov aJ o,.v (.int .i64 n)]=some (.v (.int .i64 (Zu (ol o) n))):=by
 rw[cL Tryz.func40 rfl aNR (by cases o<;>rfl)]
 refine lM ?_
 by_cases h0:ol o=[]
 ·have hv:Zu (ol o) n=2:=if_pos h0
  have hl:(ol o).length=0:=by rw[h0];rfl
  simp only[Z8,seval,hl];exact⟨_,bX rfl (by simp only[E8,seval,hv]<;>rfl) (by first|exact .v _|simp only[dU,hv]),rfl⟩
 have hl:=bf (x:=((ol o).length:Int)) (y:=0) (by have:=List.length_pos_iff.2 h0;omega)
 simp only[Z8,seval,hl];refine cM (fun m st=>∃k:Nat,(st.env 0=ov aJ o∧st.env 1=.v (.int .i64 n)∧st.env 5=.v (.int .i64 k))∧(∀j:Nat,j<k→¬Sz (ol o) n j)∧k≤(ol o).length∧m=(ol o).length-k)
  (fun e st=>(e=.ret∧∃k:Nat,k<(ol o).length∧Sz (ol o) n k∧(∀j:Nat,j<k→¬Sz (ol o) n j)∧st.env 4=.v (.int .i64 (if gx (0:Int) (ol o) k<0∨n≤gx (0:Int) (ol o) k then 3 else 8)))∨(e=.exit 0∧∀j:Nat,j<(ol o).length→¬Sz (ol o) n j)) (ol o).length ?step ?start ?rest
 case step =>
  rintro m st ⟨k,hI,hj,hk,hm⟩
  by_cases bA:(k:Int)<(ol o).length
  ·have q0:(0:Int)≤k:=by omega
   have hw:IntKind.i64.wrap ((k:Int)+1)=((k+1:Nat):Int):=by rw[pV _ (by omega) (by omega)];omega
   by_cases h1:gx (0:Int) (ol o) k<0
   ·apply oT (.ret)
    ·simp only[Z8,seval,hI,bA,q0,h1];rfl
    ·exact .inl ⟨rfl,k,by omega,.inl h1,hj,by simp only[E8,seval,h1,true_or]⟩
   by_cases h2:n≤gx (0:Int) (ol o) k
   ·apply oT (.ret)
    ·simp only[Z8,seval,hI,bA,q0,h1,h2];rfl
    ·exact .inl ⟨rfl,k,by omega,.inr (.inl h2),hj,by simp only[E8,seval,h2,or_true]⟩
   by_cases h3:(0:Int)<k
   ·have q1:(0:Int)≤(k:Int)-1:=by omega
    have q2:(k:Int)-1<(ol o).length:=by omega
    have WV:IntKind.i64.wrap ((k:Int)-1)=(k:Int)-1:=by rw[pV _ (by omega) (by omega)]
    by_cases h4:gx (0:Int) (ol o) k≤gx (0:Int) (ol o) ((k:Int)-1)
    ·apply oT (.ret)
     ·simp only[Z8,seval,hI,bA,q0,q1,q2,WV,h1,h2,h3,h4];rfl
     ·exact .inl ⟨rfl,k,by omega,.inr (.inr ⟨by omega,h4⟩),hj,by simp only[E8,seval,h1,h2,or_self]⟩
    ·apply oN ((ol o).length-(k+1))
     ·simp only[Z8,seval,hI,bA,q0,q1,q2,WV,h1,h2,h3,h4,hw];rfl
     ·exact⟨k+1,by simp only[E8,seval,hI],fun j h=>(Nat.lt_succ_iff_lt_or_eq.1 h).elim (hj j) fun e=>by subst e;unfold Sz;simp only[h1,h2,h4,and_false,or_self,not_false_eq_true],by omega,rfl⟩
   ·have h5:¬(0<k):=by omega
    apply oN ((ol o).length-(k+1))
    ·simp only[Z8,seval,hI,bA,q0,h1,h2,h3,hw];rfl
    ·exact⟨k+1,by simp only[E8,seval,hI],fun j h=>(Nat.lt_succ_iff_lt_or_eq.1 h).elim (hj j) fun e=>by subst e;unfold Sz;simp only[h1,h2,h5,false_and,or_self,not_false_eq_true],by omega,rfl⟩
  ·apply oT (.exit 0)
   ·simp only[Z8,seval,hI,bA];rfl
   ·exact .inr ⟨rfl,fun j h=>hj j (by omega)⟩
 case start=>exact⟨0,by simp only[E8,seval]<;>rfl,fun j h=>by omega,by omega,by omega⟩
 case rest =>
  rintro e st (⟨rfl,k,hk,hh,hj,h⟩|⟨rfl,hj⟩)
  ·have hv:Zu (ol o) n=if gx (0:Int) (ol o) k<0∨n≤gx (0:Int) (ol o) k then 3 else 8:=by
    unfold Zu;rw[if_neg h0,Ig hh hj _ hk,if_neg (by omega)]
   rw[← hv] at h;simp only[Z8,seval];exact⟨_,bX rfl (by simp only[E8,seval,h]<;>rfl) (by first|exact .v _|simp only[dU,h]),rfl⟩
  ·have hv:Zu (ol o) n=0:=by
    unfold Zu;rw[if_neg h0,sP _ hj,if_pos (by omega)]
   simp only[Z8,seval];exact⟨_,bX rfl (by simp only[E8,seval,hv]<;>rfl) (by first|exact .v _|simp only[dU,hv]),rfl⟩
theorem aA4 (a b:Int):(AA a b).2≠21:=by unfold AA;split<;>simp
theorem RU (l:List Int) (n:Int):Zu l n≠21:=by unfold Zu;split;simp;split;simp;split<;>simp
theorem aI3 (o:Option (List Int)) (hn:((ol o).length:Int)<1000000):∃r,aD Tryz.prog 175 [ov bD o]=some r∧∃a e:Int,r=.eB [.v (.int .u64 a),.v (.int .i64 e)]∧e≠21:=by
 rw[cL Tryz.func175 rfl aDD (by cases o<;>rfl)]
 simp only[Z8,seval];refine cM (fun m st=>∃(k:Nat) (a:Int),(st.env 0=ov bD o∧st.env 4=.v (.int .u64 a)∧st.env 5=.v (.int .i64 k))∧k≤(ol o).length∧m=(ol o).length-k)
  (fun e st=>(e=.ret∧∃a e:Int,st.env 2=.v (.int .u64 a)∧st.env 3=.v (.int .i64 e)∧e≠21)∨(e=.exit 0∧∃a:Int,st.env 4=.v (.int .u64 a))) (ol o).length ?step ?start ?rest
 case step =>
  rintro m st ⟨k,a,hI,hk,hm⟩
  by_cases bA:(k:Int)<(ol o).length
  ·have q0:(0:Int)≤k:=by omega
   have hw:IntKind.i64.wrap ((k:Int)+1)=((k+1:Nat):Int):=by rw[pV _ (by omega) (by omega)];omega
   by_cases h1:(AA a (gx (0:Int) (ol o) k)).2=0
   ·apply oN ((ol o).length-(k+1))
    ·simp only[Z8,seval,hI,bA,q0,aEy,dT,h1,hw];rfl
    ·exact⟨k+1,_,by simp only[E8,seval,hI]<;>rfl,by omega,rfl⟩
   ·apply oT (.ret)
    ·simp only[Z8,seval,hI,bA,q0,aEy,dT,bf h1];rfl
    ·exact .inl ⟨rfl,_,_,by simp only[E8,seval]<;>rfl,by simp only[E8,seval]<;>rfl,aA4 _ _⟩
  ·apply oT (.exit 0)
   ·simp only[Z8,seval,hI,bA];rfl
   ·exact .inr ⟨rfl,a,by simp only[E8,seval,hI]⟩
 case start=>exact⟨0,0,by simp only[E8,seval]<;>exact⟨rfl,rfl⟩,by omega,by omega⟩
 case rest =>
  rintro e st (⟨rfl,a,e,h,h',gN⟩|⟨rfl,a,h⟩)
  ·simp only[Z8,seval];exact⟨_,dM rfl rfl rfl (by simp only[E8,seval,h,h']<;>rfl) (by simp only[E8,seval,h,h']<;>rfl),_,_,rfl,gN⟩
  ·simp only[Z8,seval,h];exact⟨_,dM rfl rfl rfl (by simp only[E8,seval,h]<;>rfl) (by simp only[E8,seval,h]<;>rfl),_,_,rfl,by decide⟩
theorem aDE (t:Table) (b:Option (List Int)) (hb:t.jH=ov bD b) (hl:((ol b).length:Int)<1000000) (n:Int):∃r,aD Tryz.prog 130 [.agg (cN t),.v (.int .i64 n)]=some r∧∃e:Int,r=.v (.int .i64 e)∧e≠21∧(e=0→((ol b).length:Int)=n):=by
 obtain⟨r,hr,a,e,rfl,he⟩:=aI3 b hl
 have ZS:=kx hr (cO (dX b)) (.eB _ (bI (.v _) (.v _)))
 rw[cL Tryz.func130 rfl aDF rfl];by_cases h1:((ol b).length:Int)=n
 ·by_cases h2:e=0
  ·by_cases h3:4611686018427387904<a
   all_goals
    simp only[Z8,seval,hb,bt h1,bt h2,h3,ZS,dT];exact⟨_,bX rfl (by simp only[E8,seval]<;>rfl) (by first|exact .v _|simp only[dU]),_,rfl,by decide,fun _=>h1⟩
  ·simp only[Z8,seval,hb,bt h1,bf h2,ZS,dT];exact⟨_,bX rfl (by simp only[E8,seval]<;>rfl) (by first|exact .v _|simp only[dU]),_,rfl,by decide,fun _=>h1⟩
 ·simp only[Z8,seval,hb,bf h1];exact⟨_,bX rfl (by simp only[E8,seval]<;>rfl) (by first|exact .v _|simp only[dU]),_,rfl,by decide,fun h=>by cases h⟩
theorem aNS (t:Table) (ht:uB t) (n:Int):∃r,aD Tryz.prog 130 [.agg (cN t),.v (.int .i64 n)]=some r∧∃e:Int,r=.v (.int .i64 e)∧e≠21:=by
 obtain⟨b,hb,hl⟩:=ht
 obtain⟨r,hr,e,h1,h2,_⟩:=aDE t b hb hl n
 exact⟨r,hr,e,h1,h2⟩
theorem aEM (a b:fK):∃r,aD Tryz.prog 131 [.agg (bV a),.agg (bV b)]=some r∧∃e:Int,r=.v (.int .i64 e):=by
 rw[cL Tryz.func131 rfl aI4 rfl];by_cases h1:a.aK=b.aK
 ·simp only[Z8,seval,bt h1,aEK];exact⟨_,bX rfl (by simp only[E8,seval]<;>rfl) (by first|exact .v _|simp only[dU]),_,rfl⟩
 ·by_cases h2:a.aK<b.aK
  all_goals
   simp only[Z8,seval,bf h1,h2];exact⟨_,bX rfl (by simp only[E8,seval]<;>rfl) (by first|exact .v _|simp only[dU]),_,rfl⟩
noncomputable def aI5 (a b:fK):Int:=Classical.choose (Classical.choose_spec (aEM a b)).2
theorem aI6 (a b:fK) (st:St) (d:Option Nat):aP (aD Tryz.prog) 131 [.agg (bV a),.agg (bV b)] st d=some { dst:=d,val:=.v (.int .i64 (aI5 a b))}:=by
 have h:=(Classical.choose_spec (aEM a b)).1
 rw[Classical.choose_spec (Classical.choose_spec (aEM a b)).2] at h;exact bT (bI (.agg _ (dA a)) (.agg _ (dA b))) h (.v _)
def KnB (v:SV) (r:cC):Prop:=(∃j:Nat,j<(ol v.O).length∧(gx eQ (ol v.O) j).root=r)∨0≤aM v.ns r
theorem c54 {s:aN} {v:SV} (hs:SD s v) (r:cC):aD Tryz.prog 54 [.agg (aB s),.agg (aV r)]=some (.v (.bool (decide (KnB v r)))):=by
 have hn:=hs.nO
 rw[cL Tryz.func54 rfl aNT rfl];refine lM ?_
 simp only[Z8,seval,hs.bY];refine cM (fun m st=>∃k:Nat,(st.env 2=.ptr 2 0 0∧st.heap 2 0=some (.cells (aB s))∧st.env 3=.ptr 3 0 0∧st.heap 3 0=some (.cells (aV r))∧st.env 5=.v (.int .i64 k))∧(∀j:Nat,j<k→¬((gx eQ (ol v.O) (j:Int)).root=r))∧k≤(ol v.O).length∧m=(ol v.O).length-k)
  (fun e st=>(e=.ret∧∃k:Nat,k<(ol v.O).length∧((gx eQ (ol v.O) (k:Int)).root=r)∧(∀j:Nat,j<k→¬((gx eQ (ol v.O) (j:Int)).root=r))∧st.env 4=.v (.bool true))∨(e=.exit 0∧(∀j:Nat,j<(ol v.O).length→¬((gx eQ (ol v.O) (j:Int)).root=r))∧st.env 2=.ptr 2 0 0∧st.heap 2 0=some (.cells (aB s))∧st.env 3=.ptr 3 0 0∧st.heap 3 0=some (.cells (aV r)))) ((ol v.O).length) ?step ?start ?rest
 case step =>
  rintro m st ⟨k,hI,hj,hk,hm⟩
  by_cases bA:(k:Int)<(ol v.O).length
  ·have q0:(0:Int)≤k:=by omega
   have hw:IntKind.i64.wrap ((k:Int)+1)=((k+1:Nat):Int):=by rw[pV _ (by omega) (by omega)];omega
   by_cases hh:(gx eQ (ol v.O) (k:Int)).root=r
   ·apply oT (.ret)
    ·simp only[Z8,seval,hI,bA,q0,hs.bY,hh];rfl
    ·exact .inl ⟨rfl,k,by omega,hh,hj,by simp only[E8,seval,hs.bY]⟩
   ·apply oN ((ol v.O).length-(k+1))
    ·simp only[Z8,seval,hI,bA,q0,hs.bY,hh,hw];rfl
    ·exact⟨k+1,by simp only[E8,seval,hI],fun j h=>(Nat.lt_succ_iff_lt_or_eq.1 h).elim (hj j) fun e=>by subst e;exact hh,by omega,rfl⟩
  ·apply oT (.exit 0)
   ·simp only[Z8,seval,hI,bA,hs.bY];rfl
   ·exact .inr ⟨rfl,fun j h=>hj j (by omega),by simp only[E8,seval,hI]⟩
 case start=>exact⟨0,by simp only[E8,seval]<;>rfl,fun j h=>by omega,by omega,by omega⟩
 case rest =>
  rintro e st (⟨rfl,k,hk,hh,hj,h⟩|⟨rfl,hj,hI⟩)
  ·have hv:decide (KnB v r)=true:=decide_eq_true (.inl ⟨k,hk,hh⟩)
   simp only[Z8,seval];exact⟨_,bX rfl (by simp only[E8,seval,h]<;>rfl) (by first|exact .v _|simp only[dU,h]),by rw[hv]⟩
  ·have hv:decide (KnB v r)=decide (0≤aM v.ns r):=by
    refine decide_eq_decide.2 ⟨fun h=>h.elim (fun ⟨j,hj1,hj2⟩=>absurd hj2 (hj j hj1)) id,.inr⟩
   simp only[Z8,seval,hI,hs.tree,mA _ _ hs.nn];exact⟨_,bX rfl (by simp only[E8,seval]<;>rfl) (by first|exact .v _|simp only[dU]),by rw[hv]⟩
theorem H9 {s:aN} {v:SV} (hs:SD s v) (r:cC) (st:St) (d:Option Nat):aP (aD Tryz.prog) 54 [.agg (aB s),.agg (aV r)] st d=some { dst:=d,val:=.v (.bool (decide (KnB v r)))}:=bT (bI hs.flat (pZ r)) (c54 hs r) (.v _)
def ES (s:aN) (a:rQ):Prop:=a.target.aK≠Dg s a.slot∨(a.target.aK≠Dg s s.now∧(Dg s s.now=0∨a.target.aK≠IntKind.u64.wrap (Dg s s.now-1)))
noncomputable def Fv (s:aN) (v:SV) (a:rQ) (V:List Int):Bool × Int :=
 if Zu V (ol v.B).length≠0 then (false,Zu V (ol v.B).length) else
 if ES s a then (false,18) else
 if aM v.ns a.root<0 then (false,10) else
 if aM v.ns a.target.root<0 then (false,10) else
 if a.slot<(nd v.ns (aM v.ns a.root)).block.slot then (false,14) else
 if EL v.ns (aM v.ns a.root) (Dh s a.target.aK).1≠aM v.ns a.target.root then (false,19) else (decide (s.now≤a.slot),0)
theorem c39 {s:aN} {v:SV} (hs:SD s v) (hu:gU v.ns) (hp:s.cFg.qG≠0) (a:rQ) (o:Option (List Int)) (hV:a.eK=ov aJ o) (hl:((ol o).length:Int)<1000000) :
 aD Tryz.prog 39 [.agg (aB s),.agg (iF a)]=some (.eB [.v (.bool (Fv s v a (ol o)).1),.v (.int .i64 (Fv s v a (ol o)).2)]):=by
 have hf:=hs.flat
 have JM:=fun n=>kx (c40 o hl n) (bI (bQ o) (.v _)) (.v _)
 rw[cL Tryz.func39 rfl aNU rfl];refine lM ?_
 have r1:=fB v.ns a.root
 by_cases g1:Zu (ol o) (ol v.B).length=0
 case neg =>
  have hv:Fv s v a (ol o)=(false,Zu (ol o) (ol v.B).length):=by simp only[Fv,ne_eq,g1,not_false_eq_true,if_true]
  simp only[Z8,seval,hV,Vu hs,JM,bf g1];exact⟨_,dM rfl rfl rfl (by simp only[E8,seval]<;>rfl) (by simp only[E8,seval]<;>rfl),by rw[hv]⟩
 have RV:ES s a→Fv s v a (ol o)=(false,18):=fun g=>by simp only[Fv,ne_eq,g1,not_true_eq_false,if_false,g,if_true]
 by_cases g2:a.target.aK=Dg s a.slot
 case neg =>
  have hv:=RV (.inl g2)
  simp only[Z8,seval,hV,Vu hs,JM,bt g1,Ly s hp hf,bf g2];exact⟨_,dM rfl rfl rfl (by simp only[E8,seval]<;>rfl) (by simp only[E8,seval]<;>rfl),by rw[hv]⟩
 by_cases g3:a.target.aK=Dg s s.now
 case neg =>
  by_cases g4:Dg s s.now=0
  ·have hv:=RV (.inr ⟨g3,.inl g4⟩)
   simp only[Z8,seval,hV,Vu hs,JM,bt g1,Ly s hp hf,bt g2,bf g3,bt g4];exact⟨_,dM rfl rfl rfl (by simp only[E8,seval]<;>rfl) (by simp only[E8,seval]<;>rfl),by rw[hv]⟩
  by_cases g5:a.target.aK=IntKind.u64.wrap (Dg s s.now-1)
  case neg =>
   have hv:=RV (.inr ⟨g3,.inr g5⟩)
   simp only[Z8,seval,hV,Vu hs,JM,bt g1,Ly s hp hf,bt g2,bf g3,bf g4,bf g5];exact⟨_,dM rfl rfl rfl (by simp only[E8,seval]<;>rfl) (by simp only[E8,seval]<;>rfl),by rw[hv]⟩
  have gb:¬ES s a:=fun h=>h.elim (fun h=>h g2) fun h=>h.2.elim g4 fun h=>h g5
  by_cases g6:aM v.ns a.root<0
  ·have hv:Fv s v a (ol o)=(false,10):=by simp only[Fv,ne_eq,g1,not_true_eq_false,if_false,gb,g6,if_true]
   simp only[Z8,seval,hV,Vu hs,JM,bt g1,Ly s hp hf,bt g2,bf g3,bf g4,bt g5,hs.tree,mA _ _ hs.nn,g6];exact⟨_,dM rfl rfl rfl (by simp only[E8,seval]<;>rfl) (by simp only[E8,seval]<;>rfl),by rw[hv]⟩
  by_cases g7:aM v.ns a.target.root<0
  ·have hv:Fv s v a (ol o)=(false,10):=by simp only[Fv,ne_eq,g1,not_true_eq_false,if_false,gb,g6,g7,if_true]
   simp only[Z8,seval,hV,Vu hs,JM,bt g1,Ly s hp hf,bt g2,bf g3,bf g4,bt g5,hs.tree,mA _ _ hs.nn,g6,g7];exact⟨_,dM rfl rfl rfl (by simp only[E8,seval]<;>rfl) (by simp only[E8,seval]<;>rfl),by rw[hv]⟩
  have q0:0≤aM v.ns a.root:=by omega
  by_cases g8:a.slot<(nd v.ns (aM v.ns a.root)).block.slot
  ·have hv:Fv s v a (ol o)=(false,14):=by simp only[Fv,ne_eq,g1,not_true_eq_false,if_false,gb,g6,g7,g8,if_true]
   simp only[Z8,seval,hV,Vu hs,JM,bt g1,Ly s hp hf,bt g2,bf g3,bf g4,bt g5,hs.tree,mA _ _ hs.nn,g6,g7,q0,r1,g8];exact⟨_,dM rfl rfl rfl (by simp only[E8,seval]<;>rfl) (by simp only[E8,seval]<;>rfl),by rw[hv]⟩
  by_cases g9:EL v.ns (aM v.ns a.root) (Dh s a.target.aK).1=aM v.ns a.target.root
  ·have hv:Fv s v a (ol o)=(decide (s.now≤a.slot),0):=by simp only[Fv,ne_eq,g1,not_true_eq_false,if_false,gb,g6,g7,g8,g9]
   simp only[Z8,seval,hV,Vu hs,JM,bt g1,Ly s hp hf,bt g2,bf g3,bf g4,bt g5,hs.tree,mA _ _ hs.nn,g6,g7,q0,r1,g8,Ue s hf,dT,JY _ hu hs.nn,bt g9];exact⟨_,dM rfl rfl rfl (by simp only[E8,seval]<;>rfl) (by simp only[E8,seval]<;>rfl),by rw[hv]⟩
  ·have hv:Fv s v a (ol o)=(false,19):=by simp only[Fv,ne_eq,g1,not_true_eq_false,if_false,gb,g6,g7,g8,g9,not_false_eq_true,if_true]
   simp only[Z8,seval,hV,Vu hs,JM,bt g1,Ly s hp hf,bt g2,bf g3,bf g4,bt g5,hs.tree,mA _ _ hs.nn,g6,g7,q0,r1,g8,Ue s hf,dT,JY _ hu hs.nn,bf g9];exact⟨_,dM rfl rfl rfl (by simp only[E8,seval]<;>rfl) (by simp only[E8,seval]<;>rfl),by rw[hv]⟩
 have gb:¬ES s a:=fun h=>h.elim (fun h=>h g2) fun h=>h.1 g3
 by_cases g6:aM v.ns a.root<0
 ·have hv:Fv s v a (ol o)=(false,10):=by simp only[Fv,ne_eq,g1,not_true_eq_false,if_false,gb,g6,if_true]
  simp only[Z8,seval,hV,Vu hs,JM,bt g1,Ly s hp hf,bt g2,bt g3,hs.tree,mA _ _ hs.nn,g6];exact⟨_,dM rfl rfl rfl (by simp only[E8,seval]<;>rfl) (by simp only[E8,seval]<;>rfl),by rw[hv]⟩
 by_cases g7:aM v.ns a.target.root<0
 ·have hv:Fv s v a (ol o)=(false,10):=by simp only[Fv,ne_eq,g1,not_true_eq_false,if_false,gb,g6,g7,if_true]
  simp only[Z8,seval,hV,Vu hs,JM,bt g1,Ly s hp hf,bt g2,bt g3,hs.tree,mA _ _ hs.nn,g6,g7];exact⟨_,dM rfl rfl rfl (by simp only[E8,seval]<;>rfl) (by simp only[E8,seval]<;>rfl),by rw[hv]⟩
 have q0:0≤aM v.ns a.root:=by omega
 by_cases g8:a.slot<(nd v.ns (aM v.ns a.root)).block.slot
 ·have hv:Fv s v a (ol o)=(false,14):=by simp only[Fv,ne_eq,g1,not_true_eq_false,if_false,gb,g6,g7,g8,if_true]
  simp only[Z8,seval,hV,Vu hs,JM,bt g1,Ly s hp hf,bt g2,bt g3,hs.tree,mA _ _ hs.nn,g6,g7,q0,r1,g8];exact⟨_,dM rfl rfl rfl (by simp only[E8,seval]<;>rfl) (by simp only[E8,seval]<;>rfl),by rw[hv]⟩
 by_cases g9:EL v.ns (aM v.ns a.root) (Dh s a.target.aK).1=aM v.ns a.target.root
 ·have hv:Fv s v a (ol o)=(decide (s.now≤a.slot),0):=by simp only[Fv,ne_eq,g1,not_true_eq_false,if_false,gb,g6,g7,g8,g9]
  simp only[Z8,seval,hV,Vu hs,JM,bt g1,Ly s hp hf,bt g2,bt g3,hs.tree,mA _ _ hs.nn,g6,g7,q0,r1,g8,Ue s hf,dT,JY _ hu hs.nn,bt g9];exact⟨_,dM rfl rfl rfl (by simp only[E8,seval]<;>rfl) (by simp only[E8,seval]<;>rfl),by rw[hv]⟩
 ·have hv:Fv s v a (ol o)=(false,19):=by simp only[Fv,ne_eq,g1,not_true_eq_false,if_false,gb,g6,g7,g8,g9,not_false_eq_true,if_true]
  simp only[Z8,seval,hV,Vu hs,JM,bt g1,Ly s hp hf,bt g2,bt g3,hs.tree,mA _ _ hs.nn,g6,g7,q0,r1,g8,Ue s hf,dT,JY _ hu hs.nn,bf g9];exact⟨_,dM rfl rfl rfl (by simp only[E8,seval]<;>rfl) (by simp only[E8,seval]<;>rfl),by rw[hv]⟩
theorem RW (ns:List Node) (s:Int) (l:List Int):Dn ns s l=-1∨Dn ns s l∈l:=by
 suffices h:∀(l:List Int) (a:Int),l.foldl (fun r x=>if (nd ns x).block.slot≤s then x else r) a=a∨l.foldl (fun r x=>if (nd ns x).block.slot≤s then x else r) a∈l from h l (-1)
 intro l;induction l with
 | nil=>exact fun a=>.inl rfl
 | cons x l ih =>
   intro a;rw[List.foldl_cons];split
   ·rcases ih x with h|h
    ·exact .inr (by rw[h];simp)
    ·exact .inr (by simp[h])
   ·rcases ih a with h|h
    ·exact .inl h
    ·exact .inr (by simp[h])
theorem DA {ns:List Node} (hu:gU ns) (i s:Int):-1≤EL ns i s∧EL ns i s<ns.length∧EL ns i s≤max i (-1):=by
 by_cases hi:0≤i∧i<ns.length
 ·rcases RW ns s (path ns i) with h|h
  ·rw[show EL ns i s=-1 from h];omega
  ·have:=Vd hu i.toNat i rfl hi.1 hi.2 _ h
   rw[show EL ns i s=Dn ns s (path ns i) from rfl];omega
 ·rw[JX s hi];omega
noncomputable def elC {α:Type} (x:AV) (k:fK→Option α) (fb:Option α):Option α:=if h:∃c,x=.agg (bV c) then k (Classical.choose h) else fb
theorem aI7 {α:Type} (c:fK) (k:fK→Option α) (fb:Option α):elC (.agg (bV c)) k fb=k c:=by
 unfold elC;have h:∃c',AV.agg (bV c)=.agg (bV c'):=⟨c,rfl⟩
 rw[dif_pos h];have:=Classical.choose_spec h
 injection this with h2
 rw[← (pF _ _).1 h2]
@[congr] theorem aHC {α:Type} {x y:AV} {k:fK→Option α} {fb:Option α} (h:x=y):elC x k fb=elC y k fb:=by rw[h]
theorem aEN {call:Nat→List AV→Option AV} {ops:Array Oper} {st:St} {T:Nat} {pos:String} {eG:Array Edge} (d:Nat) (x y z w:Operand) :
 cB Tryz.prog call ops ⟨some d,.buildSlice 109 4 #[(0,x),(1,y),(2,z),(3,w)],T,pos,eG,none⟩ st =
  elC (st.ev x) (fun a=>elC (st.ev y) (fun b=>elC (st.ev z) (fun c=>elC (st.ev w) (fun e=>some ((st.new d (.row 41 33 [a,b,c,e].length (yJ [a,b,c,e]))).put (some d) (.own d (st.aO d))))
   (cB Tryz.prog call ops ⟨some d,.buildSlice 109 4 #[(0,x),(1,y),(2,z),(3,w)],T,pos,eG,none⟩ st)) (cB Tryz.prog call ops ⟨some d,.buildSlice 109 4 #[(0,x),(1,y),(2,z),(3,w)],T,pos,eG,none⟩ st))
   (cB Tryz.prog call ops ⟨some d,.buildSlice 109 4 #[(0,x),(1,y),(2,z),(3,w)],T,pos,eG,none⟩ st)) (cB Tryz.prog call ops ⟨some d,.buildSlice 109 4 #[(0,x),(1,y),(2,z),(3,w)],T,pos,eG,none⟩ st):=by
 unfold elC;split
 ·rename_i h1;have h1c:=h1
  obtain⟨a,CI⟩:=h1c
  have e1:Classical.choose h1=a:=by have:=(Classical.choose_spec h1).symm.trans CI;injection this with t;exact (pF _ _).1 t
  rw[e1];split
  ·rename_i h2;have h2c:=h2
   obtain⟨b,h2'⟩:=h2c
   have e2:Classical.choose h2=b:=by have:=(Classical.choose_spec h2).symm.trans h2';injection this with t;exact (pF _ _).1 t
   rw[e2];split
   ·rename_i h3;have h3c:=h3
    obtain⟨c,h3'⟩:=h3c
    have e3:Classical.choose h3=c:=by have:=(Classical.choose_spec h3).symm.trans h3';injection this with t;exact (pF _ _).1 t
    rw[e3];split
    ·rename_i h4;have h4c:=h4
     obtain⟨e,F1⟩:=h4c
     have e4:Classical.choose h4=e:=by have:=(Classical.choose_spec h4).symm.trans F1;injection this with t;exact (pF _ _).1 t
     rw[e4,kE,I0];have hz:((List.range 4).flatMap fun _=>Cb.map AV.v)=yJ [gR,gR,gR,gR]:=by rw[Ae];rfl
     have u0:=Mx [gR,gR,gR,gR] 0 a (by simp)
     have u1:=Mx [a,gR,gR,gR] 1 b (by simp)
     have u2:=Mx [a,b,gR,gR] 2 c (by simp)
     have u3:=Mx [a,b,c,gR] 3 e (by simp)
     simp only[Int.reduceToNat,Nat.reduceMul,Nat.reduceAdd,List.set_cons_zero,List.set_cons_succ,List.set] at u0 u1 u2 u3;simp only[cT,aI8,List.toList_toArray,List.map_cons,List.map_nil,List.all_cons,List.all_nil,CI,h2',h3',F1,AV.jG,Bool.and_self,DB,KS,AV.cells,bP,Vy,hz,List.length_cons,List.length_nil,Nat.reduceMul,Nat.reduceAdd,Nat.reducePow,Nat.reduceLeDiff,Nat.reduceLT,true_or,true_and,and_true,and_self,if_true,↓reduceIte,u0,u1,u2,u3,Nat.zero_le,Nat.le_refl]
    ·rfl
   ·rfl
  ·rfl
 ·rfl
def ZT (s:aN) (v:SV) (b:Block) (c:fK):Prop:=c.aK≤s.bH.fin.aK∨(if (Dh s c.aK).1<b.slot then 0≤EL v.ns (aM v.ns b.parent) (Dh s c.aK).1∧(nd v.ns (EL v.ns (aM v.ns b.parent) (Dh s c.aK).1)).block.root=c.root else b.root=c.root)
def Iw (b:Block):List fK:=[b.gP,b.fin,b.dN.pj,b.dN.pf]
def ET (s:aN) (v:SV) (b:Block):Prop:=0≤aM v.ns b.parent∧H8 s b∧∀j:Nat,j<4→ZT s v b (gx gR (Iw b) j)
theorem c69 {s:aN} {v:SV} (hs:SD s v) (hu:gU v.ns) (hp:s.cFg.qG≠0) (b:Block):aD Tryz.prog 69 [.agg (aB s),.agg (aT b)]=some (.v (.bool (decide (ET s v b)))):=by
 have hf:=hs.flat
 rw[cL Tryz.func69 rfl aNV rfl];refine lM ?_
 have r1:=fB v.ns b.parent
 by_cases g1:aM v.ns b.parent<0
 ·have hv:decide (ET s v b)=false:=decide_eq_false (fun h=>by have:=h.1;omega)
  simp only[Z8,seval,hs.tree,mA _ _ hs.nn,g1];exact⟨_,bX rfl (by simp only[E8,seval]<;>rfl) (by first|exact .v _|simp only[dU]),by rw[hv]⟩
 by_cases g2:H8 s b
 case neg =>
  have hv:decide (ET s v b)=false:=decide_eq_false (fun h=>g2 h.2.1)
  simp only[Z8,seval,hs.tree,mA _ _ hs.nn,g1,aIO s hp hf,g2];exact⟨_,bX rfl (by simp only[E8,seval]<;>rfl) (by first|exact .v _|simp only[dU]),by rw[hv]⟩
 simp only[Z8,seval,hs.tree,mA _ _ hs.nn,g1,aIO s hp hf,g2,aEN,aI7];have h4:(Iw b).length=4:=rfl
 refine cM (fun m st=>∃k:Nat,(st.env 2=.ptr 2 0 0∧st.heap 2 0=some (.cells (aB s))∧st.env 3=.ptr 3 0 0∧st.heap 3 0=some (.cells (aT b))∧st.env 5=.v (.int .i64 (aM v.ns b.parent))∧st.env 6=.own 33 0∧st.heap 33 0=some (.row 41 33 (Iw b).length (yJ (Iw b)))∧st.env 7=.v (.int .i64 k))∧(∀j:Nat,j<k→ZT s v b (gx gR (Iw b) j))∧k≤4∧m=4-k)
  (fun e st=>(e=.ret∧st.env 4=.v (.bool false)∧∃j:Nat,j<4∧¬ZT s v b (gx gR (Iw b) j))∨(e=.exit 0∧∀j:Nat,j<4→ZT s v b (gx gR (Iw b) j))) 4 ?step ?start ?rest
 case step =>
  rintro m st ⟨k,hI,hj,hk,hm⟩
  by_cases G3:k<4
  ·have bA:(k:Int)<(Iw b).length:=by rw[h4];omega
   have q0:(0:Int)≤k:=by omega
   have hw:IntKind.i64.wrap ((k:Int)+1)=((k+1:Nat):Int):=by rw[pV _ (by omega) (by omega)];omega
   obtain⟨c,hc⟩:∃c,gx gR (Iw b) k=c:=⟨_,rfl⟩
   have ra:=DA hu (aM v.ns b.parent) (Dh s c.aK).1
   have ld:∀T kk off,sQ Tryz.prog T=some kk→0<kk→off+kk≤33→uC Tryz.prog T (some (.row 41 33 (Iw b).length (yJ (Iw b)))) ((k:Int).toNat * 33+off)=fD Tryz.prog T (bV c) off:=fun T kk off h1 h2 h3=>by rw[EU q0 bA h1 h2 h3,hc]
   have ld0:∀T kk,sQ Tryz.prog T=some kk→0<kk→kk≤33→uC Tryz.prog T (some (.row 41 33 (Iw b).length (yJ (Iw b)))) ((k:Int).toNat * 33)=fD Tryz.prog T (bV c) 0:=fun T kk h1 h2 h3=>by rw[XA q0 bA h1 h2 h3,hc]
   have nxt:ZT s v b c→∀j:Nat,j<k+1→ZT s v b (gx gR (Iw b) j):=fun h j E9=>(Nat.lt_succ_iff_lt_or_eq.1 E9).elim (hj j) fun e=>by subst e;rw[hc];exact h
   have ld1:=ld0 23 1 RX (by decide) (by decide)
   have ld2:=ld 27 32 1 aI9 (by decide) (by decide)
   have cl:∀i:Int,(k:Int)<4:=fun _=>by omega
   have hl4:(k:Int)<((Iw b).length:Int):=bA
   by_cases h1:c.aK≤s.bH.fin.aK
   ·apply oN (4-(k+1))
    ·simp only[Z8,seval,hI,bA,q0,ld1,ld2,h1,hw];rfl
    ·exact⟨k+1,by simp only[E8,seval,hI],nxt (.inl h1),by omega,rfl⟩
   by_cases h2:(Dh s c.aK).1<b.slot
   ·by_cases h3:EL v.ns (aM v.ns b.parent) (Dh s c.aK).1<0
    ·apply oT (.ret)
     ·simp only[Z8,seval,hI,bA,q0,ld1,ld2,h1,h2,h3,Ue s hf,dT,hs.tree,JY _ hu hs.nn];rfl
     ·exact .inl ⟨rfl,by simp only[E8,seval],k,G3,by rw[hc];exact fun h=>h.elim h1 fun h=>by rw[if_pos h2] at h;omega⟩
    have q3:0≤EL v.ns (aM v.ns b.parent) (Dh s c.aK).1:=by omega
    by_cases F1:(nd v.ns (EL v.ns (aM v.ns b.parent) (Dh s c.aK).1)).block.root=c.root
    ·apply oN (4-(k+1))
     ·simp only[Z8,seval,hI,bA,q0,ld1,ld2,h1,h2,h3,Ue s hf,dT,hs.tree,JY _ hu hs.nn,q3,ra,F1,hw];rfl
     ·exact⟨k+1,by simp only[E8,seval,hI],nxt (.inr (by rw[if_pos h2];exact⟨q3,F1⟩)),by omega,rfl⟩
    ·apply oT (.ret)
     ·simp only[Z8,seval,hI,bA,q0,ld1,ld2,h1,h2,h3,Ue s hf,dT,hs.tree,JY _ hu hs.nn,q3,ra,F1];rfl
     ·exact .inl ⟨rfl,by simp only[E8,seval],k,G3,by rw[hc];exact fun h=>h.elim h1 fun h=>by rw[if_pos h2] at h;exact F1 h.2⟩
   ·by_cases F1:b.root=c.root
    ·apply oN (4-(k+1))
     ·simp only[Z8,seval,hI,bA,q0,ld1,ld2,h1,h2,Ue s hf,dT,F1,hw];rfl
     ·exact⟨k+1,by simp only[E8,seval,hI],nxt (.inr (by rw[if_neg h2];exact F1)),by omega,rfl⟩
    ·apply oT (.ret)
     ·simp only[Z8,seval,hI,bA,q0,ld1,ld2,h1,h2,Ue s hf,dT,F1];rfl
     ·exact .inl ⟨rfl,by simp only[E8,seval],k,G3,by rw[hc];exact fun h=>h.elim h1 fun h=>by rw[if_neg h2] at h;exact F1 h⟩
  ·have bA:¬((k:Int)<(Iw b).length):=by rw[h4];omega
   apply oT (.exit 0)
   ·simp only[Z8,seval,hI,bA];rfl
   ·exact .inr ⟨rfl,fun j h=>hj j (by omega)⟩
 case start=>exact⟨0,by simp only[E8,seval]<;>rfl,fun j h=>by omega,by omega,by omega⟩
 case rest =>
  rintro e st (⟨rfl,h,j,hj,hn⟩|⟨rfl,h⟩)
  ·have hv:decide (ET s v b)=false:=decide_eq_false (fun h=>hn (h.2.2 j hj))
   simp only[Z8,seval];exact⟨_,bX rfl (by simp only[E8,seval,h]<;>rfl) (by first|exact .v _|simp only[dU,h]),by rw[hv]⟩
  ·have hv:decide (ET s v b)=true:=decide_eq_true ⟨by omega,g2,h⟩
   simp only[Z8,seval];exact⟨_,bX rfl (by simp only[E8,seval]<;>rfl) (by first|exact .v _|simp only[dU]),by rw[hv]⟩
theorem I1 {s:aN} {v:SV} (hs:SD s v) (hu:gU v.ns) (hp:s.cFg.qG≠0) (b:Block) (st:St) (d:Option Nat):aP (aD Tryz.prog) 69 [.agg (aB s),.agg (aT b)] st d=some { dst:=d,val:=.v (.bool (decide (ET s v b)))}:=bT (bI hs.flat (tZ b)) (c69 hs hu hp b) (.v _)
noncomputable def Jl (s:aN) (v:SV) (b:Block):Int :=
 if b.root=dI then 2 else if KnB v b.root then 9 else if s.now<b.slot then 12 else if b.slot≤(Dh s s.bH.fin.aK).1 then 13 else
 if aM v.ns b.parent<0 then 10 else if b.slot≤(nd v.ns (aM v.ns b.parent)).block.slot then 14 else if (nd v.ns (aM v.ns b.parent)).status=2 then 15 else
 if ¬ET s v b then 16 else if ¬ZR s.cFg.AD (nd v.ns (aM v.ns b.parent)).block b then 17 else if s.cFg.lT.rD≤(v.ns.length:Int) then 11 else 0
theorem c52 {s:aN} {v:SV} (hs:SD s v) (hu:gU v.ns) (hp:s.cFg.qG≠0) (b:Block):aD Tryz.prog 52 [.agg (aB s),.agg (aT b)]=some (.v (.int .i64 (Jl s v b))):=by
 have hf:=hs.flat
 rw[cL Tryz.func52 rfl aNX rfl];refine lM ?_
 have r1:=fB v.ns b.parent
 by_cases g1:b.root=dI
 ·simp only[Z8,seval,Ue s hf,dT,H9 hs,hs.tree,mA _ _ hs.nn,I1 hs hu hp,Vx,decide_true,decide_false,g1];exact⟨_,bX rfl (by simp only[E8,seval]<;>rfl) (by first|exact .v _|simp only[dU]),by simp only[Jl,g1,not_true_eq_false,not_false_eq_true,if_true,if_false]⟩
 by_cases g2:KnB v b.root
 ·simp only[Z8,seval,Ue s hf,dT,H9 hs,hs.tree,mA _ _ hs.nn,I1 hs hu hp,Vx,decide_true,decide_false,g1,g2];exact⟨_,bX rfl (by simp only[E8,seval]<;>rfl) (by first|exact .v _|simp only[dU]),by simp only[Jl,g1,g2,not_true_eq_false,not_false_eq_true,if_true,if_false]⟩
 by_cases g3:s.now<b.slot
 ·simp only[Z8,seval,Ue s hf,dT,H9 hs,hs.tree,mA _ _ hs.nn,I1 hs hu hp,Vx,decide_true,decide_false,g1,g2,g3];exact⟨_,bX rfl (by simp only[E8,seval]<;>rfl) (by first|exact .v _|simp only[dU]),by simp only[Jl,g1,g2,g3,not_true_eq_false,not_false_eq_true,if_true,if_false]⟩
 by_cases g4:b.slot≤(Dh s s.bH.fin.aK).1
 ·simp only[Z8,seval,Ue s hf,dT,H9 hs,hs.tree,mA _ _ hs.nn,I1 hs hu hp,Vx,decide_true,decide_false,g1,g2,g3,g4];exact⟨_,bX rfl (by simp only[E8,seval]<;>rfl) (by first|exact .v _|simp only[dU]),by simp only[Jl,g1,g2,g3,g4,not_true_eq_false,not_false_eq_true,if_true,if_false]⟩
 by_cases g5:aM v.ns b.parent<0
 ·simp only[Z8,seval,Ue s hf,dT,H9 hs,hs.tree,mA _ _ hs.nn,I1 hs hu hp,Vx,decide_true,decide_false,g1,g2,g3,g4,g5];exact⟨_,bX rfl (by simp only[E8,seval]<;>rfl) (by first|exact .v _|simp only[dU]),by simp only[Jl,g1,g2,g3,g4,g5,not_true_eq_false,not_false_eq_true,if_true,if_false]⟩
 have q0:0≤aM v.ns b.parent:=by omega
 by_cases g6:b.slot≤(nd v.ns (aM v.ns b.parent)).block.slot
 ·simp only[Z8,seval,Ue s hf,dT,H9 hs,hs.tree,mA _ _ hs.nn,I1 hs hu hp,Vx,decide_true,decide_false,g1,g2,g3,g4,g5,q0,r1,g6];exact⟨_,bX rfl (by simp only[E8,seval]<;>rfl) (by first|exact .v _|simp only[dU]),by simp only[Jl,g1,g2,g3,g4,g5,g6,not_true_eq_false,not_false_eq_true,if_true,if_false]⟩
 by_cases g7:(nd v.ns (aM v.ns b.parent)).status=2
 ·simp only[Z8,seval,Ue s hf,dT,H9 hs,hs.tree,mA _ _ hs.nn,I1 hs hu hp,Vx,decide_true,decide_false,g1,g2,g3,g4,g5,q0,r1,g6,bt g7];exact⟨_,bX rfl (by simp only[E8,seval]<;>rfl) (by first|exact .v _|simp only[dU]),by simp only[Jl,g1,g2,g3,g4,g5,g6,g7,not_true_eq_false,not_false_eq_true,if_true,if_false]⟩
 by_cases g8:¬ET s v b
 ·simp only[Z8,seval,Ue s hf,dT,H9 hs,hs.tree,mA _ _ hs.nn,I1 hs hu hp,Vx,decide_true,decide_false,g1,g2,g3,g4,g5,q0,r1,g6,bf g7,g8];exact⟨_,bX rfl (by simp only[E8,seval]<;>rfl) (by first|exact .v _|simp only[dU]),by simp only[Jl,g1,g2,g3,g4,g5,g6,g7,g8,not_true_eq_false,not_false_eq_true,if_true,if_false]⟩
 replace g8:=Classical.not_not.1 g8
 by_cases g9:¬ZR s.cFg.AD (nd v.ns (aM v.ns b.parent)).block b
 ·simp only[Z8,seval,Ue s hf,dT,H9 hs,hs.tree,mA _ _ hs.nn,I1 hs hu hp,Vx,decide_true,decide_false,g1,g2,g3,g4,g5,q0,r1,g6,bf g7,g8,g9];exact⟨_,bX rfl (by simp only[E8,seval]<;>rfl) (by first|exact .v _|simp only[dU]),by simp only[Jl,g1,g2,g3,g4,g5,g6,g7,g8,g9,not_true_eq_false,not_false_eq_true,if_true,if_false]⟩
 replace g9:=Classical.not_not.1 g9
 by_cases I2:s.cFg.lT.rD≤(v.ns.length:Int)
 ·simp only[Z8,seval,Ue s hf,dT,H9 hs,hs.tree,mA _ _ hs.nn,I1 hs hu hp,Vx,decide_true,decide_false,g1,g2,g3,g4,g5,q0,r1,g6,bf g7,g8,g9,I2];exact⟨_,bX rfl (by simp only[E8,seval]<;>rfl) (by first|exact .v _|simp only[dU]),by simp only[Jl,g1,g2,g3,g4,g5,g6,g7,g8,g9,I2,not_true_eq_false,not_false_eq_true,if_true,if_false]⟩
 simp only[Z8,seval,Ue s hf,dT,H9 hs,hs.tree,mA _ _ hs.nn,I1 hs hu hp,Vx,decide_true,decide_false,g1,g2,g3,g4,g5,q0,r1,g6,bf g7,g8,g9,I2];exact⟨_,bX rfl (by simp only[E8,seval]<;>rfl) (by first|exact .v _|simp only[dU]),by simp only[Jl,g1,g2,g3,g4,g5,g6,g7,g8,g9,I2,not_true_eq_false,not_false_eq_true,if_true,if_false]⟩
theorem k52 {s:aN} {v:SV} (hs:SD s v) (hu:gU v.ns) (hp:s.cFg.qG≠0) (b:Block) (st:St) (d:Option Nat):aP (aD Tryz.prog) 52 [.agg (aB s),.agg (aT b)] st d=some { dst:=d,val:=.v (.int .i64 (Jl s v b))}:=bT (bI hs.flat (tZ b)) (c52 hs hu hp b) (.v _)
def KT (acc:Bool × fK × fK) (n:Node):Bool × fK × fK :=
 if n.status=2 then acc else (true,if acc.1=false∨acc.2.1.aK<n.block.dN.pj.aK then n.block.dN.pj else acc.2.1,if acc.1=false∨acc.2.2.aK<n.block.dN.pf.aK then n.block.dN.pf else acc.2.2)
def ZU (ns:List Node):Bool × fK × fK:=ns.foldl KT (false,gR,gR)
def Ix (ns:List Node):oP:=⟨(ZU ns).2.1,(ZU ns).2.2⟩
theorem ZV (ns:List Node) (k:Nat) (h:k<ns.length):ZU (ns.take (k+1))=KT (ZU (ns.take k)) (nd ns k):=by
 obtain⟨h',e⟩:=Ge (ns:=ns) (i:=(k:Int)) (by omega) (by omega)
 unfold ZU;rw[List.take_succ_eq_append_getElem h,List.foldl_append,e];rfl
theorem c67 {s:aN} {v:SV} (hs:SD s v):aD Tryz.prog 67 [.agg (aB s)]=some (.agg (eZ (Ix v.ns))):=by
 have hn:=hs.nn
 rw[cL Tryz.func67 rfl aNY rfl];refine lM ?_
 simp only[Z8,seval,hs.tree];refine cM (fun m st=>∃(k:Nat) (b:Bool) (x y:fK),(st.env 1=.ptr 1 0 0∧st.heap 1 0=some (.cells (aB s))∧st.env 2=.ptr 2 0 0∧st.heap 2 0=some (.cells (eZ My))∧st.env 3=.ptr 3 0 0∧st.heap 3 0=some (.cells (eZ ⟨x,y⟩))∧st.env 4=.v (.bool b)∧st.env 5=.v (.int .i64 k))∧ZU (v.ns.take k)=(b,x,y)∧k≤v.ns.length∧m=v.ns.length-k)
  (fun e st=>e=.exit 0∧∃(x y:fK),(st.env 2=.ptr 2 0 0∧st.heap 2 0=some (.cells (eZ My))∧st.env 3=.ptr 3 0 0∧st.heap 3 0=some (.cells (eZ ⟨x,y⟩)))∧Ix v.ns=⟨x,y⟩) v.ns.length ?step ?start ?rest
 case step =>
  rintro m st ⟨k,b,x,y,hI,hp,hk,hm⟩
  by_cases bA:(k:Int)<v.ns.length
  ·have q0:(0:Int)≤k:=by omega
   have hw:IntKind.i64.wrap ((k:Int)+1)=((k+1:Nat):Int):=by rw[pV _ (by omega) (by omega)];omega
   have tX:=ZV v.ns k (by omega)
   rw[hp] at tX;unfold KT at tX;by_cases h1:(nd v.ns k).status=2
   ·rw[if_pos h1] at tX;apply oN (v.ns.length-(k+1))
    ·simp only[Z8,seval,hI,bA,q0,hs.tree,bt h1,hw];rfl
    ·exact⟨k+1,b,x,y,by simp only[E8,seval,hI],tX,by omega,rfl⟩
   rw[if_neg h1] at tX;cases b
   ·simp only[true_or,if_true] at tX;apply oN (v.ns.length-(k+1))
    ·simp only[Z8,seval,hI,bA,q0,hs.tree,bf h1,hw];rfl
    ·exact⟨k+1,true,_,_,by simp only[E8,seval,hI]<;>rfl,tX,by omega,rfl⟩
   ·simp only[Bool.true_eq_false,false_or] at tX;by_cases h2:x.aK<(nd v.ns k).block.dN.pj.aK
    ·rw[if_pos h2] at tX;by_cases h3:y.aK<(nd v.ns k).block.dN.pf.aK
     ·rw[if_pos h3] at tX;apply oN (v.ns.length-(k+1))
      ·simp only[Z8,seval,hI,bA,q0,hs.tree,bf h1,h2,h3,hw];rfl
      ·exact⟨k+1,true,_,_,by simp only[E8,seval,hI]<;>rfl,tX,by omega,rfl⟩
     ·rw[if_neg h3] at tX;apply oN (v.ns.length-(k+1))
      ·simp only[Z8,seval,hI,bA,q0,hs.tree,bf h1,h2,h3,hw];rfl
      ·exact⟨k+1,true,_,_,by simp only[E8,seval,hI]<;>rfl,tX,by omega,rfl⟩
    ·rw[if_neg h2] at tX;by_cases h3:y.aK<(nd v.ns k).block.dN.pf.aK
     ·rw[if_pos h3] at tX;apply oN (v.ns.length-(k+1))
      ·simp only[Z8,seval,hI,bA,q0,hs.tree,bf h1,h2,h3,hw];rfl
      ·exact⟨k+1,true,_,_,by simp only[E8,seval,hI]<;>rfl,tX,by omega,rfl⟩
     ·rw[if_neg h3] at tX;apply oN (v.ns.length-(k+1))
      ·simp only[Z8,seval,hI,bA,q0,hs.tree,bf h1,h2,h3,hw];rfl
      ·exact⟨k+1,true,_,_,by simp only[E8,seval,hI]<;>rfl,tX,by omega,rfl⟩
  ·have De:k=v.ns.length:=by omega
   rw[De,List.take_length] at hp;apply oT (.exit 0)
   ·simp only[Z8,seval,hI,bA,hs.tree];rfl
   ·exact⟨rfl,x,y,by simp only[E8,seval,hI],by unfold Ix;rw[hp]⟩
 case start=>exact⟨0,false,gR,gR,by simp only[E8,seval]<;>rfl,rfl,by omega,by omega⟩
 case rest =>
  rintro e st ⟨rfl,x,y,hI,hp⟩
  simp only[Z8,seval,hI];exact⟨_,eU rfl (by simp only[E8,seval,hI]<;>rfl) (by simp only[Z8,seval,hI]<;>rfl) (by simp only[dU,and_self,hI]),by rw[hp]⟩
theorem k67 {s:aN} {v:SV} (hs:SD s v) (st:St) (d:Option Nat):aP (aD Tryz.prog) 67 [.agg (aB s)] st d=some { dst:=d,val:=.agg (eZ (Ix v.ns))}:=bT (cO hs.flat) (c67 hs) (.agg _ (Dv _))
noncomputable def Fw (s:aN) (c:fK):fK:=if s.bH.gP.aK<c.aK then c else s.bH.gP
noncomputable def Di (s:aN) (c:fK):fK:=if s.bH.fin.aK<c.aK then c else s.bH.fin
def mD (s:aN) (v:SV) (J F:fK):Prop :=
 aM v.ns J.root<0∨aM v.ns F.root<0∨(nd v.ns (aM v.ns J.root)).status=2∨(nd v.ns (aM v.ns F.root)).status=2∨¬RR s v.ns (aM v.ns J.root) J.aK∨¬RR s v.ns (aM v.ns F.root) F.aK ∨
 zY v.ns (aM v.ns F.root) (aM v.ns J.root)=false∨J.aK<F.aK∨Dg s s.now<J.aK∨F0 (ol v.T) J<0
noncomputable def ZW (s:aN) (v:SV) (c1 c2:fK):AV:=if mD s v (Fw s c1) (Di s c2) then .eB [.agg (bV gR),.agg (bV gR),.v (.bool false)] else .eB [.agg (bV (Fw s c1)),.agg (bV (Di s c2)),.v (.bool true)]
end Go.Ab.Tryz
section
namespace Go.Ab.Tryz
open Classical Go.Proofs Go.Ab
end Go.Ab.Tryz
namespace Go.Ab
theorem XB {α β:Type} {x:Option α} {k:α→Option β} {R:β→Prop} (Q:α→Prop) (h:∃a,x=some a∧Q a) (rest:∀a,Q a→∃r,k a=some r∧R r):∃r,cH x k=some r∧R r:=by
 obtain⟨a,h1,h2⟩:=h
 rw[h1];exact rest a h2
end Go.Ab
namespace Go.Ab.Tryz
open Classical Go.Proofs Go.Ab
theorem Cc:aE 7 73 (some 41)=[]∧aE 7 72 (some 41)=[]:=⟨rfl,rfl⟩
theorem qH {α:Type} (a:α) (l m:List α):List.append (a :: l) m=a :: List.append l m:=rfl
theorem qI {α:Type} (m:List α):List.append ([]:List α) m=m:=rfl
theorem c59 {s:aN} {v:SV} (hs:SD s v) (hu:gU v.ns) (hp:s.cFg.qG≠0) (c1 c2:fK):aD Tryz.prog 59 [.agg (aB s),.agg (bV c1),.agg (bV c2)]=some (ZW s v c1 c2):=by
 have hf:=hs.flat
 have JL:=hs.fT
 rw[cG Tryz.func59 rfl aNZ (by kernel_rfl) rfl]
 refine lM ?_
 unfold ZW;obtain⟨J,eJ⟩:∃J,Fw s c1=J:=⟨_,rfl⟩
 obtain⟨F,eF⟩:∃F,Di s c2=F:=⟨_,rfl⟩
 rw[eJ,eF];simp only[ZG,seval,Bool.false_and,Prod.mk.injEq,Pv,Cc,qH,qI];refine XB (fun a=>a.1=.normal∧a.2.env 3=.ptr 3 0 0∧a.2.heap 3 0=some (.cells (aB s))∧a.2.env 5=.ptr 5 0 0∧a.2.heap 5 0=some (.cells (bV c2))∧a.2.env 6=.ptr 6 0 0∧a.2.heap 6 0=some (.cells (bV gR))∧a.2.env 7=.ptr 7 0 0∧a.2.heap 7 0=some (.cells (bV gR))∧a.2.env 9=.ptr 9 0 0∧a.2.heap 9 0=some (.cells (bV J))∧a.2.env 10=.ptr 10 0 0∧a.2.heap 10 0=some (.cells (bV s.bH.fin))) ?m1 ?r1
 case m1 =>
  unfold Fw at eJ;by_cases a1:s.bH.gP.aK<c1.aK
  ·rw[if_pos a1] at eJ;simp only[a1,decide_true,if_true];exact⟨_,rfl,rfl,by simp only[E8,seval,eJ]<;>exact⟨rfl,rfl⟩⟩
  ·rw[if_neg a1] at eJ;simp only[a1,decide_false,Bool.false_eq_true,if_false];exact⟨_,rfl,rfl,by simp only[E8,seval,eJ]<;>exact⟨rfl,rfl⟩⟩
 case r1 =>
  rintro⟨_,st⟩ ⟨rfl,hI⟩
  dsimp only at hI
  simp only[ZG,seval,Bool.false_and,Prod.mk.injEq,Pv,Cc,qH,qI,hI];refine XB (fun a=>a.1=.normal∧a.2.env 3=.ptr 3 0 0∧a.2.heap 3 0=some (.cells (aB s))∧a.2.env 6=.ptr 6 0 0∧a.2.heap 6 0=some (.cells (bV gR))∧a.2.env 7=.ptr 7 0 0∧a.2.heap 7 0=some (.cells (bV gR))∧a.2.env 9=.ptr 9 0 0∧a.2.heap 9 0=some (.cells (bV J))∧a.2.env 10=.ptr 10 0 0∧a.2.heap 10 0=some (.cells (bV F))) ?m2 ?r2
  case m2 =>
   unfold Di at eF;by_cases a2:s.bH.fin.aK<c2.aK
   ·rw[if_pos a2] at eF;simp only[a2,decide_true,if_true];exact⟨_,rfl,rfl,by simp only[E8,seval,hI,eF]⟩
   ·rw[if_neg a2] at eF;simp only[a2,decide_false,Bool.false_eq_true,if_false];exact⟨_,rfl,rfl,by simp only[E8,seval,hI,eF]⟩
  case r2 =>
   rintro⟨_,st⟩ ⟨rfl,hK⟩
   dsimp only at hK
   have r1:=fB v.ns J.root
   have r2:=fB v.ns F.root
   by_cases g1:aM v.ns J.root<0
   ·simp only[ZG,seval,Bool.false_and,Prod.mk.injEq,Pv,Cc,qH,qI,hK,hs.tree,mA _ _ hs.nn,Mm _ hu hs.nn,Ly s hp hf,hs.tables,WZ _ hs.nT JL,decide_true,decide_false,g1];exact⟨_,by apply gD;rfl;all_goals simp only[aI,bS,Z8,seval,hK]<;>rfl,by rw[if_pos (show mD s v J F by simp only[mD,g1,not_true_eq_false,not_false_eq_true,true_or,or_true])]⟩
   by_cases g2:aM v.ns F.root<0
   ·simp only[ZG,seval,Bool.false_and,Prod.mk.injEq,Pv,Cc,qH,qI,hK,hs.tree,mA _ _ hs.nn,Mm _ hu hs.nn,Ly s hp hf,hs.tables,WZ _ hs.nT JL,decide_true,decide_false,g1,g2];exact⟨_,by apply gD;rfl;all_goals simp only[aI,bS,Z8,seval,hK]<;>rfl,by rw[if_pos (show mD s v J F by simp only[mD,g1,g2,not_true_eq_false,not_false_eq_true,true_or,or_true])]⟩
   have q1:0≤aM v.ns J.root:=by omega
   have q2:0≤aM v.ns F.root:=by omega
   by_cases g3:(nd v.ns (aM v.ns J.root)).status=2
   ·simp only[ZG,seval,Bool.false_and,Prod.mk.injEq,Pv,Cc,qH,qI,hK,hs.tree,mA _ _ hs.nn,Mm _ hu hs.nn,Ly s hp hf,hs.tables,WZ _ hs.nT JL,decide_true,decide_false,g1,g2,q1,q2,r1,r2,bt g3];exact⟨_,by apply gD;rfl;all_goals simp only[aI,bS,Z8,seval,hK]<;>rfl,by rw[if_pos (show mD s v J F by simp only[mD,g1,g2,g3,not_true_eq_false,not_false_eq_true,true_or,or_true])]⟩
   by_cases g4:(nd v.ns (aM v.ns F.root)).status=2
   ·simp only[ZG,seval,Bool.false_and,Prod.mk.injEq,Pv,Cc,qH,qI,hK,hs.tree,mA _ _ hs.nn,Mm _ hu hs.nn,Ly s hp hf,hs.tables,WZ _ hs.nT JL,decide_true,decide_false,g1,g2,q1,q2,r1,r2,bf g3,bt g4];exact⟨_,by apply gD;rfl;all_goals simp only[aI,bS,Z8,seval,hK]<;>rfl,by rw[if_pos (show mD s v J F by simp only[mD,g1,g2,g3,g4,not_true_eq_false,not_false_eq_true,true_or,or_true])]⟩
   have ke1:=aIQ hs (aM v.ns J.root) J.aK q1 r1.2
   have ke2:=aIQ hs (aM v.ns F.root) F.aK q2 r2.2
   by_cases g5:¬RR s v.ns (aM v.ns J.root) J.aK
   ·simp only[ZG,seval,Bool.false_and,Prod.mk.injEq,Pv,Cc,qH,qI,hK,hs.tree,mA _ _ hs.nn,Mm _ hu hs.nn,Ly s hp hf,hs.tables,WZ _ hs.nT JL,decide_true,decide_false,g1,g2,q1,q2,r1,r2,bf g3,bf g4,ke1,ke2,g5];exact⟨_,by apply gD;rfl;all_goals simp only[aI,bS,Z8,seval,hK]<;>rfl,by rw[if_pos (show mD s v J F by simp only[mD,g1,g2,g3,g4,g5,not_true_eq_false,not_false_eq_true,true_or,or_true])]⟩
   replace g5:=Classical.not_not.1 g5
   by_cases g6:¬RR s v.ns (aM v.ns F.root) F.aK
   ·simp only[ZG,seval,Bool.false_and,Prod.mk.injEq,Pv,Cc,qH,qI,hK,hs.tree,mA _ _ hs.nn,Mm _ hu hs.nn,Ly s hp hf,hs.tables,WZ _ hs.nT JL,decide_true,decide_false,g1,g2,q1,q2,r1,r2,bf g3,bf g4,ke1,ke2,g5,g6];exact⟨_,by apply gD;rfl;all_goals simp only[aI,bS,Z8,seval,hK]<;>rfl,by rw[if_pos (show mD s v J F by simp only[mD,g1,g2,g3,g4,g5,g6,not_true_eq_false,not_false_eq_true,true_or,or_true])]⟩
   replace g6:=Classical.not_not.1 g6
   by_cases g7:zY v.ns (aM v.ns F.root) (aM v.ns J.root)=false
   ·simp only[ZG,seval,Bool.false_and,Prod.mk.injEq,Pv,Cc,qH,qI,hK,hs.tree,mA _ _ hs.nn,Mm _ hu hs.nn,Ly s hp hf,hs.tables,WZ _ hs.nT JL,decide_true,decide_false,g1,g2,q1,q2,r1,r2,bf g3,bf g4,ke1,ke2,g5,g6,g7];exact⟨_,by apply gD;rfl;all_goals simp only[aI,bS,Z8,seval,hK]<;>rfl,by rw[if_pos (show mD s v J F by simp only[mD,g1,g2,g3,g4,g5,g6,g7,not_true_eq_false,not_false_eq_true,true_or,or_true])]⟩
   replace g7:=(by simpa using g7:zY v.ns _ _=true)
   by_cases g8:J.aK<F.aK
   ·simp only[ZG,seval,Bool.false_and,Prod.mk.injEq,Pv,Cc,qH,qI,hK,hs.tree,mA _ _ hs.nn,Mm _ hu hs.nn,Ly s hp hf,hs.tables,WZ _ hs.nT JL,decide_true,decide_false,g1,g2,q1,q2,r1,r2,bf g3,bf g4,ke1,ke2,g5,g6,g7,g7,g8];exact⟨_,by apply gD;rfl;all_goals simp only[aI,bS,Z8,seval,hK]<;>rfl,by rw[if_pos (show mD s v J F by simp only[mD,g1,g2,g3,g4,g5,g6,g7,g8,not_true_eq_false,not_false_eq_true,true_or,or_true])]⟩
   by_cases g9:Dg s s.now<J.aK
   ·simp only[ZG,seval,Bool.false_and,Prod.mk.injEq,Pv,Cc,qH,qI,hK,hs.tree,mA _ _ hs.nn,Mm _ hu hs.nn,Ly s hp hf,hs.tables,WZ _ hs.nT JL,decide_true,decide_false,g1,g2,q1,q2,r1,r2,bf g3,bf g4,ke1,ke2,g5,g6,g7,g7,g8,g9];exact⟨_,by apply gD;rfl;all_goals simp only[aI,bS,Z8,seval,hK]<;>rfl,by rw[if_pos (show mD s v J F by simp only[mD,g1,g2,g3,g4,g5,g6,g7,g8,g9,not_true_eq_false,not_false_eq_true,true_or,or_true])]⟩
   by_cases I2:F0 (ol v.T) J<0
   ·simp only[ZG,seval,Bool.false_and,Prod.mk.injEq,Pv,Cc,qH,qI,hK,hs.tree,mA _ _ hs.nn,Mm _ hu hs.nn,Ly s hp hf,hs.tables,WZ _ hs.nT JL,decide_true,decide_false,g1,g2,q1,q2,r1,r2,bf g3,bf g4,ke1,ke2,g5,g6,g7,g7,g8,g9,I2];exact⟨_,by apply gD;rfl;all_goals simp only[aI,bS,Z8,seval,hK]<;>rfl,by rw[if_pos (show mD s v J F by simp only[mD,g1,g2,g3,g4,g5,g6,g7,g8,g9,I2,not_true_eq_false,not_false_eq_true,true_or,or_true])]⟩
   simp only[ZG,seval,Bool.false_and,Prod.mk.injEq,Pv,Cc,qH,qI,hK,hs.tree,mA _ _ hs.nn,Mm _ hu hs.nn,Ly s hp hf,hs.tables,WZ _ hs.nT JL,decide_true,decide_false,g1,g2,q1,q2,r1,r2,bf g3,bf g4,ke1,ke2,g5,g6,g7,g7,g8,g9,I2];exact⟨_,by apply gD;rfl;all_goals simp only[aI,bS,Z8,seval,hK]<;>rfl,by rw[if_neg (show ¬mD s v J F by simp only[mD,g1,g2,g3,g4,g5,g6,g7,g8,g9,I2,not_true_eq_false,not_false_eq_true,or_self,Bool.true_eq_false])]⟩
theorem k59 {s:aN} {v:SV} (hs:SD s v) (hu:gU v.ns) (hp:s.cFg.qG≠0) (c1 c2:fK) (st:St) (d:Option Nat):aP (aD Tryz.prog) 59 [.agg (aB s),.agg (bV c1),.agg (bV c2)] st d=some { dst:=d,val:=ZW s v c1 c2 }:=bT (mC hs.flat (.agg _ (dA c1)) (.agg _ (dA c2))) (c59 hs hu hp c1 c2) (by unfold ZW;split<;>exact .eB _ (mC (.agg _ (dA _)) (.agg _ (dA _)) (.v _)))
end Go.Ab.Tryz
end
namespace Go.Ab.Tryz
open Classical Go.Proofs Go.Ab
theorem bC (st:St) (s g:Nat):cI st (.own s g)=iX (st.heap s g):=by
 unfold cI iX;rw[if_neg (mK s g)];cases h:st.heap s g with
 | none=>simp only[h]
 | some e=>cases e<;>simp only[h]
theorem SD.fl {s:aN} {v:SV} (h:SD s v):Flat s.cFg.jH∧Flat s.fY.dR∧Flat s.fY.gZ∧Flat s.dQ.early∧Flat s.dQ.bY∧Flat s.tree.nodes∧Flat s.tables:=(Gh s).1 h.flat
noncomputable def Gm (s:aN) (v:SV) (c1 c2:fK):SV :=
 if mD s v (Fw s c1) (Di s c2) then v else
 if Di s c2=s.bH.fin then { v with T:=nz (xR (ol v.T) (Fw s c1).aK)} else
 { v with T:=nz (xR (ol v.T) (Fw s c1).aK),ns:=(oA v.ns (aM v.ns (Di s c2).root) v.ns.length).1,O:=nz ((ol v.O).filter fun b=>decide ((Dh s (Di s c2).aK).1<b.slot))}
noncomputable def wL (s:aN) (v:SV) (c1 c2:fK):aN :=
 if mD s v (Fw s c1) (Di s c2) then s else
 if Di s c2=s.bH.fin then { s with bH:=⟨Fw s c1,Di s c2⟩,tables:=ov aR (nz (xR (ol v.T) (Fw s c1).aK))} else
 { s with bH:=⟨Fw s c1,Di s c2⟩,tables:=ov aR (nz (xR (ol v.T) (Fw s c1).aK)),
          tree:=⟨.sl (oA v.ns (aM v.ns (Di s c2).root) v.ns.length).1.length (bZ (oA v.ns (aM v.ns (Di s c2).root) v.ns.length).1)⟩,
          hU:=if aM (oA v.ns (aM v.ns (Di s c2).root) v.ns.length).1 s.hU<0 then dI else s.hU,
          dQ:={ s.dQ with bY:=ov aH (nz ((ol v.O).filter fun b=>decide ((Dh s (Di s c2).aK).1<b.slot)))} }
theorem EW {ns:List Node} (i:Int):(oA ns i ns.length).1.length≤ns.length:=Pq ns i ns.length
theorem SD.dJ {s:aN} {v:SV} (h:SD s v) (hu:gU v.ns) (c1 c2:fK):SD (wL s v c1 c2) (Gm s v c1 c2):=by
 have hT:((ol (nz (xR (ol v.T) (Fw s c1).aK))).length:Int)<1000000:=by rw[oE];have:=List.length_filter_le (fun t:Table=>decide ((Fw s c1).aK≤t.ck.aK)) (ol v.T);have:=h.nT;unfold xR;omega
 have hB:∀t∈ol (nz (xR (ol v.T) (Fw s c1).aK)),uB t:=by rw[oE];exact fun t m=>h.tB t (List.mem_filter.1 m).1
 unfold wL Gm;split
 ·exact h
 split
 ·exact⟨h.jH,h.dR,h.gZ,h.early,h.bY,h.tree,rfl,h.eV,hB,h.nB,h.nL,h.nQ,h.nE,h.nO,hT,h.nn⟩
 ·refine⟨h.jH,h.dR,h.gZ,h.early,rfl,rfl,rfl,h.eV,hB,h.nB,h.nL,h.nQ,h.nE, ?_,hT, ?_⟩
  ·rw[oE];have:=List.length_filter_le (fun b:Block=>decide ((Dh s (Di s c2).aK).1<b.slot)) (ol v.O);have:=h.nO;omega
  ·have:=EW (ns:=v.ns) (aM v.ns (Di s c2).root);have:=h.nn;show ((oA v.ns (aM v.ns (Di s c2).root) v.ns.length).1.length:Int)<1000000;omega
theorem c61 {s:aN} {v:SV} (hs:SD s v) (hu:gU v.ns) (hp:s.cFg.qG≠0) (c1 c2:fK):aD Tryz.prog 61 [.agg (aB s),.agg (bV c1),.agg (bV c2)]=some (.agg (aB (wL s v c1 c2))):=by
 have hf:=hs.flat
 have hn:=hs.nO
 have lO:=hs.fl
 have EX:=k59 hs hu hp c1 c2
 rw[cG Tryz.func61 rfl aN0 (by kernel_rfl) rfl]
 refine lM ?_
 by_cases b1:mD s v (Fw s c1) (Di s c2)
 ·have hv:wL s v c1 c2=s:=if_pos b1
  have hc:ZW s v c1 c2=.eB [.agg (bV gR),.agg (bV gR),.v (.bool false)]:=if_pos b1
  rw[hc] at EX
  simp only[ZG,seval,Bool.false_and,Prod.mk.injEq,sG,EX,dT];exact⟨_,eU rfl (by simp only[E8,seval,hf]<;>rfl) (by simp only[Z8,seval,hf]<;>rfl) (by simp only[dU,and_self,hf]),by rw[hv]⟩
 have hc:ZW s v c1 c2=.eB [.agg (bV (Fw s c1)),.agg (bV (Di s c2)),.v (.bool true)]:=if_neg b1
 rw[hc] at EX
 have hv:wL s v c1 c2=_:=if_neg b1
 generalize hJ:Fw s c1=J at *
 generalize hF:Di s c2=F at *
 have WQ:=fB v.ns F.root
 have hF0:0≤aM v.ns F.root:=by rcases Int.lt_or_le (aM v.ns F.root) 0 with h|h;exact absurd (.inr (.inl h)) b1;exact h
 have aA6:=aNN v.T hs.nT (fun t m=>(hs.tB t m).fl) J.aK
 have kp:=k34 v.ns hu hs.nn (aM v.ns F.root) ⟨hF0,WQ.2⟩
 by_cases e1:xR (ol v.T) J.aK=[]
 ·have hz:(nz (xR (ol v.T) J.aK))=none:=if_pos e1
  rw[show Mv 118 34 aR (xR (ol v.T) J.aK)=.v (.slice none 0 0) from if_pos e1] at aA6;have Vz:=kx aA6 (bI hs.fT (.v _)) (.v _)
  by_cases e2:F=s.bH.fin
  ·rw[if_pos e2,hz] at hv;subst e2;simp only[ZG,seval,Bool.false_and,Prod.mk.injEq,sG,EX,dT,hs.tables,Vz,decide_true,decide_false];exact⟨_,eU rfl (by simp only[E8,seval,hf,lO,and_self]<;>rfl) (by simp only[Z8,seval,hf,lO,and_self]<;>rfl) (by simp only[dU,and_self,hf,lO,and_self]),by rw[hv];rfl⟩
  rw[if_neg e2,hz] at hv;obtain⟨Wa,en⟩:∃Wa,(oA v.ns (aM v.ns F.root) v.ns.length).1=Wa:=⟨_,rfl⟩
  have Hz:(Wa.length:Int)<1000000:=by have:=EW (ns:=v.ns) (aM v.ns F.root);have:=hs.nn;rw[← en];omega
  unfold aAT at kp;rw[en] at kp hv;obtain⟨x,ex⟩:∃x,(JV F.aK s.cFg.qG).1=x:=⟨_,rfl⟩
  rw[show (Dh s F.aK).1=x from ex] at hv;by_cases e3:aM Wa s.hU<0
  ·rw[if_pos e3] at hv;obtain⟨S1,eS⟩:∃S1:aN,S1={ cFg:=s.cFg,fY:=s.fY,bH:=⟨J,F⟩,dQ:=s.dQ,tree:=⟨.sl Wa.length (bZ Wa)⟩,now:=s.now,hU:=dI,tables:=.v (.slice none 0 0)}:=⟨_,rfl⟩
   have hS:Flat (.agg (aB S1)):=by rw[eS];simp only[dU,lO,and_self]
   have Wb:=fun st d=>Ue S1 hS F.aK st d
   simp only[Dh,eS,ex] at Wb
   simp only[ZG,seval,Bool.false_and,Prod.mk.injEq,sG,EX,dT,hs.tables,Vz,decide_true,decide_false,e2,hs.tree,mA _ _ hs.nn,kp,mA _ _ Hz,e3,Wb,hs.bY];have EY:S1.dQ.bY=ov aH v.O:=by rw[eS];exact hs.bY
   refine nJ (fun m st=>∃k:Nat,(st.env 3=.ptr 3 0 0∧st.heap 3 0=some (.cells (aB S1))∧st.env 6=.ptr 6 0 0∧st.heap 6 0=some (.cells (aB gE))∧st.env 11=.v (.int .u64 x)∧st.env 14=.v (.int .i64 k))∧(((((ol v.O).take k).filter (fun b=>decide (x<b.slot)))=[]∧st.env 13=.v (.slice none 0 0))∨((((ol v.O).take k).filter (fun b=>decide (x<b.slot)))≠[]∧∃g,st.env 13=.own 99 g∧g<st.aO 99∧st.heap 99 g=some (.row 74 238 (((ol v.O).take k).filter (fun b=>decide (x<b.slot))).length (aH (((ol v.O).take k).filter (fun b=>decide (x<b.slot)))))))∧k≤(ol v.O).length∧m=(ol v.O).length-k)
    (fun e st=>e=.exit 0∧(((((ol v.O).take (ol v.O).length).filter (fun b=>decide (x<b.slot)))=[]∧st.env 13=.v (.slice none 0 0))∨((((ol v.O).take (ol v.O).length).filter (fun b=>decide (x<b.slot)))≠[]∧∃g,st.env 13=.own 99 g∧g<st.aO 99∧st.heap 99 g=some (.row 74 238 (((ol v.O).take (ol v.O).length).filter (fun b=>decide (x<b.slot))).length (aH (((ol v.O).take (ol v.O).length).filter (fun b=>decide (x<b.slot)))))))∧st.env 3=.ptr 3 0 0∧st.heap 3 0=some (.cells (aB S1))∧st.env 6=.ptr 6 0 0∧st.heap 6 0=some (.cells (aB gE))∧st.env 11=.v (.int .u64 x)) ((ol v.O).length) ?step ?start ?rest
   case step =>
    rintro m st ⟨k,hI,h5,hk,hm⟩
    have Df:(((((ol v.O).take k).filter (fun b=>decide (x<b.slot))).length:Nat):Int)<1000000:=by have:=List.length_filter_le (fun b=>decide (x<b.slot)) ((ol v.O).take k);have h2:=List.length_take_le' k (ol v.O);omega
    by_cases bA:(k:Int)<(ol v.O).length
    ·have q0:(0:Int)≤k:=by omega
     have hw:IntKind.i64.wrap ((k:Int)+1)=((k+1:Nat):Int):=by rw[pV _ (by omega) (by omega)];omega
     have hs:=xQ eQ (fun b=>decide (x<b.slot)) (ol v.O) k (by omega)
     by_cases hh:x<(gx eQ (ol v.O) (k:Int)).slot
     ·rw[if_pos (decide_eq_true hh)] at hs;rcases h5 with ⟨hy,h5⟩|⟨hy,g,h5⟩
      ·rw[hy] at hs;apply Fl ((ol v.O).length-(k+1))
       ·simp only[ZG,seval,Bool.false_and,Prod.mk.injEq,hI,h5,bA,hw,q0,sG,EY,hh];rfl
       ·exact⟨k+1,by simp only[E8,seval,hI],.inr ⟨by rw[hs];simp,_,by simp only[E8,seval]<;>rfl,(by simp only[E8,seval]<;>omega),(by rw[hs];simp only[E8,seval]<;>rfl)⟩,by omega,rfl⟩
      ·apply Fl ((ol v.O).length-(k+1))
       ·simp only[ZG,seval,Bool.false_and,Prod.mk.injEq,hI,h5,Df,bA,hw,q0,sG,EY,hh];rfl
       ·exact⟨k+1,by simp only[E8,seval,hI],.inr ⟨by rw[hs];simp,_,by simp only[E8,seval]<;>rfl,(by simp only[E8,seval]<;>omega),(by rw[hs];simp only[E8,seval]<;>rfl)⟩,by omega,rfl⟩
     ·rw[if_neg (by simpa using hh),List.append_nil] at hs
      apply Fl ((ol v.O).length-(k+1))
      ·simp only[ZG,seval,Bool.false_and,Prod.mk.injEq,hI,bA,hw,q0,sG,EY,hh];rfl
      ·exact⟨k+1,by simp only[E8,seval,hI],by rw[hs];simpa only[E8,seval] using h5,by omega,rfl⟩
    ·have De:k=(ol v.O).length:=by omega
     rw[De] at h5;apply QN (.exit 0)
     ·simp only[ZG,seval,Bool.false_and,Prod.mk.injEq,hI,bA,sG,EY];rfl
     ·exact⟨rfl,by simpa only[E8,seval] using h5,by simp only[E8,seval,hI]⟩
   case start=>exact⟨0,by simp only[E8,seval,eS]<;>rfl,.inl ⟨rfl,by simp only[E8,seval]⟩,by omega,by omega⟩
   case rest =>
    rintro e st ⟨rfl,⟨hy,h5⟩|⟨hy,g,h5,hg,xO⟩,hI⟩
    ·rw[List.take_length] at hy;rw[show nz ((ol v.O).filter fun b=>decide (x<b.slot))=none from if_pos hy] at hv
     rw[eS] at hI;simp only[ZG,seval,Bool.false_and,Prod.mk.injEq,sG,h5,hI];exact⟨_,eU rfl (by simp only[E8,seval,hI,lO,and_self]<;>rfl) (by simp only[Z8,seval,hI,lO,and_self]<;>rfl) (by simp only[dU,and_self,hI,lO,and_self]),by rw[hv];rfl⟩
    ·rw[List.take_length] at hy xO;rw[show nz ((ol v.O).filter fun b=>decide (x<b.slot))=some ((ol v.O).filter fun b=>decide (x<b.slot)) from if_neg hy] at hv
     rw[eS] at hI;simp only[ZG,seval,Bool.false_and,Prod.mk.injEq,sG,h5,xO,hI];exact⟨_,by apply dY;rfl;all_goals simp only[aI,Z8,seval,hI,xO,lO,bO,gB,bC,cE,tK,dU]<;>rfl,by rw[hv];rfl⟩
  rw[if_neg e3] at hv;obtain⟨S1,eS⟩:∃S1:aN,S1={ cFg:=s.cFg,fY:=s.fY,bH:=⟨J,F⟩,dQ:=s.dQ,tree:=⟨.sl Wa.length (bZ Wa)⟩,now:=s.now,hU:=s.hU,tables:=.v (.slice none 0 0)}:=⟨_,rfl⟩
  have hS:Flat (.agg (aB S1)):=by rw[eS];simp only[dU,lO,and_self]
  have Wb:=fun st d=>Ue S1 hS F.aK st d
  simp only[Dh,eS,ex] at Wb
  simp only[ZG,seval,Bool.false_and,Prod.mk.injEq,sG,EX,dT,hs.tables,Vz,decide_true,decide_false,e2,hs.tree,mA _ _ hs.nn,kp,mA _ _ Hz,e3,Wb,hs.bY];have EY:S1.dQ.bY=ov aH v.O:=by rw[eS];exact hs.bY
  refine nJ (fun m st=>∃k:Nat,(st.env 3=.ptr 3 0 0∧st.heap 3 0=some (.cells (aB S1))∧st.env 6=.ptr 6 0 0∧st.heap 6 0=some (.cells (aB gE))∧st.env 11=.v (.int .u64 x)∧st.env 14=.v (.int .i64 k))∧(((((ol v.O).take k).filter (fun b=>decide (x<b.slot)))=[]∧st.env 13=.v (.slice none 0 0))∨((((ol v.O).take k).filter (fun b=>decide (x<b.slot)))≠[]∧∃g,st.env 13=.own 99 g∧g<st.aO 99∧st.heap 99 g=some (.row 74 238 (((ol v.O).take k).filter (fun b=>decide (x<b.slot))).length (aH (((ol v.O).take k).filter (fun b=>decide (x<b.slot)))))))∧k≤(ol v.O).length∧m=(ol v.O).length-k)
   (fun e st=>e=.exit 0∧(((((ol v.O).take (ol v.O).length).filter (fun b=>decide (x<b.slot)))=[]∧st.env 13=.v (.slice none 0 0))∨((((ol v.O).take (ol v.O).length).filter (fun b=>decide (x<b.slot)))≠[]∧∃g,st.env 13=.own 99 g∧g<st.aO 99∧st.heap 99 g=some (.row 74 238 (((ol v.O).take (ol v.O).length).filter (fun b=>decide (x<b.slot))).length (aH (((ol v.O).take (ol v.O).length).filter (fun b=>decide (x<b.slot)))))))∧st.env 3=.ptr 3 0 0∧st.heap 3 0=some (.cells (aB S1))∧st.env 6=.ptr 6 0 0∧st.heap 6 0=some (.cells (aB gE))∧st.env 11=.v (.int .u64 x)) ((ol v.O).length) ?step ?start ?rest
  case step =>
   rintro m st ⟨k,hI,h5,hk,hm⟩
   have Df:(((((ol v.O).take k).filter (fun b=>decide (x<b.slot))).length:Nat):Int)<1000000:=by have:=List.length_filter_le (fun b=>decide (x<b.slot)) ((ol v.O).take k);have h2:=List.length_take_le' k (ol v.O);omega
   by_cases bA:(k:Int)<(ol v.O).length
   ·have q0:(0:Int)≤k:=by omega
    have hw:IntKind.i64.wrap ((k:Int)+1)=((k+1:Nat):Int):=by rw[pV _ (by omega) (by omega)];omega
    have hs:=xQ eQ (fun b=>decide (x<b.slot)) (ol v.O) k (by omega)
    by_cases hh:x<(gx eQ (ol v.O) (k:Int)).slot
    ·rw[if_pos (decide_eq_true hh)] at hs;rcases h5 with ⟨hy,h5⟩|⟨hy,g,h5⟩
     ·rw[hy] at hs;apply Fl ((ol v.O).length-(k+1))
      ·simp only[ZG,seval,Bool.false_and,Prod.mk.injEq,hI,h5,bA,hw,q0,sG,EY,hh];rfl
      ·exact⟨k+1,by simp only[E8,seval,hI],.inr ⟨by rw[hs];simp,_,by simp only[E8,seval]<;>rfl,(by simp only[E8,seval]<;>omega),(by rw[hs];simp only[E8,seval]<;>rfl)⟩,by omega,rfl⟩
     ·apply Fl ((ol v.O).length-(k+1))
      ·simp only[ZG,seval,Bool.false_and,Prod.mk.injEq,hI,h5,Df,bA,hw,q0,sG,EY,hh];rfl
      ·exact⟨k+1,by simp only[E8,seval,hI],.inr ⟨by rw[hs];simp,_,by simp only[E8,seval]<;>rfl,(by simp only[E8,seval]<;>omega),(by rw[hs];simp only[E8,seval]<;>rfl)⟩,by omega,rfl⟩
    ·rw[if_neg (by simpa using hh),List.append_nil] at hs
     apply Fl ((ol v.O).length-(k+1))
     ·simp only[ZG,seval,Bool.false_and,Prod.mk.injEq,hI,bA,hw,q0,sG,EY,hh];rfl
     ·exact⟨k+1,by simp only[E8,seval,hI],by rw[hs];simpa only[E8,seval] using h5,by omega,rfl⟩
   ·have De:k=(ol v.O).length:=by omega
    rw[De] at h5;apply QN (.exit 0)
    ·simp only[ZG,seval,Bool.false_and,Prod.mk.injEq,hI,bA,sG,EY];rfl
    ·exact⟨rfl,by simpa only[E8,seval] using h5,by simp only[E8,seval,hI]⟩
  case start=>exact⟨0,by simp only[E8,seval,eS]<;>rfl,.inl ⟨rfl,by simp only[E8,seval]⟩,by omega,by omega⟩
  case rest =>
   rintro e st ⟨rfl,⟨hy,h5⟩|⟨hy,g,h5,hg,xO⟩,hI⟩
   ·rw[List.take_length] at hy;rw[show nz ((ol v.O).filter fun b=>decide (x<b.slot))=none from if_pos hy] at hv
    rw[eS] at hI;simp only[ZG,seval,Bool.false_and,Prod.mk.injEq,sG,h5,hI];exact⟨_,eU rfl (by simp only[E8,seval,hI,lO,and_self]<;>rfl) (by simp only[Z8,seval,hI,lO,and_self]<;>rfl) (by simp only[dU,and_self,hI,lO,and_self]),by rw[hv];rfl⟩
   ·rw[List.take_length] at hy xO;rw[show nz ((ol v.O).filter fun b=>decide (x<b.slot))=some ((ol v.O).filter fun b=>decide (x<b.slot)) from if_neg hy] at hv
    rw[eS] at hI;simp only[ZG,seval,Bool.false_and,Prod.mk.injEq,sG,h5,xO,hI];exact⟨_,by apply dY;rfl;all_goals simp only[aI,Z8,seval,hI,xO,lO,bO,gB,bC,cE,tK,dU]<;>rfl,by rw[hv];rfl⟩
 ·have hz:(nz (xR (ol v.T) J.aK))=some (xR (ol v.T) J.aK):=if_neg e1
  rw[show Mv 118 34 aR (xR (ol v.T) J.aK)=.uniq 118 34 (xR (ol v.T) J.aK).length (aR (xR (ol v.T) J.aK)) from if_neg e1] at aA6;have Vz:∀(st:St),aP (aD Tryz.prog) 128 [ov aR v.T,.v (.int .u64 J.aK)] st (some 30)=_:=fun st=>iW (st:=st) (d:=30) (bI hs.fT (.v _)) aA6
  have QO:∀t∈xR (ol v.T) J.aK,Flat t.jH:=fun t m=>(hs.tB t (List.mem_filter.1 m).1).fl
  have hex:=Mz (xR (ol v.T) J.aK).length (xR (ol v.T) J.aK) QO
  by_cases e2:F=s.bH.fin
  ·rw[if_pos e2,hz] at hv;subst e2;simp only[ZG,seval,Bool.false_and,Prod.mk.injEq,sG,EX,dT,hs.tables,Vz,decide_true,decide_false];exact⟨_,by apply dY;rfl;all_goals simp only[aI,Z8,seval,lO,bO,gB,bC,cE,hex]<;>rfl,by rw[hv];rfl⟩
  rw[if_neg e2,hz] at hv;obtain⟨Wa,en⟩:∃Wa,(oA v.ns (aM v.ns F.root) v.ns.length).1=Wa:=⟨_,rfl⟩
  have Hz:(Wa.length:Int)<1000000:=by have:=EW (ns:=v.ns) (aM v.ns F.root);have:=hs.nn;rw[← en];omega
  unfold aAT at kp;rw[en] at kp hv;obtain⟨x,ex⟩:∃x,(JV F.aK s.cFg.qG).1=x:=⟨_,rfl⟩
  rw[show (Dh s F.aK).1=x from ex] at hv;by_cases e3:aM Wa s.hU<0
  ·rw[if_pos e3] at hv;obtain⟨S1,eS⟩:∃S1:aN,S1={ cFg:=s.cFg,fY:=s.fY,bH:=⟨J,F⟩,dQ:=s.dQ,tree:=⟨.sl Wa.length (bZ Wa)⟩,now:=s.now,hU:=dI,tables:=.own 30 0 }:=⟨_,rfl⟩
   have hS:∀st:St,st.heap 30 0=some (.row 118 34 (xR (ol v.T) J.aK).length (aR (xR (ol v.T) J.aK)))→eT st (.agg (aB S1))=some (.agg (aB { S1 with tables:=.sl (xR (ol v.T) J.aK).length (aR (xR (ol v.T) J.aK))})):=by
    intro st h;rw[eS];simp only[bO,gB,bC,h,hex,cE,dU,lO,cT]
   have Wb:∀(st:St) (d:Option Nat),st.heap 30 0=some (.row 118 34 (xR (ol v.T) J.aK).length (aR (xR (ol v.T) J.aK)))→aP (aD Tryz.prog) 99 [.agg (aB S1),.v (.int .u64 F.aK)] st d=some { dst:=d,val:=.eB [.v (.int .u64 (Dh S1 F.aK).1),.v (.bool ((Dh S1 F.aK).2 == 0))]}:=by
    intro st d h;rw[lC,List.map_cons,List.map_cons,List.map_nil,hS st h,Pw,bK,bK,gC];exact ZF (c99 _ F.aK) (by intro x hx;simp only[List.mem_cons,List.not_mem_nil,or_false] at hx;rcases hx with rfl|rfl<;>exact .v _) (.eB _ (bI (.v _) (.v _)))
   simp only[Dh,eS,ex] at Wb
   simp only[ZG,seval,Bool.false_and,Prod.mk.injEq,sG,EX,dT,hs.tables,Vz,decide_true,decide_false,e2,hs.tree,mA _ _ hs.nn,kp,mA _ _ Hz,e3,Wb,hs.bY];have EY:S1.dQ.bY=ov aH v.O:=by rw[eS];exact hs.bY
   refine nJ (fun m st=>∃k:Nat,(st.env 3=.ptr 3 0 0∧st.heap 3 0=some (.cells (aB S1))∧st.env 6=.ptr 6 0 0∧st.heap 6 0=some (.cells (aB gE))∧st.env 11=.v (.int .u64 x)∧st.heap 30 0=some (.row 118 34 (xR (ol v.T) J.aK).length (aR (xR (ol v.T) J.aK)))∧st.env 14=.v (.int .i64 k))∧(((((ol v.O).take k).filter (fun b=>decide (x<b.slot)))=[]∧st.env 13=.v (.slice none 0 0))∨((((ol v.O).take k).filter (fun b=>decide (x<b.slot)))≠[]∧∃g,st.env 13=.own 99 g∧g<st.aO 99∧st.heap 99 g=some (.row 74 238 (((ol v.O).take k).filter (fun b=>decide (x<b.slot))).length (aH (((ol v.O).take k).filter (fun b=>decide (x<b.slot)))))))∧k≤(ol v.O).length∧m=(ol v.O).length-k)
    (fun e st=>e=.exit 0∧(((((ol v.O).take (ol v.O).length).filter (fun b=>decide (x<b.slot)))=[]∧st.env 13=.v (.slice none 0 0))∨((((ol v.O).take (ol v.O).length).filter (fun b=>decide (x<b.slot)))≠[]∧∃g,st.env 13=.own 99 g∧g<st.aO 99∧st.heap 99 g=some (.row 74 238 (((ol v.O).take (ol v.O).length).filter (fun b=>decide (x<b.slot))).length (aH (((ol v.O).take (ol v.O).length).filter (fun b=>decide (x<b.slot)))))))∧st.env 3=.ptr 3 0 0∧st.heap 3 0=some (.cells (aB S1))∧st.env 6=.ptr 6 0 0∧st.heap 6 0=some (.cells (aB gE))∧st.env 11=.v (.int .u64 x)∧st.heap 30 0=some (.row 118 34 (xR (ol v.T) J.aK).length (aR (xR (ol v.T) J.aK)))) ((ol v.O).length) ?step ?start ?rest
   case step =>
    rintro m st ⟨k,hI,h5,hk,hm⟩
    have Df:(((((ol v.O).take k).filter (fun b=>decide (x<b.slot))).length:Nat):Int)<1000000:=by have:=List.length_filter_le (fun b=>decide (x<b.slot)) ((ol v.O).take k);have h2:=List.length_take_le' k (ol v.O);omega
    by_cases bA:(k:Int)<(ol v.O).length
    ·have q0:(0:Int)≤k:=by omega
     have hw:IntKind.i64.wrap ((k:Int)+1)=((k+1:Nat):Int):=by rw[pV _ (by omega) (by omega)];omega
     have hs:=xQ eQ (fun b=>decide (x<b.slot)) (ol v.O) k (by omega)
     by_cases hh:x<(gx eQ (ol v.O) (k:Int)).slot
     ·rw[if_pos (decide_eq_true hh)] at hs;rcases h5 with ⟨hy,h5⟩|⟨hy,g,h5⟩
      ·rw[hy] at hs;apply Fl ((ol v.O).length-(k+1))
       ·simp only[ZG,seval,Bool.false_and,Prod.mk.injEq,hI,h5,bA,hw,q0,sG,EY,hh];rfl
       ·exact⟨k+1,by simp only[E8,seval,hI],.inr ⟨by rw[hs];simp,_,by simp only[E8,seval]<;>rfl,(by simp only[E8,seval]<;>omega),(by rw[hs];simp only[E8,seval]<;>rfl)⟩,by omega,rfl⟩
      ·apply Fl ((ol v.O).length-(k+1))
       ·simp only[ZG,seval,Bool.false_and,Prod.mk.injEq,hI,h5,Df,bA,hw,q0,sG,EY,hh];rfl
       ·exact⟨k+1,by simp only[E8,seval,hI],.inr ⟨by rw[hs];simp,_,by simp only[E8,seval]<;>rfl,(by simp only[E8,seval]<;>omega),(by rw[hs];simp only[E8,seval]<;>rfl)⟩,by omega,rfl⟩
     ·rw[if_neg (by simpa using hh),List.append_nil] at hs
      apply Fl ((ol v.O).length-(k+1))
      ·simp only[ZG,seval,Bool.false_and,Prod.mk.injEq,hI,bA,hw,q0,sG,EY,hh];rfl
      ·exact⟨k+1,by simp only[E8,seval,hI],by rw[hs];simpa only[E8,seval] using h5,by omega,rfl⟩
    ·have De:k=(ol v.O).length:=by omega
     rw[De] at h5;apply QN (.exit 0)
     ·simp only[ZG,seval,Bool.false_and,Prod.mk.injEq,hI,bA,sG,EY];rfl
     ·exact⟨rfl,by simpa only[E8,seval] using h5,by simp only[E8,seval,hI]⟩
   case start=>exact⟨0,by simp only[E8,seval,eS]<;>rfl,.inl ⟨rfl,by simp only[E8,seval]⟩,by omega,by omega⟩
   case rest =>
    rintro e st ⟨rfl,⟨hy,h5⟩|⟨hy,g,h5,hg,xO⟩,hI⟩
    ·rw[List.take_length] at hy;rw[show nz ((ol v.O).filter fun b=>decide (x<b.slot))=none from if_pos hy] at hv
     rw[eS] at hI;simp only[ZG,seval,Bool.false_and,Prod.mk.injEq,sG,h5,hI];exact⟨_,by apply dY;rfl;all_goals simp only[aI,Z8,seval,hI,lO,bO,gB,bC,cE,tK,dU,hex]<;>rfl,by rw[hv];rfl⟩
    ·rw[List.take_length] at hy xO;rw[show nz ((ol v.O).filter fun b=>decide (x<b.slot))=some ((ol v.O).filter fun b=>decide (x<b.slot)) from if_neg hy] at hv
     rw[eS] at hI;simp only[ZG,seval,Bool.false_and,Prod.mk.injEq,sG,h5,xO,hI];exact⟨_,by apply dY;rfl;all_goals simp only[aI,Z8,seval,hI,xO,lO,bO,gB,bC,cE,tK,dU,hex]<;>rfl,by rw[hv];rfl⟩
  rw[if_neg e3] at hv;obtain⟨S1,eS⟩:∃S1:aN,S1={ cFg:=s.cFg,fY:=s.fY,bH:=⟨J,F⟩,dQ:=s.dQ,tree:=⟨.sl Wa.length (bZ Wa)⟩,now:=s.now,hU:=s.hU,tables:=.own 30 0 }:=⟨_,rfl⟩
  have hS:∀st:St,st.heap 30 0=some (.row 118 34 (xR (ol v.T) J.aK).length (aR (xR (ol v.T) J.aK)))→eT st (.agg (aB S1))=some (.agg (aB { S1 with tables:=.sl (xR (ol v.T) J.aK).length (aR (xR (ol v.T) J.aK))})):=by
   intro st h;rw[eS];simp only[bO,gB,bC,h,hex,cE,dU,lO,cT]
  have Wb:∀(st:St) (d:Option Nat),st.heap 30 0=some (.row 118 34 (xR (ol v.T) J.aK).length (aR (xR (ol v.T) J.aK)))→aP (aD Tryz.prog) 99 [.agg (aB S1),.v (.int .u64 F.aK)] st d=some { dst:=d,val:=.eB [.v (.int .u64 (Dh S1 F.aK).1),.v (.bool ((Dh S1 F.aK).2 == 0))]}:=by
   intro st d h;rw[lC,List.map_cons,List.map_cons,List.map_nil,hS st h,Pw,bK,bK,gC];exact ZF (c99 _ F.aK) (by intro x hx;simp only[List.mem_cons,List.not_mem_nil,or_false] at hx;rcases hx with rfl|rfl<;>exact .v _) (.eB _ (bI (.v _) (.v _)))
  simp only[Dh,eS,ex] at Wb
  simp only[ZG,seval,Bool.false_and,Prod.mk.injEq,sG,EX,dT,hs.tables,Vz,decide_true,decide_false,e2,hs.tree,mA _ _ hs.nn,kp,mA _ _ Hz,e3,Wb,hs.bY];have EY:S1.dQ.bY=ov aH v.O:=by rw[eS];exact hs.bY
  refine nJ (fun m st=>∃k:Nat,(st.env 3=.ptr 3 0 0∧st.heap 3 0=some (.cells (aB S1))∧st.env 6=.ptr 6 0 0∧st.heap 6 0=some (.cells (aB gE))∧st.env 11=.v (.int .u64 x)∧st.heap 30 0=some (.row 118 34 (xR (ol v.T) J.aK).length (aR (xR (ol v.T) J.aK)))∧st.env 14=.v (.int .i64 k))∧(((((ol v.O).take k).filter (fun b=>decide (x<b.slot)))=[]∧st.env 13=.v (.slice none 0 0))∨((((ol v.O).take k).filter (fun b=>decide (x<b.slot)))≠[]∧∃g,st.env 13=.own 99 g∧g<st.aO 99∧st.heap 99 g=some (.row 74 238 (((ol v.O).take k).filter (fun b=>decide (x<b.slot))).length (aH (((ol v.O).take k).filter (fun b=>decide (x<b.slot)))))))∧k≤(ol v.O).length∧m=(ol v.O).length-k)
   (fun e st=>e=.exit 0∧(((((ol v.O).take (ol v.O).length).filter (fun b=>decide (x<b.slot)))=[]∧st.env 13=.v (.slice none 0 0))∨((((ol v.O).take (ol v.O).length).filter (fun b=>decide (x<b.slot)))≠[]∧∃g,st.env 13=.own 99 g∧g<st.aO 99∧st.heap 99 g=some (.row 74 238 (((ol v.O).take (ol v.O).length).filter (fun b=>decide (x<b.slot))).length (aH (((ol v.O).take (ol v.O).length).filter (fun b=>decide (x<b.slot)))))))∧st.env 3=.ptr 3 0 0∧st.heap 3 0=some (.cells (aB S1))∧st.env 6=.ptr 6 0 0∧st.heap 6 0=some (.cells (aB gE))∧st.env 11=.v (.int .u64 x)∧st.heap 30 0=some (.row 118 34 (xR (ol v.T) J.aK).length (aR (xR (ol v.T) J.aK)))) ((ol v.O).length) ?step ?start ?rest
  case step =>
   rintro m st ⟨k,hI,h5,hk,hm⟩
   have Df:(((((ol v.O).take k).filter (fun b=>decide (x<b.slot))).length:Nat):Int)<1000000:=by have:=List.length_filter_le (fun b=>decide (x<b.slot)) ((ol v.O).take k);have h2:=List.length_take_le' k (ol v.O);omega
   by_cases bA:(k:Int)<(ol v.O).length
   ·have q0:(0:Int)≤k:=by omega
    have hw:IntKind.i64.wrap ((k:Int)+1)=((k+1:Nat):Int):=by rw[pV _ (by omega) (by omega)];omega
    have hs:=xQ eQ (fun b=>decide (x<b.slot)) (ol v.O) k (by omega)
    by_cases hh:x<(gx eQ (ol v.O) (k:Int)).slot
    ·rw[if_pos (decide_eq_true hh)] at hs;rcases h5 with ⟨hy,h5⟩|⟨hy,g,h5⟩
     ·rw[hy] at hs;apply Fl ((ol v.O).length-(k+1))
      ·simp only[ZG,seval,Bool.false_and,Prod.mk.injEq,hI,h5,bA,hw,q0,sG,EY,hh];rfl
      ·exact⟨k+1,by simp only[E8,seval,hI],.inr ⟨by rw[hs];simp,_,by simp only[E8,seval]<;>rfl,(by simp only[E8,seval]<;>omega),(by rw[hs];simp only[E8,seval]<;>rfl)⟩,by omega,rfl⟩
     ·apply Fl ((ol v.O).length-(k+1))
      ·simp only[ZG,seval,Bool.false_and,Prod.mk.injEq,hI,h5,Df,bA,hw,q0,sG,EY,hh];rfl
      ·exact⟨k+1,by simp only[E8,seval,hI],.inr ⟨by rw[hs];simp,_,by simp only[E8,seval]<;>rfl,(by simp only[E8,seval]<;>omega),(by rw[hs];simp only[E8,seval]<;>rfl)⟩,by omega,rfl⟩
    ·rw[if_neg (by simpa using hh),List.append_nil] at hs
     apply Fl ((ol v.O).length-(k+1))
     ·simp only[ZG,seval,Bool.false_and,Prod.mk.injEq,hI,bA,hw,q0,sG,EY,hh];rfl
     ·exact⟨k+1,by simp only[E8,seval,hI],by rw[hs];simpa only[E8,seval] using h5,by omega,rfl⟩
   ·have De:k=(ol v.O).length:=by omega
    rw[De] at h5;apply QN (.exit 0)
    ·simp only[ZG,seval,Bool.false_and,Prod.mk.injEq,hI,bA,sG,EY];rfl
    ·exact⟨rfl,by simpa only[E8,seval] using h5,by simp only[E8,seval,hI]⟩
  case start=>exact⟨0,by simp only[E8,seval,eS]<;>rfl,.inl ⟨rfl,by simp only[E8,seval]⟩,by omega,by omega⟩
  case rest =>
   rintro e st ⟨rfl,⟨hy,h5⟩|⟨hy,g,h5,hg,xO⟩,hI⟩
   ·rw[List.take_length] at hy;rw[show nz ((ol v.O).filter fun b=>decide (x<b.slot))=none from if_pos hy] at hv
    rw[eS] at hI;simp only[ZG,seval,Bool.false_and,Prod.mk.injEq,sG,h5,hI];exact⟨_,by apply dY;rfl;all_goals simp only[aI,Z8,seval,hI,lO,bO,gB,bC,cE,tK,dU,hex]<;>rfl,by rw[hv];rfl⟩
   ·rw[List.take_length] at hy xO;rw[show nz ((ol v.O).filter fun b=>decide (x<b.slot))=some ((ol v.O).filter fun b=>decide (x<b.slot)) from if_neg hy] at hv
    rw[eS] at hI;simp only[ZG,seval,Bool.false_and,Prod.mk.injEq,sG,h5,xO,hI];exact⟨_,by apply dY;rfl;all_goals simp only[aI,Z8,seval,hI,xO,lO,bO,gB,bC,cE,tK,dU,hex]<;>rfl,by rw[hv];rfl⟩
theorem k61 {s:aN} {v:SV} (hs:SD s v) (hu:gU v.ns) (hp:s.cFg.qG≠0) (c1 c2:fK) (st:St) (d:Option Nat):aP (aD Tryz.prog) 61 [.agg (aB s),.agg (bV c1),.agg (bV c2)] st d=some { dst:=d,val:=.agg (aB (wL s v c1 c2))}:=bT (mC hs.flat (.agg _ (dA c1)) (.agg _ (dA c2))) (c61 hs hu hp c1 c2) (hs.dJ hu c1 c2).flat
end Go.Ab.Tryz
