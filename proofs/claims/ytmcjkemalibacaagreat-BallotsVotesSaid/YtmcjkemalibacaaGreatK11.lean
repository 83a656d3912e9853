/-
  Part 11 of the proof: an evaluator of programs, its soundness, and what functions of this program compute.
-/
import Derived.Test.YtmcjkemalibacaaGreatK10
import Derived.Test.YtmcjkemalibacaaGreatK9
set_option linter.all false
set_option maxRecDepth 20000
set_option maxHeartbeats 40000000
namespace Go.Ab.Tryz
open Classical Go.Proofs Go.Ab
theorem aOh (ns:List Node) (hu:fZ ns) (hr:(nd ns 0).up=-1) (hn:(ns.length:Int)<1000000) (i:Int) (v:gN) (l:List Int) (hl:(l.length:Int)<1000000) {kv:AV} (hkv:Vw kv l) :
 aB Tryz.prog 222 [.agg (cD ⟨ns⟩),.v (.int .i64 i),.agg (dG v),kv]=some (SI ns i v l):=by
 rw[cL Tryz.func222 rfl aJk (by rcases hkv with rfl|⟨rfl,rfl⟩<;>rfl)]
 have h86:=RA ns i
 unfold SI;by_cases hm:0≤i∧i<ns.length
 ·obtain⟨i0,i1⟩:=hm
  have hd:(decide (0≤i) && decide (i<(ns.length:Int)))=true:=by simp[i0,i1]
  rw[hd] at h86;rw[if_neg (by simp[i0,i1])]
  by_cases h1:v.kind=1
  ·rw[if_pos h1];have b1:(v.kind == 1)=true:=by simp[h1]
   have h96:=aJh ns hu hn i
   rcases l4 ns hn i with ⟨e,he⟩|⟨q,he,_⟩
   all_goals
    rw[he] at h96;rw[he];simp only[ZZ,seval,h86,b1,h96,dM];exact dC rfl (by simp only[bK,ZZ,seval];rfl) (by simp only[bK,EV,seval]<;>rfl) (by simp only[EV,seval]<;>rfl) (by simp only[EV,seval]<;>rfl)
  ·rw[if_neg h1];have b1:(v.kind == 1)=false:=by simp[h1]
   by_cases h2:v.kind=2
   ·rw[if_pos h2];have b2:(v.kind == 2)=true:=by simp[h2]
    have b3:(v.kind == 3)=false:=by simp[h2]
    have b4:(v.kind == 4)=false:=by simp[h2]
    have hRe:=aOg ns hu hr hn i v.dR
    have hfact:=SH hu hr i0 i1 v.dR
    have hv:=hkv.view
    have hix:=fun st (k:IntKind) (i:Int) h0 h1=>hkv.idx st (k:=k) (i:=i) h0 h1
    have h46:=rV ns hu hn
    unfold J3;obtain⟨a,ha⟩:∃a,(oO ns i v.dR).1=a:=⟨_,rfl⟩
    obtain⟨c,hc⟩:∃c,(oO ns i v.dR).2=c:=⟨_,rfl⟩
    rw[ha,hc] at hRe hfact;rw[ha,hc];simp only[ZZ,seval,h86,b1,b2,b3,b4,hRe,dM];refine jP (fun n st=>∃k:Nat,(st.env 3=kv∧st.env 4=.ptr 4 0 0∧st.heap 4 0=some (.cells (cD ⟨ns⟩))∧st.env 8=.ptr 8 0 0∧st.heap 8 0=some (.cells [.v (.slice none 0 0)])∧st.env 10=.v (.int .i64 a)∧st.env 11=.v (.int .i64 c)∧st.env 12=.v (.int .i64 k))∧(∀j:Int,0≤j→j<k→vE ns c (it l j)=false)∧k≤l.length∧n=l.length-k)
     (fun e st=>(e=.ret∧XK ns c l∧st.env 8=.ptr 8 0 0∧st.heap 8 0=some (.cells [.v (.slice none 0 0)])∧st.env 9=.v (.int .i64 21))∨(e=.exit 1∧¬XK ns c l∧st.env 4=.ptr 4 0 0∧st.heap 4 0=some (.cells (cD ⟨ns⟩))∧st.env 8=.ptr 8 0 0∧st.heap 8 0=some (.cells [.v (.slice none 0 0)])∧st.env 10=.v (.int .i64 a)∧st.env 11=.v (.int .i64 c))) l.length ?step ?start ?rest
    case step =>
     rintro n st ⟨k,hI,hj,hk,Gd⟩
     by_cases aZ:(k:Int)<l.length
     ·have q0:(0:Int)≤k:=by omega
      have hw:IntKind.i64.wrap ((k:Int)+1)=((k+1:Nat):Int):=by rw[Dl _ (by omega) (by omega)];omega
      cases hA:vE ns c (it l k)
      ·apply oN (l.length-(k+1))
       ·simp only[ZZ,seval,hI,aZ,q0,hv,hix,h46,hA,hw];rfl
       ·exact⟨k+1,by simp only[EV,seval,hI],fun j j0 j1=>by
        by_cases hjk:j<k
        ·exact hj j j0 hjk
        ·rw[show j=(k:Int) by omega];exact hA,by omega,rfl⟩
      ·apply oT (.ret)
       ·simp only[ZZ,seval,hI,aZ,q0,hv,hix,h46,hA];rfl
       ·exact .inl ⟨rfl,⟨_,yF q0 aZ,hA⟩,by simp only[EV,seval,hI],by simp only[EV,seval,hI],by simp only[EV,seval,hI]⟩
     ·obtain rfl:k=l.length:=by omega
      have hno:¬XK ns c l:=by
       rintro⟨x,hx,hxa⟩
       obtain⟨j,hj',rfl⟩:=List.getElem_of_mem hx
       have:=hj j (by omega) (by omega)
       rw[show it l (j:Int)=l[j] by simp[it,hj']] at this
       rw[this] at hxa;cases hxa
      apply oT (.exit 1)
      ·simp only[ZZ,seval,hI,hv,aZ];rfl
      ·exact .inr ⟨rfl,hno,by simp only[EV,seval,hI]⟩
    case start=>exact⟨0,by simp only[EV,seval],fun j _ _=>by omega,by omega,by omega⟩
    case rest =>
     rintro e st (⟨rfl,hk,hI⟩|⟨rfl,hk,hI⟩)
     ·rw[if_pos hk];simp only[ZZ,seval];exact dC rfl (by simp only[bK,ZZ,seval,hI];rfl) (by simp only[bK,EV,seval,hI]<;>rfl) (by simp only[EV,seval]<;>rfl) (by simp only[EV,seval]<;>rfl)
     ·rw[if_neg hk];by_cases h0:0≤a
      ·rw[if_pos h0];have mQ:a∈path ns i:=by
        rcases hfact.2 with h|h
        ·omega
        ·exact h.1
       obtain⟨_,a1⟩:=Us hu a mQ
       have h96:=aJh ns hu hn a
       rw[show G5 ns a=stA (raO ns a) from if_pos ⟨h0,a1⟩] at h96;cases ho:raO ns a with
       | none =>
         rw[ho] at h96;simp only[stA,AJ] at h96;simp only[ZZ,seval,hI,h0,h96,dM];exact dC rfl (by simp only[bK,ZZ,seval,hI];rfl) (by simp only[bK,EV,seval,hI]<;>rfl) (by simp only[EV,seval]<;>rfl) (by simp only[EV,seval]<;>rfl)
       | some r =>
         rw[ho] at h96;simp only[stA] at h96;have hR:=l5 hu ho
         have hu2:=hR.c.su.aOc hu
         have h97:=aJi r hu2 (by rw[hR.c.len];exact hn) c
         rcases DB r (by rw[hR.c.len];exact hn) c with ⟨e,he⟩|⟨q,he,_⟩
         all_goals
          rw[he] at h97;simp only[he];simp only[ZZ,seval,hI,h0,h96,h97,dM];exact dC rfl (by simp only[bK,ZZ,seval,hI];rfl) (by simp only[bK,EV,seval,hI]<;>rfl) (by simp only[EV,seval]<;>rfl) (by simp only[EV,seval]<;>rfl)
      ·rw[if_neg h0];have h97:=aJi ns hu hn c
       rcases DB ns hn c with ⟨e,he⟩|⟨q,he,_⟩
       all_goals
        rw[he] at h97;rw[he];simp only[ZZ,seval,hI,h0,h97,dM];exact dC rfl (by simp only[bK,ZZ,seval,hI];rfl) (by simp only[bK,EV,seval,hI]<;>rfl) (by simp only[EV,seval]<;>rfl) (by simp only[EV,seval]<;>rfl)
   ·rw[if_neg h2];have b2:(v.kind == 2)=false:=by simp[h2]
    by_cases h3:v.kind=3
    ·rw[if_pos (.inl h3)];have b3:(v.kind == 3)=true:=by simp[h3]
     simp only[ZZ,seval,h86,b1,b2,b3];exact dC rfl (by simp only[bK,ZZ,seval];rfl) (by simp only[bK,EV,seval]<;>rfl) (by simp only[EV,seval]<;>rfl) (by simp only[EV,seval]<;>rfl)
    ·have b3:(v.kind == 3)=false:=by simp[h3]
     by_cases h4:v.kind=4
     ·rw[if_pos (.inr h4)];have b4:(v.kind == 4)=true:=by simp[h4]
      simp only[ZZ,seval,h86,b1,b2,b3,b4];exact dC rfl (by simp only[bK,ZZ,seval];rfl) (by simp only[bK,EV,seval]<;>rfl) (by simp only[EV,seval]<;>rfl) (by simp only[EV,seval]<;>rfl)
     ·rw[if_neg (by omega)]
      have b4:(v.kind == 4)=false:=by simp[h4]
      simp only[ZZ,seval,h86,b1,b2,b3,b4];exact dC rfl (by simp only[bK,ZZ,seval];rfl) (by simp only[bK,EV,seval]<;>rfl) (by simp only[EV,seval]<;>rfl) (by simp only[EV,seval]<;>rfl)
 ·rw[if_pos hm];have hd:(decide (0≤i) && decide (i<(ns.length:Int)))=false:=by
   by_cases h0:0≤i
   ·have:¬i<ns.length:=fun h=>hm ⟨h0,h⟩
    simp[this]
   ·simp[h0]
  rw[hd] at h86;simp only[ZZ,seval,h86];exact dC rfl (by simp only[bK,ZZ,seval];rfl) (by simp only[bK,EV,seval]<;>rfl) (by simp only[EV,seval]<;>rfl) (by simp only[EV,seval]<;>rfl)
theorem xP (s:Config):Flat (.agg (bQ s))↔Flat s.iA:=by
 constructor
 ·intro h;have h:∀x∈bQ s,Flat x:=by cases h with|agg _ h=>exact h
  exact h _ (List.mem_of_getElem? (yI s))
 ·intro h0;exact .agg _ (tD s h0)
theorem Mx (s:tW):Flat (.agg (eW s))↔Flat s.dR∧Flat s.gT:=by
 constructor
 ·intro h;have h:∀x∈eW s,Flat x:=by cases h with|agg _ h=>exact h
  exact⟨h _ (List.mem_of_getElem? (uL s)),h _ (List.mem_of_getElem? (wL s))⟩
 ·rintro⟨h0,h1⟩
  exact .agg _ (pZ s h0 h1)
theorem DF (s:yJ):Flat (.agg (jQ s))↔Flat s.early∧Flat s.bS:=by
 constructor
 ·intro h;have h:∀x∈jQ s,Flat x:=by cases h with|agg _ h=>exact h
  exact⟨h _ (List.mem_of_getElem? (uM s)),h _ (List.mem_of_getElem? (rZ s))⟩
 ·rintro⟨h0,h1⟩
  exact .agg _ (My s h0 h1)
theorem KX (s:Fc):Flat (.agg (mD s))↔Flat s.nodes:=by
 constructor
 ·intro h;have h:∀x∈mD s,Flat x:=by cases h with|agg _ h=>exact h
  exact h _ (List.mem_of_getElem? (wM s))
 ·intro h0;exact .agg _ (vP s h0)
theorem Gr (s:aM):Flat (.agg (aA s))↔Flat s.cFg.iA∧Flat s.eZ.dR∧Flat s.eZ.gT∧Flat s.dZ.early∧Flat s.dZ.bS∧Flat s.tree.nodes∧Flat s.tables:=by
 constructor
 ·intro h;have h:∀x∈aA s,Flat x:=by cases h with|agg _ h=>exact h
  exact⟨h _ (List.mem_of_getElem? (qA s)),h _ (List.mem_of_getElem? (oP s)),h _ (List.mem_of_getElem? (pL s)),h _ (List.mem_of_getElem? (oQ s)),h _ (List.mem_of_getElem? (mR s)),h _ (List.mem_of_getElem? (qB s)),h _ (List.mem_of_getElem? (uN s))⟩
 ·rintro⟨h0,h1,h2,h3,h4,h5,h6⟩
  exact .agg _ (Sk s h0 h1 h2 h3 h4 h5 h6)
theorem tE (s:State):Flat (.agg (aP s))↔Flat s.store.cFg.iA∧Flat s.store.eZ.dR∧Flat s.store.eZ.gT∧Flat s.store.dZ.early∧Flat s.store.dZ.bS∧Flat s.store.tree.nodes∧Flat s.store.tables∧Flat s.iR∧Flat s.qN:=by
 constructor
 ·intro h;have h:∀x∈aP s,Flat x:=by cases h with|agg _ h=>exact h
  exact⟨h _ (List.mem_of_getElem? (qC s)),h _ (List.mem_of_getElem? (pA s)),h _ (List.mem_of_getElem? (pR s)),h _ (List.mem_of_getElem? (pB s)),h _ (List.mem_of_getElem? (nI s)),h _ (List.mem_of_getElem? (qD s)),h _ (List.mem_of_getElem? (tF s)),h _ (List.mem_of_getElem? (yK s)),h _ (List.mem_of_getElem? (Af s))⟩
 ·rintro⟨h0,h1,h2,h3,h4,h5,h6,h7,h8⟩
  exact .agg _ (KY s h0 h1 h2 h3 h4 h5 h6 h7 h8)
theorem qE (s:oY):Flat (.agg (eH s))↔Flat s.dX:=by
 constructor
 ·intro h;have h:∀x∈eH s,Flat x:=by cases h with|agg _ h=>exact h
  exact h _ (List.mem_of_getElem? (Ds s))
 ·intro h0;exact .agg _ (Qe s h0)
theorem yL (s:Claim):Flat (.agg (gM s))↔Flat s.dX:=by
 constructor
 ·intro h;have h:∀x∈gM s,Flat x:=by cases h with|agg _ h=>exact h
  exact h _ (List.mem_of_getElem? (tG s))
 ·intro h0;exact .agg _ (Gs s h0)
theorem mJ (s:fQ):Flat (.agg (bT s))↔Flat s.first.dX∧Flat s.second.dX:=by
 constructor
 ·intro h;have h:∀x∈bT s,Flat x:=by cases h with|agg _ h=>exact h
  exact⟨h _ (List.mem_of_getElem? (nJ s)),h _ (List.mem_of_getElem? (mS s))⟩
 ·rintro⟨h0,h1⟩
  exact .agg _ (Gt s h0 h1)
theorem jX (s:Table):Flat (.agg (bZ s))↔Flat s.iA:=by
 constructor
 ·intro h;have h:∀x∈bZ s,Flat x:=by cases h with|agg _ h=>exact h
  exact h _ (List.mem_of_getElem? (Bg s))
 ·intro h0;exact .agg _ (Gu s h0)
theorem SJ (s:wH):Flat (.agg (kI s))↔Flat s.Ft.dX∧Flat s.oG.first.dX∧Flat s.oG.second.dX∧Flat s.table.iA:=by
 constructor
 ·intro h;have h:∀x∈kI s,Flat x:=by cases h with|agg _ h=>exact h
  exact⟨h _ (List.mem_of_getElem? (Cd s)),h _ (List.mem_of_getElem? (rI s)),h _ (List.mem_of_getElem? (qX s)),h _ (List.mem_of_getElem? (Ag s))⟩
 ·rintro⟨h0,h1,h2,h3⟩
  exact .agg _ (l8 s h0 h1 h2 h3)
theorem aFe (x:Value):Flat (.v x)=True:=eq_true (.v x)
theorem KZ (o:Option (List Int)):Flat (ov bH o)=True:=eq_true (dU o)
theorem LA (o:Option (List Int)):Flat (ov aH o)=True:=eq_true (bE o)
theorem DG (o:Option (List iV)):Flat (ov bW o)=True:=eq_true (qF o)
theorem Vx (o:Option (List Block)):Flat (ov aL o)=True:=eq_true (Dt o)
theorem Mz (o:Option (List Request)):Flat (ov aD o)=True:=eq_true (iS o)
theorem LB (n:Nat) (o:List Int):Flat (.sl n (bH o))=True:=eq_true (.sl _ _ (iD o))
theorem LC (n:Nat) (o:List Int):Flat (.sl n (aH o))=True:=eq_true (.sl _ _ (gB o))
theorem DH (n:Nat) (o:List iV):Flat (.sl n (bW o))=True:=eq_true (.sl _ _ (qG o))
theorem Vy (n:Nat) (o:List Block):Flat (.sl n (aL o))=True:=eq_true (.sl _ _ (qO o))
theorem Na (n:Nat) (o:List Request):Flat (.sl n (aD o))=True:=eq_true (.sl _ _ (tH o))
theorem DI (n:Nat) (o:List Node):Flat (.sl n (cF o))=True:=eq_true (.sl _ _ (kN o))
theorem XL (r:bX):Flat (.agg (aY r))=True:=eq_true (pY r)
theorem LD (r:Block):Flat (.agg (aU r))=True:=eq_true (tV r)
theorem XM (r:qP):Flat (.agg (fY r))=True:=eq_true (.agg _ (iE r))
theorem Ah (r:fB):Flat (.agg (bV r))=True:=eq_true (.agg _ (cT r))
theorem J4 (r:Request):Flat (.agg (cX r))=True:=eq_true (.agg _ (jL r))
theorem Vz (r:gN):Flat (.agg (dG r))=True:=eq_true (.agg _ (jM r))
theorem DJ (r:oR):Flat (.agg (fD r))=True:=eq_true (.agg _ (Du r))
theorem LF (x:AV):Flat (.agg [x])↔Flat x:=by
 constructor
 ·intro h;cases h with|agg _ h=>exact h x (by simp)
 ·intro h;exact .agg _ (by simpa using h)
theorem eA:(type_of% aFe)∧(type_of% KZ)∧(type_of% LA)∧(type_of% DG)∧(type_of% Vx)∧(type_of% Mz)∧(type_of% LB)∧(type_of% LC)∧(type_of% DH)∧(type_of% Vy)∧(type_of% Na)∧(type_of% DI)∧(type_of% XL)∧(type_of% LD)∧(type_of% XM)∧(type_of% Ah)∧(type_of% J4)∧(type_of% Vz)∧(type_of% DJ)∧(type_of% LF)∧(type_of% xP)∧(type_of% Mx)∧(type_of% DF)∧(type_of% KX)∧(type_of% Gr)∧(type_of% tE)∧(type_of% qE)∧(type_of% yL)∧(type_of% mJ)∧(type_of% jX)∧(type_of% SJ) :=
 ⟨aFe,KZ,LA,DG,Vx,Mz,LB,LC,DH,Vy,Na,DI,XL,LD,XM,Ah,J4,Vz,DJ,LF,xP,Mx,DF,KX,Gr,tE,qE,yL,mJ,jX,SJ⟩
structure SV where
 B:Option (List Int)
 L:Option (List iV)
 Q:Option (List Int)
 E:Option (List oY)
 O:Option (List Block)
 T:Option (List Table)
 ns:List Node
def Ce (a:oY):Prop:=∃V:Option (List Int),a.dX=ov aH V∧((ol V).length:Int)<1000000
def rK (t:Table):Prop:=∃b:Option (List Int),t.iA=ov bH b∧((ol b).length:Int)<1000000
structure SD (s:aM) (v:SV):Prop where
 iA:s.cFg.iA=ov bH v.B
 dR:s.eZ.dR=ov bW v.L
 gT:s.eZ.gT=ov aH v.Q
 early:s.dZ.early=ov dO v.E
 bS:s.dZ.bS=ov aL v.O
 tree:s.tree=⟨.sl v.ns.length (cF v.ns)⟩
 tables:s.tables=ov aR v.T
 eV:∀a∈ol v.E,Ce a
 tB:∀t∈ol v.T,rK t
 nB:((ol v.B).length:Int)<1000000
 nL:((ol v.L).length:Int)<1000000
 nQ:((ol v.Q).length:Int)<1000000
 nE:((ol v.E).length:Int)<1000000
 nO:((ol v.O).length:Int)<1000000
 nT:((ol v.T).length:Int)<1000000
 nn:(v.ns.length:Int)<1000000
theorem Ce.fl {a:oY} (h:Ce a):Flat a.dX:=by obtain⟨V,h,_⟩:=h;rw[h];exact bE V
theorem rK.fl {a:Table} (h:rK a):Flat a.iA:=by obtain⟨V,h,_⟩:=h;rw[h];exact dU V
theorem SD.fE {s:aM} {v:SV} (h:SD s v):Flat (ov dO v.E):=Wa v.E fun a ha=>(h.eV a ha).fl
theorem SD.fT {s:aM} {v:SV} (h:SD s v):Flat (ov aR v.T):=lG v.T fun a ha=>(h.tB a ha).fl
theorem SD.flat {s:aM} {v:SV} (h:SD s v):Flat (.agg (aA s)):=by
 rw[Gr,h.iA,h.dR,h.gT,h.early,h.bS,h.tree,h.tables];exact⟨dU _,qF _,bE _,h.fE,Dt _,.sl _ _ (kN _),h.fT⟩
theorem c97 {s:aM} {v:SV} (hs:SD s v):aB Tryz.prog 97 [.agg (aA s)]=some (.v (.int .i64 (ol v.B).length)):=by
 rw[cL Tryz.func97 rfl aOj rfl];simp only[Z8,seval,hs.iA];exact bP rfl (by simp only[E8,seval]<;>rfl) (.v _)
theorem Wb {s:aM} {v:SV} (hs:SD s v) (st:St) (d:Option Nat):aN (aB Tryz.prog) 97 [.agg (aA s)] st d=some { dst:=d,val:=.v (.int .i64 (ol v.B).length)}:=bF (cK hs.flat) (c97 hs) (.v _)
noncomputable def mO (s:aM) (x:Int):Int:=IntKind.u64.wrap (x.tdiv s.cFg.jK)
theorem c98 (s:aM) (h:s.cFg.jK≠0) (x:Int):aB Tryz.prog 98 [.agg (aA s),.v (.int .u64 x)]=some (.v (.int .u64 (mO s x))):=by
 rw[cL Tryz.func98 rfl aOk rfl];have h0:(s.cFg.jK=0)=False:=eq_false h
 simp only[Z8,seval,h0];exact bP rfl (by simp only[E8,seval,mO]<;>rfl) (.v _)
theorem sA (s:aM) (h:s.cFg.jK≠0) (hf:Flat (.agg (aA s))) (x:Int) (st:St) (d:Option Nat):aN (aB Tryz.prog) 98 [.agg (aA s),.v (.int .u64 x)] st d=some { dst:=d,val:=.v (.int .u64 (mO s x))}:=bF (bA hf (.v _)) (c98 s h x) (.v _)
noncomputable def wN (s:aM) (e:Int):Int × Int:=Kp e s.cFg.jK
theorem c99 (s:aM) (x:Int):aB Tryz.prog 99 [.agg (aA s),.v (.int .u64 x)]=some (.eE [.v (.int .u64 (wN s x).1),.v (.bool ((wN s x).2 == 0))]):=by
 rw[cL Tryz.func99 rfl aOm rfl];simp only[Z8,seval,aNK,dM];exact dC rfl rfl rfl (by simp only[E8,seval,wN]<;>rfl) (by simp only[E8,seval,wN]<;>rfl)
theorem Ut (s:aM) (hf:Flat (.agg (aA s))) (x:Int) (st:St) (d:Option Nat):aN (aB Tryz.prog) 99 [.agg (aA s),.v (.int .u64 x)] st d=some { dst:=d,val:=.eE [.v (.int .u64 (wN s x).1),.v (.bool ((wN s x).2 == 0))]}:=bF (bA hf (.v _)) (c99 s x) (.eE _ (bA (.v _) (.v _)))
theorem aOn {s:aM} {v:SV} (hs:SD s v) (i:Int):aB Tryz.prog 251 [.agg (aA s),.v (.int .i64 i)]=some (.v (.bool (decide (0≤i) && decide (i<v.ns.length)))):=by
 rw[cL Tryz.func251 rfl aJm rfl];by_cases h:0≤i
 all_goals
  simp only[Z8,seval,h,hs.tree,decide_true,decide_false,Bool.true_and,Bool.false_and];exact bP rfl (by simp only[E8,seval,h,decide_true,decide_false,Bool.true_and,Bool.false_and]<;>rfl) (.v _)
theorem Wc {s:aM} {v:SV} (hs:SD s v) (i:Int) (st:St) (d:Option Nat):aN (aB Tryz.prog) 251 [.agg (aA s),.v (.int .i64 i)] st d=some { dst:=d,val:=.v (.bool (decide (0≤i) && decide (i<v.ns.length)))}:=bF (bA hs.flat (.v _)) (aOn hs i) (.v _)
def J5 (s:aM) (b:Block):Prop:=b.fin.aI≤b.dS.aI∧b.dS.aI≤b.dV.pj.aI∧b.fin.aI≤b.dV.pf.aI∧b.dV.pf.aI≤b.dV.pj.aI∧b.dV.pj.aI≤mO s b.slot
theorem aOo (s:aM) (h:s.cFg.jK≠0) (hf:Flat (.agg (aA s))) (b:Block):aB Tryz.prog 137 [.agg (aA s),.agg (aU b)]=some (.v (.bool (decide (J5 s b)))):=by
 rw[cL Tryz.func137 rfl aJn rfl];have h98:=sA s h hf
 unfold J5;by_cases h1:b.fin.aI≤b.dS.aI
 ·by_cases h2:b.dS.aI≤b.dV.pj.aI
  ·by_cases h3:b.fin.aI≤b.dV.pf.aI
   ·by_cases h4:b.dV.pf.aI≤b.dV.pj.aI
    ·simp only[*,true_and,false_and,and_true,and_false,decide_true,decide_false];simp only[Z8,seval, *];exact bP rfl (by simp only[E8,seval, *]<;>rfl) (.v _)
    ·simp only[*,true_and,false_and,and_true,and_false,decide_true,decide_false];simp only[Z8,seval, *];exact bP rfl (by simp only[E8,seval, *]<;>rfl) (.v _)
   ·simp only[*,true_and,false_and,and_true,and_false,decide_true,decide_false];simp only[Z8,seval, *];exact bP rfl (by simp only[E8,seval, *]<;>rfl) (.v _)
  ·simp only[*,true_and,false_and,and_true,and_false,decide_true,decide_false];simp only[Z8,seval, *];exact bP rfl (by simp only[E8,seval, *]<;>rfl) (.v _)
 ·simp only[*,true_and,false_and,and_true,and_false,decide_true,decide_false];simp only[Z8,seval, *];exact bP rfl (by simp only[E8,seval, *]<;>rfl) (.v _)
theorem aJo (s:aM) (h:s.cFg.jK≠0) (hf:Flat (.agg (aA s))) (b:Block) (st:St) (d:Option Nat):aN (aB Tryz.prog) 137 [.agg (aA s),.agg (aU b)] st d=some { dst:=d,val:=.v (.bool (decide (J5 s b)))}:=bF (bA hf (tV _)) (aOo s h hf b) (.v _)
noncomputable def Qf (s:aM) (ns:List Node) (i e:Int):Prop:=(wN s e).2≠0∨(nd ns i).block.slot≤(wN s e).1
theorem aOp {s:aM} {v:SV} (hs:SD s v) (i e:Int) (i0:0≤i) (i1:i<v.ns.length):aB Tryz.prog 122 [.agg (aA s),.v (.int .i64 i),.v (.int .u64 e)]=some (.v (.bool (decide (Qf s v.ns i e)))):=by
 rw[cL Tryz.func122 rfl aJp rfl];unfold Qf;by_cases h:(wN s e).2=0
 ·have hq:((wN s e).2 == 0)=true:=by simp[h]
  simp only[h,ne_eq,not_true_eq_false,false_or];simp only[Z8,seval,Ut s hs.flat,dM,hq,hs.tree,i0,i1];exact bP rfl (by simp only[E8,seval]<;>rfl) (.v _)
 ·have hq:((wN s e).2 == 0)=false:=by simp[h]
  simp only[h,ne_eq,not_false_eq_true,true_or,decide_true];simp only[Z8,seval,Ut s hs.flat,dM,hq,hs.tree,i0,i1];exact bP rfl (by simp only[E8,seval]<;>rfl) (.v _)
theorem LG {s:aM} {v:SV} (hs:SD s v) (i e:Int) (i0:0≤i) (i1:i<v.ns.length) (st:St) (d:Option Nat):aN (aB Tryz.prog) 122 [.agg (aA s),.v (.int .i64 i),.v (.int .u64 e)] st d=some { dst:=d,val:=.v (.bool (decide (Qf s v.ns i e)))}:=bF (mW hs.flat (.v _) (.v _)) (aOp hs i e i0 i1) (.v _)
theorem pV (x:Int) (h1:-9223372036854775808≤x) (h2:x≤9223372036854775807):IntKind.i64.wrap x=x:=wrap_i64 x h1 h2
theorem xQ {α:Type} (z:α) (p:α→Bool) (l:List α) (k:Nat) (h:k<l.length):(l.take (k+1)).filter p=(l.take k).filter p++if p (gx z l k)=true then [gx z l k] else []:=by
 have hg:gx z l k=l[k]:=by simp[gx,h]
 rw[List.take_succ_eq_append_getElem h,List.filter_append,hg];congr 1
 by_cases hp:p l[k]=true<;>simp[hp]
noncomputable def Ji (p:Nat→Prop):Nat→Int
 | 0=>-1
 | k+1=>if 0≤Ji p k then Ji p k else if p k then k else -1
theorem sM {p:Nat→Prop}:∀n:Nat,(∀j,j<n→¬p j)→Ji p n=-1
 | 0,_=>rfl
 | n+1,h=>by
   simp only[Ji];rw[sM n fun j hj=>h j (by omega),if_neg (by omega),if_neg (h n (by omega))]
theorem Iq {p:Nat→Prop} {k:Nat} (hk:p k) (hj:∀j,j<k→¬p j):∀n:Nat,k<n→Ji p n=k
 | 0,h=>by omega
 | n+1,h=>by
   simp only[Ji];by_cases Ez:k=n
   ·subst Ez;rw[sM k hj,if_neg (by omega),if_pos hk]
   ·rw[Iq hk hj n (by omega),if_pos (by omega)]
theorem Dv (p:Nat→Prop) (n:Nat):(Ji p n=-1∧∀j,j<n→¬p j)∨∃k:Nat,k<n∧p k∧(∀j,j<k→¬p j)∧Ji p n=k:=by
 by_cases h:∃k,k<n∧p k
 ·obtain⟨k,⟨hk,hp⟩,hm⟩:=Dw h
  have hj:∀j,j<k→¬p j:=fun j hj hpj=>by have:=hm j ⟨by omega,hpj⟩;omega
  exact .inr ⟨k,hk,hp,hj,Iq hp hj n hk⟩
 ·have h':∀j,j<n→¬p j:=fun j hj hp=>h ⟨j,hj,hp⟩
  exact .inl ⟨sM n h',h'⟩
theorem SK (p:Nat→Prop) (n:Nat):-1≤Ji p n∧Ji p n<n:=by
 rcases Dv p n with ⟨h,_⟩|⟨k,hk,_,_,h⟩<;>rw[h]<;>omega
noncomputable def SL (l:List Table) (c:fB):Int:=Ji (fun k=>(gx iT l k).ck=c) l.length
theorem c65 (o:Option (List Table)) (hn:((ol o).length:Int)<1000000) (c:fB):aB Tryz.prog 65 [ov aR o,.agg (bV c)]=some (.v (.int .i64 (SL (ol o) c))):=by
 rw[cL Tryz.func65 rfl aOq (by cases o<;>rfl)]
 simp only[Z8,seval];refine jP (fun m st=>∃k:Nat,(st.env 0=ov aR o∧st.env 3=.ptr 3 0 0∧st.heap 3 0=some (.cells (bV c))∧st.env 5=.v (.int .i64 k))∧(∀j:Nat,j<k→¬((gx iT (ol o) (j:Int)).ck=c))∧k≤(ol o).length∧m=(ol o).length-k)
  (fun e st=>(e=.ret∧∃k:Nat,k<(ol o).length∧((gx iT (ol o) (k:Int)).ck=c)∧(∀j:Nat,j<k→¬((gx iT (ol o) (j:Int)).ck=c))∧st.env 4=.v (.int .i64 (k:Nat)))∨(e=.exit 0∧(∀j:Nat,j<(ol o).length→¬((gx iT (ol o) (j:Int)).ck=c))∧st.env 0=ov aR o∧st.env 3=.ptr 3 0 0∧st.heap 3 0=some (.cells (bV c)))) ((ol o).length) ?step ?start ?rest
 case step =>
  rintro m st ⟨k,hI,hj,hk,hm⟩
  by_cases aZ:(k:Int)<(ol o).length
  ·have q0:(0:Int)≤k:=by omega
   have hw:IntKind.i64.wrap ((k:Int)+1)=((k+1:Nat):Int):=by rw[pV _ (by omega) (by omega)];omega
   by_cases hh:(gx iT (ol o) (k:Int)).ck=c
   ·apply oT (.ret)
    ·simp only[Z8,seval,hI,aZ,q0,hh];rfl
    ·exact .inl ⟨rfl,k,by omega,hh,hj,by simp only[E8,seval]⟩
   ·apply oN ((ol o).length-(k+1))
    ·simp only[Z8,seval,hI,aZ,q0,hh,hw];rfl
    ·exact⟨k+1,by simp only[E8,seval,hI],fun j h=>(Nat.lt_succ_iff_lt_or_eq.1 h).elim (hj j) fun e=>by subst e;exact hh,by omega,rfl⟩
  ·apply oT (.exit 0)
   ·simp only[Z8,seval,hI,aZ];rfl
   ·exact .inr ⟨rfl,fun j h=>hj j (by omega),by simp only[E8,seval,hI]⟩
 case start=>exact⟨0,by simp only[E8,seval]<;>rfl,fun j h=>by omega,by omega,by omega⟩
 case rest =>
  rintro e st (⟨rfl,k,hk,hh,hj,h⟩|⟨rfl,hj,h⟩)
  ·have hv:SL (ol o) c=k:=Iq hh hj _ hk
   simp only[Z8,seval];exact bP rfl (by simp only[E8,seval,h,hv]<;>rfl) (.v _)
  ·have hv:SL (ol o) c=-1:=sM _ hj
   simp only[Z8,seval];exact bP rfl (by simp only[E8,seval,h,hv]<;>rfl) (.v _)
theorem yM (o:Option (List Table)) (hn:((ol o).length:Int)<1000000) (hf:Flat (ov aR o)) (c:fB) (st:St) (d:Option Nat):aN (aB Tryz.prog) 65 [ov aR o,.agg (bV c)] st d=some { dst:=d,val:=.v (.int .i64 (SL (ol o) c))}:=bF (bA hf (.agg _ (cT c))) (c65 o hn c) (.v _)
noncomputable def nz {α:Type} (l:List α):Option (List α):=if l=[] then none else some l
theorem oH {α:Type} (l:List α):ol (nz l)=l:=by unfold nz;split<;>simp[ol, *]
noncomputable def xR (l:List Table) (x:Int):List Table:=l.filter fun t=>decide (x≤t.ck.aI)
noncomputable def Nb (e sz:Nat) {α:Type} (c:List α→List AV) (l:List α):AV:=if l=[] then .v (.slice none 0 0) else .uniq e sz l.length (c l)
theorem aOr (o:Option (List Table)) (hn:((ol o).length:Int)<1000000) (ht:∀t∈ol o,Flat t.iA) (x:Int):aB Tryz.prog 128 [ov aR o,.v (.int .u64 x)]=some (Nb 118 34 aR (xR (ol o) x)):=by
 rw[cL Tryz.func128 rfl aJq (by cases o<;>rfl)]
 have xE:∀l:List Table,(∀t∈l,t∈ol o)→∀y∈aR l,Flat y:=fun l h=>mK l fun t m=>ht t (h t m)
 simp only[Z8,seval];refine jP (fun m st=>∃k:Nat,(st.env 0=ov aR o∧st.env 1=.v (.int .u64 x)∧st.env 6=.v (.int .i64 k))∧(((((ol o).take k).filter (fun t=>decide (x≤t.ck.aI)))=[]∧st.env 5=.v (.slice none 0 0))∨((((ol o).take k).filter (fun t=>decide (x≤t.ck.aI)))≠[]∧∃g,st.env 5=.own 27 g∧g<st.aQ 27∧st.heap 27 g=some (.row 118 34 (((ol o).take k).filter (fun t=>decide (x≤t.ck.aI))).length (aR (((ol o).take k).filter (fun t=>decide (x≤t.ck.aI)))))))∧k≤(ol o).length∧m=(ol o).length-k)
  (fun e st=>e=.exit 0∧(((((ol o).take (ol o).length).filter (fun t=>decide (x≤t.ck.aI)))=[]∧st.env 5=.v (.slice none 0 0))∨((((ol o).take (ol o).length).filter (fun t=>decide (x≤t.ck.aI)))≠[]∧∃g,st.env 5=.own 27 g∧g<st.aQ 27∧st.heap 27 g=some (.row 118 34 (((ol o).take (ol o).length).filter (fun t=>decide (x≤t.ck.aI))).length (aR (((ol o).take (ol o).length).filter (fun t=>decide (x≤t.ck.aI)))))))∧st.env 0=ov aR o∧st.env 1=.v (.int .u64 x)) ((ol o).length) ?step ?start ?rest
 case step =>
  rintro m st ⟨k,hI,h5,hk,hm⟩
  have Fa:(((((ol o).take k).filter (fun t=>decide (x≤t.ck.aI))).length:Nat):Int)<1000000:=by have:=List.length_filter_le (fun t=>decide (x≤t.ck.aI)) ((ol o).take k);have h2:=List.length_take_le' k (ol o);omega
  by_cases aZ:(k:Int)<(ol o).length
  ·have q0:(0:Int)≤k:=by omega
   have hw:IntKind.i64.wrap ((k:Int)+1)=((k+1:Nat):Int):=by rw[pV _ (by omega) (by omega)];omega
   have hs:=xQ iT (fun t=>decide (x≤t.ck.aI)) (ol o) k (by omega)
   have aFf:Flat (.agg (bZ (gx iT (ol o) (k:Int)))):=(jX _).2 (ht _ (tI q0 aZ))
   by_cases hh:x≤(gx iT (ol o) (k:Int)).ck.aI
   ·rw[if_pos (decide_eq_true hh)] at hs;rcases h5 with ⟨hy,h5⟩|⟨hy,g,h5⟩
    ·rw[hy] at hs;apply oN ((ol o).length-(k+1))
     ·simp only[Z8,seval,hI,h5,aZ,hw,q0,aFf,hh];rfl
     ·exact⟨k+1,by simp only[E8,seval,hI],.inr ⟨by rw[hs];simp,_,by simp only[E8,seval]<;>rfl,(by simp only[E8,seval]<;>omega),(by rw[hs];simp only[E8,seval]<;>rfl)⟩,by omega,rfl⟩
    ·apply oN ((ol o).length-(k+1))
     ·simp only[Z8,seval,hI,h5,Fa,aZ,hw,q0,aFf,hh];rfl
     ·exact⟨k+1,by simp only[E8,seval,hI],.inr ⟨by rw[hs];simp,_,by simp only[E8,seval]<;>rfl,(by simp only[E8,seval]<;>omega),(by rw[hs];simp only[E8,seval]<;>rfl)⟩,by omega,rfl⟩
   ·rw[if_neg (by simpa using hh),List.append_nil] at hs
    apply oN ((ol o).length-(k+1))
    ·simp only[Z8,seval,hI,aZ,hw,q0,aFf,hh];rfl
    ·exact⟨k+1,by simp only[E8,seval,hI],by rw[hs];simpa only[E8,seval] using h5,by omega,rfl⟩
  ·have Ez:k=(ol o).length:=by omega
   rw[Ez] at h5;apply oT (.exit 0)
   ·simp only[Z8,seval,hI,aZ];rfl
   ·exact⟨rfl,by simpa only[E8,seval] using h5,by simp only[E8,seval,hI]⟩
 case start=>exact⟨0,by simp only[E8,seval]<;>rfl,.inl ⟨rfl,by simp only[E8,seval]⟩,by omega,by omega⟩
 case rest =>
  rintro e st ⟨rfl,⟨hy,h5⟩|⟨hy,g,h5,hg,zN⟩,hI⟩
  ·rw[List.take_length] at hy;rw[show Nb 118 34 aR (xR (ol o) x)=.v (.slice none 0 0) from if_pos hy];simp only[Z8,seval,h5];exact bP rfl (by simp only[E8,seval]<;>rfl) (.v _)
  ·rw[List.take_length] at hy zN;rw[show Nb 118 34 aR (xR (ol o) x)=.uniq 118 34 (xR (ol o) x).length (aR (xR (ol o) x)) from if_neg hy];simp only[Z8,seval,h5,zN];exact sU rfl (by simp only[E8,seval];rfl) (by simp only[E8,seval,zN];rfl) (xE _ fun t m=>(List.mem_filter.1 m).1)
theorem FG {T n sz:Nat} (ha:jE Tryz.prog T=some (n,sz)) (st:St) (x:AV) {k:IntKind} {i:Int} (h0:0≤i) (h1:i<n):bD Tryz.prog st T x (.v (.int k i))=uG x (i.toNat * sz):=by
 simp only[bD,ha];rw[if_pos ⟨h0,h1⟩]
theorem SM (st:St) (x:AV) {k:IntKind} {i:Int} (h0:0≤i) (h1:i<32):bD Tryz.prog st 27 x (.v (.int k i))=uG x (i.toNat * 1):=FG aFg st x h0 h1
theorem Gv (st:St) (x:AV) {k:IntKind} {i:Int} (h0:0≤i) (h1:i<4):bD Tryz.prog st 33 x (.v (.int k i))=uG x (i.toNat * 1):=FG aJr st x h0 h1
def rb (r:bX) (i:Int):Int:=r.toList.getD i.toNat 0
def wb (r:qP) (i:Int):Int:=r.toList.getD i.toNat 0
theorem DK (r:bX) {i:Int} (h0:0≤i) (h1:i<32):(aY r)[i.toNat]? = some (.v (.int .u8 (rb r i))):=by
 have h:i.toNat<r.toList.length:=by simp;omega
 unfold aY rb;rw[List.getElem?_map,List.getElem?_eq_getElem h,List.getD_eq_getElem?_getD,List.getElem?_eq_getElem h];rfl
theorem Qg (r:qP) {i:Int} (h0:0≤i) (h1:i<4):(fY r)[i.toNat]? = some (.v (.int .u64 (wb r i))):=by
 have h:i.toNat<r.toList.length:=by simp;omega
 unfold fY wb;rw[List.getElem?_map,List.getElem?_eq_getElem h,List.getD_eq_getElem?_getD,List.getElem?_eq_getElem h];rfl
theorem aJs (a b:bX):∃c:Int,aB Tryz.prog 176 [.agg (aY a),.agg (aY b)]=some (.v (.int .i64 c)):=by
 rw[cL Tryz.func176 rfl aJt rfl];suffices h:∃r,cH (yG Tryz.prog _ (St.init [.agg (aY a),.agg (aY b)])) (zO Tryz.prog 176 Tryz.f176)=some r∧∃c:Int,r=.v (.int .i64 c) by
  obtain⟨r,h,c,rfl⟩:=h;exact⟨c,h⟩
 simp only[Z8,seval];refine cJ (fun m st=>∃k:Nat,(st.env 2=.ptr 2 0 0∧st.heap 2 0=some (.cells (aY a))∧st.env 3=.ptr 3 0 0∧st.heap 3 0=some (.cells (aY b))∧st.env 5=.v (.int .i64 k))∧k≤32∧m=32-k)
  (fun e st=>(e=.ret∧∃c:Int,st.env 4=.v (.int .i64 c))∨e=.exit 0) 32 ?step ?start ?rest
 case step =>
  rintro m st ⟨k,hI,hk,hm⟩
  by_cases aZ:(k:Int)<32
  ·have q0:(0:Int)≤k:=by omega
   have hw:IntKind.i64.wrap ((k:Int)+1)=((k+1:Nat):Int):=by rw[pV _ (by omega) (by omega)];omega
   have ga:=DK a q0 aZ
   have gb:=DK b q0 aZ
   by_cases h1:rb a k<rb b k
   ·apply oT (.ret)
    ·simp only[Z8,seval,hI,aZ,q0,SM,ga,gb,h1];rfl
    ·exact .inl ⟨rfl,-1,by simp only[E8,seval]⟩
   ·by_cases h2:rb b k<rb a k
    ·apply oT (.ret)
     ·simp only[Z8,seval,hI,aZ,q0,SM,ga,gb,h1,h2];rfl
     ·exact .inl ⟨rfl,1,by simp only[E8,seval]⟩
    ·apply oN (32-(k+1))
     ·simp only[Z8,seval,hI,aZ,q0,SM,ga,gb,h1,h2,hw];rfl
     ·exact⟨k+1,by simp only[E8,seval,hI],by omega,rfl⟩
  ·apply oT (.exit 0)
   ·simp only[Z8,seval,hI,aZ];rfl
   ·exact .inr rfl
 case start=>exact⟨0,by simp only[E8,seval]<;>rfl,by omega,by omega⟩
 case rest =>
  rintro e st (⟨rfl,c,h⟩|rfl)
  ·simp only[Z8,seval];exact⟨_,bP rfl h (.v _),c,rfl⟩
  ·simp only[Z8,seval];exact⟨_,bP rfl (by simp only[E8,seval]<;>rfl) (.v _),0,rfl⟩
noncomputable def aJu (a b:bX):Int:=Classical.choose (aJs a b)
theorem aFh (a b:bX) (st:St) (d:Option Nat):aN (aB Tryz.prog) 176 [.agg (aY a),.agg (aY b)] st d=some { dst:=d,val:=.v (.int .i64 (aJu a b))}:=bF (bA (pY a) (pY b)) (Classical.choose_spec (aJs a b)) (.v _)
theorem aJv (a b:qP):∃c:Int,aB Tryz.prog 170 [.agg (fY a),.agg (fY b)]=some (.v (.int .i64 c)):=by
 rw[cL Tryz.func170 rfl aJw rfl];suffices h:∃r,cH (yG Tryz.prog _ (St.init [.agg (fY a),.agg (fY b)])) (zO Tryz.prog 170 Tryz.f170)=some r∧∃c:Int,r=.v (.int .i64 c) by
  obtain⟨r,h,c,rfl⟩:=h;exact⟨c,h⟩
 simp only[Z8,seval];refine cJ (fun m st=>∃k:Nat,(st.env 2=.ptr 2 0 0∧st.heap 2 0=some (.cells (fY a))∧st.env 3=.ptr 3 0 0∧st.heap 3 0=some (.cells (fY b))∧st.env 5=.v (.int .i64 ((k:Int)-1)))∧k≤4∧m=k)
  (fun e st=>(e=.ret∧∃c:Int,st.env 4=.v (.int .i64 c))∨e=.exit 0) 4 ?step ?start ?rest
 case step =>
  rintro m st ⟨k,hI,hk,hm⟩
  by_cases aZ:(0:Int)≤(k:Int)-1
  ·have q1:(k:Int)-1<4:=by omega
   have hw:IntKind.i64.wrap ((k:Int)-1-1)=((k-1:Nat):Int)-1:=by rw[pV _ (by omega) (by omega)];omega
   have ga:=Qg a aZ q1
   have gb:=Qg b aZ q1
   by_cases h1:wb a ((k:Int)-1)<wb b ((k:Int)-1)
   ·apply oT (.ret)
    ·simp only[Z8,seval,hI,aZ,q1,Gv,ga,gb,h1];rfl
    ·exact .inl ⟨rfl,-1,by simp only[E8,seval]⟩
   ·by_cases h2:wb b ((k:Int)-1)<wb a ((k:Int)-1)
    ·apply oT (.ret)
     ·simp only[Z8,seval,hI,aZ,q1,Gv,ga,gb,h1,h2];rfl
     ·exact .inl ⟨rfl,1,by simp only[E8,seval]⟩
    ·apply oN (k-1)
     ·simp only[Z8,seval,hI,aZ,q1,Gv,ga,gb,h1,h2,hw];rfl
     ·exact⟨k-1,by simp only[E8,seval,hI],by omega,rfl⟩
  ·apply oT (.exit 0)
   ·simp only[Z8,seval,hI,aZ];rfl
   ·exact .inr rfl
 case start=>exact⟨4,by simp only[E8,seval]<;>rfl,by omega,by omega⟩
 case rest =>
  rintro e st (⟨rfl,c,h⟩|rfl)
  ·simp only[Z8,seval];exact⟨_,bP rfl h (.v _),c,rfl⟩
  ·simp only[Z8,seval];exact⟨_,bP rfl (by simp only[E8,seval]<;>rfl) (.v _),0,rfl⟩
noncomputable def aBl (a b:qP):Int:=Classical.choose (aJv a b)
theorem aJx (a b:qP) (st:St) (d:Option Nat):aN (aB Tryz.prog) 170 [.agg (fY a),.agg (fY b)] st d=some { dst:=d,val:=.v (.int .i64 (aBl a b))}:=bF (bA (.agg _ (iE a)) (.agg _ (iE b))) (Classical.choose_spec (aJv a b)) (.v _)
theorem aOs (p b:Block):aB Tryz.prog 169 [.agg (aU p),.agg (aU b)]=some (.v (.bool (!decide (b.jF=dT) && decide (p.jF=dT)))):=by
 rw[cL Tryz.func169 rfl aJy rfl];by_cases h:b.jF=dT
 all_goals
  simp only[h,decide_true,decide_false,Bool.not_true,Bool.not_false,Bool.true_and,Bool.false_and];simp only[Z8,seval,h,decide_true,decide_false];exact bP rfl (by simp only[E8,seval]<;>rfl) (.v _)
theorem aFi (p b:Block) (st:St) (d:Option Nat):aN (aB Tryz.prog) 169 [.agg (aU p),.agg (aU b)] st d=some { dst:=d,val:=.v (.bool (!decide (b.jF=dT) && decide (p.jF=dT)))}:=bF (bA (tV p) (tV b)) (aOs p b) (.v _)
def l9 (AK:qP) (p b:Block):Prop:=(b.jF=dT→p.jF=dT)∧(b.jF≠dT→p.jF=dT→aBl b.DL AK<0∧0≤aBl b.diff AK)
theorem aOt (AK:qP) (p b:Block):aB Tryz.prog 114 [.agg (fY AK),.agg (aU p),.agg (aU b)]=some (.v (.bool (decide (l9 AK p b)))):=by
 rw[cL Tryz.func114 rfl aJz rfl];unfold l9;by_cases h:b.jF=dT
 ·simp only[h,forall_const,ne_eq,not_true_eq_false,false_implies,and_true];simp only[Z8,seval,h,decide_true];exact bP rfl (by simp only[E8,seval]<;>rfl) (.v _)
 ·by_cases hp:p.jF=dT
  ·simp only[h,hp,ne_eq,not_false_eq_true,forall_const,false_implies,true_and];by_cases h1:aBl b.DL AK<0
   ·simp only[h1,true_and];simp only[Z8,seval,h,hp,aFi,aJx,h1,decide_true,decide_false,Bool.not_false,Bool.true_and];exact bP rfl (by simp only[E8,seval]<;>rfl) (.v _)
   ·simp only[h1,false_and,decide_false];simp only[Z8,seval,h,hp,aFi,aJx,h1,decide_true,decide_false,Bool.not_false,Bool.true_and];exact bP rfl (by simp only[E8,seval]<;>rfl) (.v _)
  ·simp only[h,hp,ne_eq,not_false_eq_true,forall_const,false_implies,and_self,decide_true];simp only[Z8,seval,h,hp,aFi,decide_false,Bool.not_false,Bool.true_and];exact bP rfl (by simp only[E8,seval]<;>rfl) (.v _)
theorem Wd (AK:qP) (p b:Block) (st:St) (d:Option Nat):aN (aB Tryz.prog) 114 [.agg (fY AK),.agg (aU p),.agg (aU b)] st d=some { dst:=d,val:=.v (.bool (decide (l9 AK p b)))}:=bF (mW (.agg _ (iE AK)) (tV p) (tV b)) (aOt AK p b) (.v _)
noncomputable def Tp (b:Block):Int:=if b.jF=dT then 1 else 0
theorem aOu (b:Block):aB Tryz.prog 233 [.agg (aU b)]=some (.v (.int .i64 (Tp b))):=by
 rw[cL Tryz.func233 rfl aJA rfl];unfold Tp;by_cases h:b.jF=dT
 ·simp only[h,if_true];simp only[Z8,seval,h,decide_true];exact bP rfl (by simp only[E8,seval]<;>rfl) (.v _)
 ·simp only[h,if_false];simp only[Z8,seval,h,decide_false];exact bP rfl (by simp only[E8,seval]<;>rfl) (.v _)
theorem aJB (b:Block) (st:St) (d:Option Nat):aN (aB Tryz.prog) 233 [.agg (aU b)] st d=some { dst:=d,val:=.v (.int .i64 (Tp b))}:=bF (cK (tV b)) (aOu b) (.v _)
theorem kx {g:Nat} {args:List AV} {r:AV} (h:aB Tryz.prog g args=some r) (hf:∀x∈args,Flat x) (hr:Flat r):∀(st:St) (d:Option Nat),aN (aB Tryz.prog) g args st d=some { dst:=d,val:=r }:=fun st d=>bF hf h hr
theorem bf {x y:Int} (h:¬x=y):(x == y)=false∧(x != y)=true:=by simp[h]
theorem bt {x y:Int} (h:x=y):(x == y)=true∧(x != y)=false:=by simp[h]
def Dx (l:List Int) (n:Int) (k:Nat):Prop:=gx (0:Int) l k<0∨n≤gx (0:Int) l k∨(0<k∧gx (0:Int) l k≤gx (0:Int) l ((k:Int)-1))
noncomputable def Dy (l:List Int) (n:Int):Int:=if l=[] then 2 else if Ji (Dx l n) l.length<0 then 0 else if gx (0:Int) l (Ji (Dx l n) l.length)<0∨n≤gx (0:Int) l (Ji (Dx l n) l.length) then 3 else 8
theorem c40 (o:Option (List Int)) (hn:((ol o).length:Int)<1000000) (n:Int):aB Tryz.prog 40 [ov aH o,.v (.int .i64 n)]=some (.v (.int .i64 (Dy (ol o) n))):=by
 rw[cL Tryz.func40 rfl aOv (by cases o<;>rfl)]
 refine jB ?_
 by_cases h0:ol o=[]
 ·have hv:Dy (ol o) n=2:=if_pos h0
  have hl:(ol o).length=0:=by rw[h0];rfl
  simp only[Z8,seval,hl];exact⟨_,bP rfl (by simp only[E8,seval,hv]<;>rfl) (by first|exact .v _|simp only[eA,hv]),rfl⟩
 have hl:=bf (x:=((ol o).length:Int)) (y:=0) (by have:=List.length_pos_iff.2 h0;omega)
 simp only[Z8,seval,hl];refine cJ (fun m st=>∃k:Nat,(st.env 0=ov aH o∧st.env 1=.v (.int .i64 n)∧st.env 5=.v (.int .i64 k))∧(∀j:Nat,j<k→¬Dx (ol o) n j)∧k≤(ol o).length∧m=(ol o).length-k)
  (fun e st=>(e=.ret∧∃k:Nat,k<(ol o).length∧Dx (ol o) n k∧(∀j:Nat,j<k→¬Dx (ol o) n j)∧st.env 4=.v (.int .i64 (if gx (0:Int) (ol o) k<0∨n≤gx (0:Int) (ol o) k then 3 else 8)))∨(e=.exit 0∧∀j:Nat,j<(ol o).length→¬Dx (ol o) n j)) (ol o).length ?step ?start ?rest
 case step =>
  rintro m st ⟨k,hI,hj,hk,hm⟩
  by_cases aZ:(k:Int)<(ol o).length
  ·have q0:(0:Int)≤k:=by omega
   have hw:IntKind.i64.wrap ((k:Int)+1)=((k+1:Nat):Int):=by rw[pV _ (by omega) (by omega)];omega
   by_cases h1:gx (0:Int) (ol o) k<0
   ·apply oT (.ret)
    ·simp only[Z8,seval,hI,aZ,q0,h1];rfl
    ·exact .inl ⟨rfl,k,by omega,.inl h1,hj,by simp only[E8,seval,h1,true_or]⟩
   by_cases h2:n≤gx (0:Int) (ol o) k
   ·apply oT (.ret)
    ·simp only[Z8,seval,hI,aZ,q0,h1,h2];rfl
    ·exact .inl ⟨rfl,k,by omega,.inr (.inl h2),hj,by simp only[E8,seval,h2,or_true]⟩
   by_cases h3:(0:Int)<k
   ·have q1:(0:Int)≤(k:Int)-1:=by omega
    have q2:(k:Int)-1<(ol o).length:=by omega
    have DA:IntKind.i64.wrap ((k:Int)-1)=(k:Int)-1:=by rw[pV _ (by omega) (by omega)]
    by_cases h4:gx (0:Int) (ol o) k≤gx (0:Int) (ol o) ((k:Int)-1)
    ·apply oT (.ret)
     ·simp only[Z8,seval,hI,aZ,q0,q1,q2,DA,h1,h2,h3,h4];rfl
     ·exact .inl ⟨rfl,k,by omega,.inr (.inr ⟨by omega,h4⟩),hj,by simp only[E8,seval,h1,h2,or_self]⟩
    ·apply oN ((ol o).length-(k+1))
     ·simp only[Z8,seval,hI,aZ,q0,q1,q2,DA,h1,h2,h3,h4,hw];rfl
     ·exact⟨k+1,by simp only[E8,seval,hI],fun j h=>(Nat.lt_succ_iff_lt_or_eq.1 h).elim (hj j) fun e=>by subst e;unfold Dx;simp only[h1,h2,h4,and_false,or_self,not_false_eq_true],by omega,rfl⟩
   ·have h5:¬(0<k):=by omega
    apply oN ((ol o).length-(k+1))
    ·simp only[Z8,seval,hI,aZ,q0,h1,h2,h3,hw];rfl
    ·exact⟨k+1,by simp only[E8,seval,hI],fun j h=>(Nat.lt_succ_iff_lt_or_eq.1 h).elim (hj j) fun e=>by subst e;unfold Dx;simp only[h1,h2,h5,false_and,or_self,not_false_eq_true],by omega,rfl⟩
  ·apply oT (.exit 0)
   ·simp only[Z8,seval,hI,aZ];rfl
   ·exact .inr ⟨rfl,fun j h=>hj j (by omega)⟩
 case start=>exact⟨0,by simp only[E8,seval]<;>rfl,fun j h=>by omega,by omega,by omega⟩
 case rest =>
  rintro e st (⟨rfl,k,hk,hh,hj,h⟩|⟨rfl,hj⟩)
  ·have hv:Dy (ol o) n=if gx (0:Int) (ol o) k<0∨n≤gx (0:Int) (ol o) k then 3 else 8:=by
    unfold Dy;rw[if_neg h0,Iq hh hj _ hk,if_neg (by omega)]
   rw[← hv] at h;simp only[Z8,seval];exact⟨_,bP rfl (by simp only[E8,seval,h]<;>rfl) (by first|exact .v _|simp only[eA,h]),rfl⟩
  ·have hv:Dy (ol o) n=0:=by
    unfold Dy;rw[if_neg h0,sM _ hj,if_pos (by omega)]
   simp only[Z8,seval];exact⟨_,bP rfl (by simp only[E8,seval,hv]<;>rfl) (by first|exact .v _|simp only[eA,hv]),rfl⟩
theorem aBm (a b:Int):(AI a b).2≠21:=by unfold AI;split<;>simp
theorem SN (l:List Int) (n:Int):Dy l n≠21:=by unfold Dy;split;simp;split;simp;split<;>simp
theorem aJC (o:Option (List Int)) (hn:((ol o).length:Int)<1000000):∃r,aB Tryz.prog 175 [ov bH o]=some r∧∃a e:Int,r=.eE [.v (.int .u64 a),.v (.int .i64 e)]∧e≠21:=by
 rw[cL Tryz.func175 rfl aD1 (by cases o<;>rfl)]
 simp only[Z8,seval];refine cJ (fun m st=>∃(k:Nat) (a:Int),(st.env 0=ov bH o∧st.env 4=.v (.int .u64 a)∧st.env 5=.v (.int .i64 k))∧k≤(ol o).length∧m=(ol o).length-k)
  (fun e st=>(e=.ret∧∃a e:Int,st.env 2=.v (.int .u64 a)∧st.env 3=.v (.int .i64 e)∧e≠21)∨(e=.exit 0∧∃a:Int,st.env 4=.v (.int .u64 a))) (ol o).length ?step ?start ?rest
 case step =>
  rintro m st ⟨k,a,hI,hk,hm⟩
  by_cases aZ:(k:Int)<(ol o).length
  ·have q0:(0:Int)≤k:=by omega
   have hw:IntKind.i64.wrap ((k:Int)+1)=((k+1:Nat):Int):=by rw[pV _ (by omega) (by omega)];omega
   by_cases h1:(AI a (gx (0:Int) (ol o) k)).2=0
   ·apply oN ((ol o).length-(k+1))
    ·simp only[Z8,seval,hI,aZ,q0,aE3,dM,h1,hw];rfl
    ·exact⟨k+1,_,by simp only[E8,seval,hI]<;>rfl,by omega,rfl⟩
   ·apply oT (.ret)
    ·simp only[Z8,seval,hI,aZ,q0,aE3,dM,bf h1];rfl
    ·exact .inl ⟨rfl,_,_,by simp only[E8,seval]<;>rfl,by simp only[E8,seval]<;>rfl,aBm _ _⟩
  ·apply oT (.exit 0)
   ·simp only[Z8,seval,hI,aZ];rfl
   ·exact .inr ⟨rfl,a,by simp only[E8,seval,hI]⟩
 case start=>exact⟨0,0,by simp only[E8,seval]<;>exact⟨rfl,rfl⟩,by omega,by omega⟩
 case rest =>
  rintro e st (⟨rfl,a,e,h,h',gR⟩|⟨rfl,a,h⟩)
  ·simp only[Z8,seval];exact⟨_,dC rfl rfl rfl (by simp only[E8,seval,h,h']<;>rfl) (by simp only[E8,seval,h,h']<;>rfl),_,_,rfl,gR⟩
  ·simp only[Z8,seval,h];exact⟨_,dC rfl rfl rfl (by simp only[E8,seval,h]<;>rfl) (by simp only[E8,seval,h]<;>rfl),_,_,rfl,by decide⟩
theorem aD2 (t:Table) (b:Option (List Int)) (hb:t.iA=ov bH b) (hl:((ol b).length:Int)<1000000) (n:Int):∃r,aB Tryz.prog 130 [.agg (bZ t),.v (.int .i64 n)]=some r∧∃e:Int,r=.v (.int .i64 e)∧e≠21∧(e=0→((ol b).length:Int)=n):=by
 obtain⟨r,hr,a,e,rfl,he⟩:=aJC b hl
 have n5:=kx hr (cK (dU b)) (.eE _ (bA (.v _) (.v _)))
 rw[cL Tryz.func130 rfl aD3 rfl];by_cases h1:((ol b).length:Int)=n
 ·by_cases h2:e=0
  ·by_cases h3:4611686018427387904<a
   all_goals
    simp only[Z8,seval,hb,bt h1,bt h2,h3,n5,dM];exact⟨_,bP rfl (by simp only[E8,seval]<;>rfl) (by first|exact .v _|simp only[eA]),_,rfl,by decide,fun _=>h1⟩
  ·simp only[Z8,seval,hb,bt h1,bf h2,n5,dM];exact⟨_,bP rfl (by simp only[E8,seval]<;>rfl) (by first|exact .v _|simp only[eA]),_,rfl,by decide,fun _=>h1⟩
 ·simp only[Z8,seval,hb,bf h1];exact⟨_,bP rfl (by simp only[E8,seval]<;>rfl) (by first|exact .v _|simp only[eA]),_,rfl,by decide,fun h=>by cases h⟩
theorem aOw (t:Table) (ht:rK t) (n:Int):∃r,aB Tryz.prog 130 [.agg (bZ t),.v (.int .i64 n)]=some r∧∃e:Int,r=.v (.int .i64 e)∧e≠21:=by
 obtain⟨b,hb,hl⟩:=ht
 obtain⟨r,hr,e,h1,h2,_⟩:=aD2 t b hb hl n
 exact⟨r,hr,e,h1,h2⟩
theorem aFj (a b:fB):∃r,aB Tryz.prog 131 [.agg (bV a),.agg (bV b)]=some r∧∃e:Int,r=.v (.int .i64 e):=by
 rw[cL Tryz.func131 rfl aJD rfl];by_cases h1:a.aI=b.aI
 ·simp only[Z8,seval,bt h1,aFh];exact⟨_,bP rfl (by simp only[E8,seval]<;>rfl) (by first|exact .v _|simp only[eA]),_,rfl⟩
 ·by_cases h2:a.aI<b.aI
  all_goals
   simp only[Z8,seval,bf h1,h2];exact⟨_,bP rfl (by simp only[E8,seval]<;>rfl) (by first|exact .v _|simp only[eA]),_,rfl⟩
noncomputable def aJE (a b:fB):Int:=Classical.choose (Classical.choose_spec (aFj a b)).2
theorem aJF (a b:fB) (st:St) (d:Option Nat):aN (aB Tryz.prog) 131 [.agg (bV a),.agg (bV b)] st d=some { dst:=d,val:=.v (.int .i64 (aJE a b))}:=by
 have h:=(Classical.choose_spec (aFj a b)).1
 rw[Classical.choose_spec (Classical.choose_spec (aFj a b)).2] at h;exact bF (bA (.agg _ (cT a)) (.agg _ (cT b))) h (.v _)
def KnB (v:SV) (r:bX):Prop:=(∃j:Nat,j<(ol v.O).length∧(gx fM (ol v.O) j).root=r)∨0≤aJ v.ns r
theorem c54 {s:aM} {v:SV} (hs:SD s v) (r:bX):aB Tryz.prog 54 [.agg (aA s),.agg (aY r)]=some (.v (.bool (decide (KnB v r)))):=by
 have hn:=hs.nO
 rw[cL Tryz.func54 rfl aOx rfl];refine jB ?_
 simp only[Z8,seval,hs.bS];refine cJ (fun m st=>∃k:Nat,(st.env 2=.ptr 2 0 0∧st.heap 2 0=some (.cells (aA s))∧st.env 3=.ptr 3 0 0∧st.heap 3 0=some (.cells (aY r))∧st.env 5=.v (.int .i64 k))∧(∀j:Nat,j<k→¬((gx fM (ol v.O) (j:Int)).root=r))∧k≤(ol v.O).length∧m=(ol v.O).length-k)
  (fun e st=>(e=.ret∧∃k:Nat,k<(ol v.O).length∧((gx fM (ol v.O) (k:Int)).root=r)∧(∀j:Nat,j<k→¬((gx fM (ol v.O) (j:Int)).root=r))∧st.env 4=.v (.bool true))∨(e=.exit 0∧(∀j:Nat,j<(ol v.O).length→¬((gx fM (ol v.O) (j:Int)).root=r))∧st.env 2=.ptr 2 0 0∧st.heap 2 0=some (.cells (aA s))∧st.env 3=.ptr 3 0 0∧st.heap 3 0=some (.cells (aY r)))) ((ol v.O).length) ?step ?start ?rest
 case step =>
  rintro m st ⟨k,hI,hj,hk,hm⟩
  by_cases aZ:(k:Int)<(ol v.O).length
  ·have q0:(0:Int)≤k:=by omega
   have hw:IntKind.i64.wrap ((k:Int)+1)=((k+1:Nat):Int):=by rw[pV _ (by omega) (by omega)];omega
   by_cases hh:(gx fM (ol v.O) (k:Int)).root=r
   ·apply oT (.ret)
    ·simp only[Z8,seval,hI,aZ,q0,hs.bS,hh];rfl
    ·exact .inl ⟨rfl,k,by omega,hh,hj,by simp only[E8,seval,hs.bS]⟩
   ·apply oN ((ol v.O).length-(k+1))
    ·simp only[Z8,seval,hI,aZ,q0,hs.bS,hh,hw];rfl
    ·exact⟨k+1,by simp only[E8,seval,hI],fun j h=>(Nat.lt_succ_iff_lt_or_eq.1 h).elim (hj j) fun e=>by subst e;exact hh,by omega,rfl⟩
  ·apply oT (.exit 0)
   ·simp only[Z8,seval,hI,aZ,hs.bS];rfl
   ·exact .inr ⟨rfl,fun j h=>hj j (by omega),by simp only[E8,seval,hI]⟩
 case start=>exact⟨0,by simp only[E8,seval]<;>rfl,fun j h=>by omega,by omega,by omega⟩
 case rest =>
  rintro e st (⟨rfl,k,hk,hh,hj,h⟩|⟨rfl,hj,hI⟩)
  ·have hv:decide (KnB v r)=true:=decide_eq_true (.inl ⟨k,hk,hh⟩)
   simp only[Z8,seval];exact⟨_,bP rfl (by simp only[E8,seval,h]<;>rfl) (by first|exact .v _|simp only[eA,h]),by rw[hv]⟩
  ·have hv:decide (KnB v r)=decide (0≤aJ v.ns r):=by
    refine decide_eq_decide.2 ⟨fun h=>h.elim (fun ⟨j,hj1,hj2⟩=>absurd hj2 (hj j hj1)) id,.inr⟩
   simp only[Z8,seval,hI,hs.tree,iY _ _ hs.nn];exact⟨_,bP rfl (by simp only[E8,seval]<;>rfl) (by first|exact .v _|simp only[eA]),by rw[hv]⟩
theorem J6 {s:aM} {v:SV} (hs:SD s v) (r:bX) (st:St) (d:Option Nat):aN (aB Tryz.prog) 54 [.agg (aA s),.agg (aY r)] st d=some { dst:=d,val:=.v (.bool (decide (KnB v r)))}:=bF (bA hs.flat (pY r)) (c54 hs r) (.v _)
def uO (s:aM) (a:oY):Prop:=a.target.aI≠mO s a.slot∨(a.target.aI≠mO s s.now∧(mO s s.now=0∨a.target.aI≠IntKind.u64.wrap (mO s s.now-1)))
noncomputable def qY (s:aM) (v:SV) (a:oY) (V:List Int):Bool × Int :=
 if Dy V (ol v.B).length≠0 then (false,Dy V (ol v.B).length) else
 if uO s a then (false,18) else
 if aJ v.ns a.root<0 then (false,10) else
 if aJ v.ns a.target.root<0 then (false,10) else
 if a.slot<(nd v.ns (aJ v.ns a.root)).block.slot then (false,14) else
 if Dh v.ns (aJ v.ns a.root) (wN s a.target.aI).1≠aJ v.ns a.target.root then (false,19) else (decide (s.now≤a.slot),0)
theorem c39 {s:aM} {v:SV} (hs:SD s v) (hu:fZ v.ns) (hp:s.cFg.jK≠0) (a:oY) (o:Option (List Int)) (hV:a.dX=ov aH o) (hl:((ol o).length:Int)<1000000) :
 aB Tryz.prog 39 [.agg (aA s),.agg (eH a)]=some (.eE [.v (.bool (qY s v a (ol o)).1),.v (.int .i64 (qY s v a (ol o)).2)]):=by
 have hf:=hs.flat
 have JW:=fun n=>kx (c40 o hl n) (bA (bE o) (.v _)) (.v _)
 rw[cL Tryz.func39 rfl aOy rfl];refine jB ?_
 have r1:=dJ v.ns a.root
 by_cases g1:Dy (ol o) (ol v.B).length=0
 case neg =>
  have hv:qY s v a (ol o)=(false,Dy (ol o) (ol v.B).length):=by simp only[qY,ne_eq,g1,not_false_eq_true,if_true]
  simp only[Z8,seval,hV,Wb hs,JW,bf g1];exact⟨_,dC rfl rfl rfl (by simp only[E8,seval]<;>rfl) (by simp only[E8,seval]<;>rfl),by rw[hv]⟩
 have Kw:uO s a→qY s v a (ol o)=(false,18):=fun g=>by simp only[qY,ne_eq,g1,not_true_eq_false,if_false,g,if_true]
 by_cases g2:a.target.aI=mO s a.slot
 case neg =>
  have hv:=Kw (.inl g2)
  simp only[Z8,seval,hV,Wb hs,JW,bt g1,sA s hp hf,bf g2];exact⟨_,dC rfl rfl rfl (by simp only[E8,seval]<;>rfl) (by simp only[E8,seval]<;>rfl),by rw[hv]⟩
 by_cases g3:a.target.aI=mO s s.now
 case neg =>
  by_cases g4:mO s s.now=0
  ·have hv:=Kw (.inr ⟨g3,.inl g4⟩)
   simp only[Z8,seval,hV,Wb hs,JW,bt g1,sA s hp hf,bt g2,bf g3,bt g4];exact⟨_,dC rfl rfl rfl (by simp only[E8,seval]<;>rfl) (by simp only[E8,seval]<;>rfl),by rw[hv]⟩
  by_cases g5:a.target.aI=IntKind.u64.wrap (mO s s.now-1)
  case neg =>
   have hv:=Kw (.inr ⟨g3,.inr g5⟩)
   simp only[Z8,seval,hV,Wb hs,JW,bt g1,sA s hp hf,bt g2,bf g3,bf g4,bf g5];exact⟨_,dC rfl rfl rfl (by simp only[E8,seval]<;>rfl) (by simp only[E8,seval]<;>rfl),by rw[hv]⟩
  have gb:¬uO s a:=fun h=>h.elim (fun h=>h g2) fun h=>h.2.elim g4 fun h=>h g5
  by_cases g6:aJ v.ns a.root<0
  ·have hv:qY s v a (ol o)=(false,10):=by simp only[qY,ne_eq,g1,not_true_eq_false,if_false,gb,g6,if_true]
   simp only[Z8,seval,hV,Wb hs,JW,bt g1,sA s hp hf,bt g2,bf g3,bf g4,bt g5,hs.tree,iY _ _ hs.nn,g6];exact⟨_,dC rfl rfl rfl (by simp only[E8,seval]<;>rfl) (by simp only[E8,seval]<;>rfl),by rw[hv]⟩
  by_cases g7:aJ v.ns a.target.root<0
  ·have hv:qY s v a (ol o)=(false,10):=by simp only[qY,ne_eq,g1,not_true_eq_false,if_false,gb,g6,g7,if_true]
   simp only[Z8,seval,hV,Wb hs,JW,bt g1,sA s hp hf,bt g2,bf g3,bf g4,bt g5,hs.tree,iY _ _ hs.nn,g6,g7];exact⟨_,dC rfl rfl rfl (by simp only[E8,seval]<;>rfl) (by simp only[E8,seval]<;>rfl),by rw[hv]⟩
  have q0:0≤aJ v.ns a.root:=by omega
  by_cases g8:a.slot<(nd v.ns (aJ v.ns a.root)).block.slot
  ·have hv:qY s v a (ol o)=(false,14):=by simp only[qY,ne_eq,g1,not_true_eq_false,if_false,gb,g6,g7,g8,if_true]
   simp only[Z8,seval,hV,Wb hs,JW,bt g1,sA s hp hf,bt g2,bf g3,bf g4,bt g5,hs.tree,iY _ _ hs.nn,g6,g7,q0,r1,g8];exact⟨_,dC rfl rfl rfl (by simp only[E8,seval]<;>rfl) (by simp only[E8,seval]<;>rfl),by rw[hv]⟩
  by_cases g9:Dh v.ns (aJ v.ns a.root) (wN s a.target.aI).1=aJ v.ns a.target.root
  ·have hv:qY s v a (ol o)=(decide (s.now≤a.slot),0):=by simp only[qY,ne_eq,g1,not_true_eq_false,if_false,gb,g6,g7,g8,g9]
   simp only[Z8,seval,hV,Wb hs,JW,bt g1,sA s hp hf,bt g2,bf g3,bf g4,bt g5,hs.tree,iY _ _ hs.nn,g6,g7,q0,r1,g8,Ut s hf,dM,KH _ hu hs.nn,bt g9];exact⟨_,dC rfl rfl rfl (by simp only[E8,seval]<;>rfl) (by simp only[E8,seval]<;>rfl),by rw[hv]⟩
  ·have hv:qY s v a (ol o)=(false,19):=by simp only[qY,ne_eq,g1,not_true_eq_false,if_false,gb,g6,g7,g8,g9,not_false_eq_true,if_true]
   simp only[Z8,seval,hV,Wb hs,JW,bt g1,sA s hp hf,bt g2,bf g3,bf g4,bt g5,hs.tree,iY _ _ hs.nn,g6,g7,q0,r1,g8,Ut s hf,dM,KH _ hu hs.nn,bf g9];exact⟨_,dC rfl rfl rfl (by simp only[E8,seval]<;>rfl) (by simp only[E8,seval]<;>rfl),by rw[hv]⟩
 have gb:¬uO s a:=fun h=>h.elim (fun h=>h g2) fun h=>h.1 g3
 by_cases g6:aJ v.ns a.root<0
 ·have hv:qY s v a (ol o)=(false,10):=by simp only[qY,ne_eq,g1,not_true_eq_false,if_false,gb,g6,if_true]
  simp only[Z8,seval,hV,Wb hs,JW,bt g1,sA s hp hf,bt g2,bt g3,hs.tree,iY _ _ hs.nn,g6];exact⟨_,dC rfl rfl rfl (by simp only[E8,seval]<;>rfl) (by simp only[E8,seval]<;>rfl),by rw[hv]⟩
 by_cases g7:aJ v.ns a.target.root<0
 ·have hv:qY s v a (ol o)=(false,10):=by simp only[qY,ne_eq,g1,not_true_eq_false,if_false,gb,g6,g7,if_true]
  simp only[Z8,seval,hV,Wb hs,JW,bt g1,sA s hp hf,bt g2,bt g3,hs.tree,iY _ _ hs.nn,g6,g7];exact⟨_,dC rfl rfl rfl (by simp only[E8,seval]<;>rfl) (by simp only[E8,seval]<;>rfl),by rw[hv]⟩
 have q0:0≤aJ v.ns a.root:=by omega
 by_cases g8:a.slot<(nd v.ns (aJ v.ns a.root)).block.slot
 ·have hv:qY s v a (ol o)=(false,14):=by simp only[qY,ne_eq,g1,not_true_eq_false,if_false,gb,g6,g7,g8,if_true]
  simp only[Z8,seval,hV,Wb hs,JW,bt g1,sA s hp hf,bt g2,bt g3,hs.tree,iY _ _ hs.nn,g6,g7,q0,r1,g8];exact⟨_,dC rfl rfl rfl (by simp only[E8,seval]<;>rfl) (by simp only[E8,seval]<;>rfl),by rw[hv]⟩
 by_cases g9:Dh v.ns (aJ v.ns a.root) (wN s a.target.aI).1=aJ v.ns a.target.root
 ·have hv:qY s v a (ol o)=(decide (s.now≤a.slot),0):=by simp only[qY,ne_eq,g1,not_true_eq_false,if_false,gb,g6,g7,g8,g9]
  simp only[Z8,seval,hV,Wb hs,JW,bt g1,sA s hp hf,bt g2,bt g3,hs.tree,iY _ _ hs.nn,g6,g7,q0,r1,g8,Ut s hf,dM,KH _ hu hs.nn,bt g9];exact⟨_,dC rfl rfl rfl (by simp only[E8,seval]<;>rfl) (by simp only[E8,seval]<;>rfl),by rw[hv]⟩
 ·have hv:qY s v a (ol o)=(false,19):=by simp only[qY,ne_eq,g1,not_true_eq_false,if_false,gb,g6,g7,g8,g9,not_false_eq_true,if_true]
  simp only[Z8,seval,hV,Wb hs,JW,bt g1,sA s hp hf,bt g2,bt g3,hs.tree,iY _ _ hs.nn,g6,g7,q0,r1,g8,Ut s hf,dM,KH _ hu hs.nn,bf g9];exact⟨_,dC rfl rfl rfl (by simp only[E8,seval]<;>rfl) (by simp only[E8,seval]<;>rfl),by rw[hv]⟩
theorem SO (ns:List Node) (s:Int) (l:List Int):yE ns s l=-1∨yE ns s l∈l:=by
 suffices h:∀(l:List Int) (a:Int),l.foldl (fun r x=>if (nd ns x).block.slot≤s then x else r) a=a∨l.foldl (fun r x=>if (nd ns x).block.slot≤s then x else r) a∈l from h l (-1)
 intro l;induction l with
 | nil=>exact fun a=>.inl rfl
 | cons x l ih =>
   intro a;rw[List.foldl_cons];split
   ·rcases ih x with h|h
    ·exact .inr (by rw[h];simp)
    ·exact .inr (by simp[h])
   ·rcases ih a with h|h
    ·exact .inl h
    ·exact .inr (by simp[h])
theorem DM {ns:List Node} (hu:fZ ns) (i s:Int):-1≤Dh ns i s∧Dh ns i s<ns.length∧Dh ns i s≤max i (-1):=by
 by_cases hi:0≤i∧i<ns.length
 ·rcases SO ns s (path ns i) with h|h
  ·rw[show Dh ns i s=-1 from h];omega
  ·have:=Mr hu i.toNat i rfl hi.1 hi.2 _ h
   rw[show Dh ns i s=yE ns s (path ns i) from rfl];omega
 ·rw[Gn s hi];omega
noncomputable def elC {α:Type} (x:AV) (k:fB→Option α) (fb:Option α):Option α:=if h:∃c,x=.agg (bV c) then k (Classical.choose h) else fb
theorem aJH {α:Type} (c:fB) (k:fB→Option α) (fb:Option α):elC (.agg (bV c)) k fb=k c:=by
 unfold elC;have h:∃c',AV.agg (bV c)=.agg (bV c'):=⟨c,rfl⟩
 rw[dif_pos h];have:=Classical.choose_spec h
 injection this with h2
 rw[← (mF _ _).1 h2]
@[congr] theorem aH8 {α:Type} {x y:AV} {k:fB→Option α} {fb:Option α} (h:x=y):elC x k fb=elC y k fb:=by rw[h]
theorem aFk {call:Nat→List AV→Option AV} {ops:Array Oper} {st:St} {T:Nat} {pos:String} {eU:Array Edge} (d:Nat) (x y z w:Operand) :
 cC Tryz.prog call ops ⟨some d,.buildSlice 109 4 #[(0,x),(1,y),(2,z),(3,w)],T,pos,eU,none⟩ st =
  elC (st.ev x) (fun a=>elC (st.ev y) (fun b=>elC (st.ev z) (fun c=>elC (st.ev w) (fun e=>some ((st.new d (.row 41 33 [a,b,c,e].length (yN [a,b,c,e]))).put (some d) (.own d (st.aQ d))))
   (cC Tryz.prog call ops ⟨some d,.buildSlice 109 4 #[(0,x),(1,y),(2,z),(3,w)],T,pos,eU,none⟩ st)) (cC Tryz.prog call ops ⟨some d,.buildSlice 109 4 #[(0,x),(1,y),(2,z),(3,w)],T,pos,eU,none⟩ st))
   (cC Tryz.prog call ops ⟨some d,.buildSlice 109 4 #[(0,x),(1,y),(2,z),(3,w)],T,pos,eU,none⟩ st)) (cC Tryz.prog call ops ⟨some d,.buildSlice 109 4 #[(0,x),(1,y),(2,z),(3,w)],T,pos,eU,none⟩ st):=by
 unfold elC;split
 ·rename_i h1;have h1c:=h1
  obtain⟨a,Sf⟩:=h1c
  have e1:Classical.choose h1=a:=by have:=(Classical.choose_spec h1).symm.trans Sf;injection this with t;exact (mF _ _).1 t
  rw[e1];split
  ·rename_i h2;have h2c:=h2
   obtain⟨b,h2'⟩:=h2c
   have e2:Classical.choose h2=b:=by have:=(Classical.choose_spec h2).symm.trans h2';injection this with t;exact (mF _ _).1 t
   rw[e2];split
   ·rename_i h3;have h3c:=h3
    obtain⟨c,h3'⟩:=h3c
    have e3:Classical.choose h3=c:=by have:=(Classical.choose_spec h3).symm.trans h3';injection this with t;exact (mF _ _).1 t
    rw[e3];split
    ·rename_i h4;have h4c:=h4
     obtain⟨e,G7⟩:=h4c
     have e4:Classical.choose h4=e:=by have:=(Classical.choose_spec h4).symm.trans G7;injection this with t;exact (mF _ _).1 t
     rw[e4,kH,J7];have hz:((List.range 4).flatMap fun _=>Cf.map AV.v)=yN [iB,iB,iB,iB]:=by rw[Ai];rfl
     have u0:=Nc [iB,iB,iB,iB] 0 a (by simp)
     have u1:=Nc [a,iB,iB,iB] 1 b (by simp)
     have u2:=Nc [a,b,iB,iB] 2 c (by simp)
     have u3:=Nc [a,b,c,iB] 3 e (by simp)
     simp only[Int.reduceToNat,Nat.reduceMul,Nat.reduceAdd,List.set_cons_zero,List.set_cons_succ,List.set] at u0 u1 u2 u3;simp only[cN,aJI,List.toList_toArray,List.map_cons,List.map_nil,List.all_cons,List.all_nil,Sf,h2',h3',G7,AV.jI,Bool.and_self,DN,LH,AV.cells,bO,We,hz,List.length_cons,List.length_nil,Nat.reduceMul,Nat.reduceAdd,Nat.reducePow,Nat.reduceLeDiff,Nat.reduceLT,true_or,true_and,and_true,and_self,if_true,↓reduceIte,u0,u1,u2,u3,Nat.zero_le,Nat.le_refl]
    ·rfl
   ·rfl
  ·rfl
 ·rfl
def n8 (s:aM) (v:SV) (b:Block) (c:fB):Prop:=c.aI≤s.aG.fin.aI∨(if (wN s c.aI).1<b.slot then 0≤Dh v.ns (aJ v.ns b.parent) (wN s c.aI).1∧(nd v.ns (Dh v.ns (aJ v.ns b.parent) (wN s c.aI).1)).block.root=c.root else b.root=c.root)
def Jj (b:Block):List fB:=[b.dS,b.fin,b.dV.pj,b.dV.pf]
def FH (s:aM) (v:SV) (b:Block):Prop:=0≤aJ v.ns b.parent∧J5 s b∧∀j:Nat,j<4→n8 s v b (gx iB (Jj b) j)
theorem c69 {s:aM} {v:SV} (hs:SD s v) (hu:fZ v.ns) (hp:s.cFg.jK≠0) (b:Block):aB Tryz.prog 69 [.agg (aA s),.agg (aU b)]=some (.v (.bool (decide (FH s v b)))):=by
 have hf:=hs.flat
 rw[cL Tryz.func69 rfl aOz rfl];refine jB ?_
 have r1:=dJ v.ns b.parent
 by_cases g1:aJ v.ns b.parent<0
 ·have hv:decide (FH s v b)=false:=decide_eq_false (fun h=>by have:=h.1;omega)
  simp only[Z8,seval,hs.tree,iY _ _ hs.nn,g1];exact⟨_,bP rfl (by simp only[E8,seval]<;>rfl) (by first|exact .v _|simp only[eA]),by rw[hv]⟩
 by_cases g2:J5 s b
 case neg =>
  have hv:decide (FH s v b)=false:=decide_eq_false (fun h=>g2 h.2.1)
  simp only[Z8,seval,hs.tree,iY _ _ hs.nn,g1,aJo s hp hf,g2];exact⟨_,bP rfl (by simp only[E8,seval]<;>rfl) (by first|exact .v _|simp only[eA]),by rw[hv]⟩
 simp only[Z8,seval,hs.tree,iY _ _ hs.nn,g1,aJo s hp hf,g2,aFk,aJH];have h4:(Jj b).length=4:=rfl
 refine cJ (fun m st=>∃k:Nat,(st.env 2=.ptr 2 0 0∧st.heap 2 0=some (.cells (aA s))∧st.env 3=.ptr 3 0 0∧st.heap 3 0=some (.cells (aU b))∧st.env 5=.v (.int .i64 (aJ v.ns b.parent))∧st.env 6=.own 33 0∧st.heap 33 0=some (.row 41 33 (Jj b).length (yN (Jj b)))∧st.env 7=.v (.int .i64 k))∧(∀j:Nat,j<k→n8 s v b (gx iB (Jj b) j))∧k≤4∧m=4-k)
  (fun e st=>(e=.ret∧st.env 4=.v (.bool false)∧∃j:Nat,j<4∧¬n8 s v b (gx iB (Jj b) j))∨(e=.exit 0∧∀j:Nat,j<4→n8 s v b (gx iB (Jj b) j))) 4 ?step ?start ?rest
 case step =>
  rintro m st ⟨k,hI,hj,hk,hm⟩
  by_cases KC:k<4
  ·have aZ:(k:Int)<(Jj b).length:=by rw[h4];omega
   have q0:(0:Int)≤k:=by omega
   have hw:IntKind.i64.wrap ((k:Int)+1)=((k+1:Nat):Int):=by rw[pV _ (by omega) (by omega)];omega
   obtain⟨c,hc⟩:∃c,gx iB (Jj b) k=c:=⟨_,rfl⟩
   have ra:=DM hu (aJ v.ns b.parent) (wN s c.aI).1
   have ld:∀T kk off,sN Tryz.prog T=some kk→0<kk→off+kk≤33→tX Tryz.prog T (some (.row 41 33 (Jj b).length (yN (Jj b)))) ((k:Int).toNat * 33+off)=fF Tryz.prog T (bV c) off:=fun T kk off h1 h2 h3=>by rw[FI q0 aZ h1 h2 h3,hc]
   have ld0:∀T kk,sN Tryz.prog T=some kk→0<kk→kk≤33→tX Tryz.prog T (some (.row 41 33 (Jj b).length (yN (Jj b)))) ((k:Int).toNat * 33)=fF Tryz.prog T (bV c) 0:=fun T kk h1 h2 h3=>by rw[XN q0 aZ h1 h2 h3,hc]
   have nxt:n8 s v b c→∀j:Nat,j<k+1→n8 s v b (gx iB (Jj b) j):=fun h j hj'=>(Nat.lt_succ_iff_lt_or_eq.1 hj').elim (hj j) fun e=>by subst e;rw[hc];exact h
   have ld1:=ld0 23 1 SP (by decide) (by decide)
   have ld2:=ld 27 32 1 aJJ (by decide) (by decide)
   have cl:∀i:Int,(k:Int)<4:=fun _=>by omega
   have hl4:(k:Int)<((Jj b).length:Int):=aZ
   by_cases h1:c.aI≤s.aG.fin.aI
   ·apply oN (4-(k+1))
    ·simp only[Z8,seval,hI,aZ,q0,ld1,ld2,h1,hw];rfl
    ·exact⟨k+1,by simp only[E8,seval,hI],nxt (.inl h1),by omega,rfl⟩
   by_cases h2:(wN s c.aI).1<b.slot
   ·by_cases h3:Dh v.ns (aJ v.ns b.parent) (wN s c.aI).1<0
    ·apply oT (.ret)
     ·simp only[Z8,seval,hI,aZ,q0,ld1,ld2,h1,h2,h3,Ut s hf,dM,hs.tree,KH _ hu hs.nn];rfl
     ·exact .inl ⟨rfl,by simp only[E8,seval],k,KC,by rw[hc];exact fun h=>h.elim h1 fun h=>by rw[if_pos h2] at h;omega⟩
    have q3:0≤Dh v.ns (aJ v.ns b.parent) (wN s c.aI).1:=by omega
    by_cases G7:(nd v.ns (Dh v.ns (aJ v.ns b.parent) (wN s c.aI).1)).block.root=c.root
    ·apply oN (4-(k+1))
     ·simp only[Z8,seval,hI,aZ,q0,ld1,ld2,h1,h2,h3,Ut s hf,dM,hs.tree,KH _ hu hs.nn,q3,ra,G7,hw];rfl
     ·exact⟨k+1,by simp only[E8,seval,hI],nxt (.inr (by rw[if_pos h2];exact⟨q3,G7⟩)),by omega,rfl⟩
    ·apply oT (.ret)
     ·simp only[Z8,seval,hI,aZ,q0,ld1,ld2,h1,h2,h3,Ut s hf,dM,hs.tree,KH _ hu hs.nn,q3,ra,G7];rfl
     ·exact .inl ⟨rfl,by simp only[E8,seval],k,KC,by rw[hc];exact fun h=>h.elim h1 fun h=>by rw[if_pos h2] at h;exact G7 h.2⟩
   ·by_cases G7:b.root=c.root
    ·apply oN (4-(k+1))
     ·simp only[Z8,seval,hI,aZ,q0,ld1,ld2,h1,h2,Ut s hf,dM,G7,hw];rfl
     ·exact⟨k+1,by simp only[E8,seval,hI],nxt (.inr (by rw[if_neg h2];exact G7)),by omega,rfl⟩
    ·apply oT (.ret)
     ·simp only[Z8,seval,hI,aZ,q0,ld1,ld2,h1,h2,Ut s hf,dM,G7];rfl
     ·exact .inl ⟨rfl,by simp only[E8,seval],k,KC,by rw[hc];exact fun h=>h.elim h1 fun h=>by rw[if_neg h2] at h;exact G7 h⟩
  ·have aZ:¬((k:Int)<(Jj b).length):=by rw[h4];omega
   apply oT (.exit 0)
   ·simp only[Z8,seval,hI,aZ];rfl
   ·exact .inr ⟨rfl,fun j h=>hj j (by omega)⟩
 case start=>exact⟨0,by simp only[E8,seval]<;>rfl,fun j h=>by omega,by omega,by omega⟩
 case rest =>
  rintro e st (⟨rfl,h,j,hj,hn⟩|⟨rfl,h⟩)
  ·have hv:decide (FH s v b)=false:=decide_eq_false (fun h=>hn (h.2.2 j hj))
   simp only[Z8,seval];exact⟨_,bP rfl (by simp only[E8,seval,h]<;>rfl) (by first|exact .v _|simp only[eA,h]),by rw[hv]⟩
  ·have hv:decide (FH s v b)=true:=decide_eq_true ⟨by omega,g2,h⟩
   simp only[Z8,seval];exact⟨_,bP rfl (by simp only[E8,seval]<;>rfl) (by first|exact .v _|simp only[eA]),by rw[hv]⟩
theorem J8 {s:aM} {v:SV} (hs:SD s v) (hu:fZ v.ns) (hp:s.cFg.jK≠0) (b:Block) (st:St) (d:Option Nat):aN (aB Tryz.prog) 69 [.agg (aA s),.agg (aU b)] st d=some { dst:=d,val:=.v (.bool (decide (FH s v b)))}:=bF (bA hs.flat (tV b)) (c69 hs hu hp b) (.v _)
noncomputable def Jx (s:aM) (v:SV) (b:Block):Int :=
 if b.root=dT then 2 else if KnB v b.root then 9 else if s.now<b.slot then 12 else if b.slot≤(wN s s.aG.fin.aI).1 then 13 else
 if aJ v.ns b.parent<0 then 10 else if b.slot≤(nd v.ns (aJ v.ns b.parent)).block.slot then 14 else if (nd v.ns (aJ v.ns b.parent)).status=2 then 15 else
 if ¬FH s v b then 16 else if ¬l9 s.cFg.AK (nd v.ns (aJ v.ns b.parent)).block b then 17 else if s.cFg.lS.rL≤(v.ns.length:Int) then 11 else 0
theorem c52 {s:aM} {v:SV} (hs:SD s v) (hu:fZ v.ns) (hp:s.cFg.jK≠0) (b:Block):aB Tryz.prog 52 [.agg (aA s),.agg (aU b)]=some (.v (.int .i64 (Jx s v b))):=by
 have hf:=hs.flat
 rw[cL Tryz.func52 rfl aOB rfl];refine jB ?_
 have r1:=dJ v.ns b.parent
 by_cases g1:b.root=dT
 ·simp only[Z8,seval,Ut s hf,dM,J6 hs,hs.tree,iY _ _ hs.nn,J8 hs hu hp,Wd,decide_true,decide_false,g1];exact⟨_,bP rfl (by simp only[E8,seval]<;>rfl) (by first|exact .v _|simp only[eA]),by simp only[Jx,g1,not_true_eq_false,not_false_eq_true,if_true,if_false]⟩
 by_cases g2:KnB v b.root
 ·simp only[Z8,seval,Ut s hf,dM,J6 hs,hs.tree,iY _ _ hs.nn,J8 hs hu hp,Wd,decide_true,decide_false,g1,g2];exact⟨_,bP rfl (by simp only[E8,seval]<;>rfl) (by first|exact .v _|simp only[eA]),by simp only[Jx,g1,g2,not_true_eq_false,not_false_eq_true,if_true,if_false]⟩
 by_cases g3:s.now<b.slot
 ·simp only[Z8,seval,Ut s hf,dM,J6 hs,hs.tree,iY _ _ hs.nn,J8 hs hu hp,Wd,decide_true,decide_false,g1,g2,g3];exact⟨_,bP rfl (by simp only[E8,seval]<;>rfl) (by first|exact .v _|simp only[eA]),by simp only[Jx,g1,g2,g3,not_true_eq_false,not_false_eq_true,if_true,if_false]⟩
 by_cases g4:b.slot≤(wN s s.aG.fin.aI).1
 ·simp only[Z8,seval,Ut s hf,dM,J6 hs,hs.tree,iY _ _ hs.nn,J8 hs hu hp,Wd,decide_true,decide_false,g1,g2,g3,g4];exact⟨_,bP rfl (by simp only[E8,seval]<;>rfl) (by first|exact .v _|simp only[eA]),by simp only[Jx,g1,g2,g3,g4,not_true_eq_false,not_false_eq_true,if_true,if_false]⟩
 by_cases g5:aJ v.ns b.parent<0
 ·simp only[Z8,seval,Ut s hf,dM,J6 hs,hs.tree,iY _ _ hs.nn,J8 hs hu hp,Wd,decide_true,decide_false,g1,g2,g3,g4,g5];exact⟨_,bP rfl (by simp only[E8,seval]<;>rfl) (by first|exact .v _|simp only[eA]),by simp only[Jx,g1,g2,g3,g4,g5,not_true_eq_false,not_false_eq_true,if_true,if_false]⟩
 have q0:0≤aJ v.ns b.parent:=by omega
 by_cases g6:b.slot≤(nd v.ns (aJ v.ns b.parent)).block.slot
 ·simp only[Z8,seval,Ut s hf,dM,J6 hs,hs.tree,iY _ _ hs.nn,J8 hs hu hp,Wd,decide_true,decide_false,g1,g2,g3,g4,g5,q0,r1,g6];exact⟨_,bP rfl (by simp only[E8,seval]<;>rfl) (by first|exact .v _|simp only[eA]),by simp only[Jx,g1,g2,g3,g4,g5,g6,not_true_eq_false,not_false_eq_true,if_true,if_false]⟩
 by_cases g7:(nd v.ns (aJ v.ns b.parent)).status=2
 ·simp only[Z8,seval,Ut s hf,dM,J6 hs,hs.tree,iY _ _ hs.nn,J8 hs hu hp,Wd,decide_true,decide_false,g1,g2,g3,g4,g5,q0,r1,g6,bt g7];exact⟨_,bP rfl (by simp only[E8,seval]<;>rfl) (by first|exact .v _|simp only[eA]),by simp only[Jx,g1,g2,g3,g4,g5,g6,g7,not_true_eq_false,not_false_eq_true,if_true,if_false]⟩
 by_cases g8:¬FH s v b
 ·simp only[Z8,seval,Ut s hf,dM,J6 hs,hs.tree,iY _ _ hs.nn,J8 hs hu hp,Wd,decide_true,decide_false,g1,g2,g3,g4,g5,q0,r1,g6,bf g7,g8];exact⟨_,bP rfl (by simp only[E8,seval]<;>rfl) (by first|exact .v _|simp only[eA]),by simp only[Jx,g1,g2,g3,g4,g5,g6,g7,g8,not_true_eq_false,not_false_eq_true,if_true,if_false]⟩
 replace g8:=Classical.not_not.1 g8
 by_cases g9:¬l9 s.cFg.AK (nd v.ns (aJ v.ns b.parent)).block b
 ·simp only[Z8,seval,Ut s hf,dM,J6 hs,hs.tree,iY _ _ hs.nn,J8 hs hu hp,Wd,decide_true,decide_false,g1,g2,g3,g4,g5,q0,r1,g6,bf g7,g8,g9];exact⟨_,bP rfl (by simp only[E8,seval]<;>rfl) (by first|exact .v _|simp only[eA]),by simp only[Jx,g1,g2,g3,g4,g5,g6,g7,g8,g9,not_true_eq_false,not_false_eq_true,if_true,if_false]⟩
 replace g9:=Classical.not_not.1 g9
 by_cases Sl:s.cFg.lS.rL≤(v.ns.length:Int)
 ·simp only[Z8,seval,Ut s hf,dM,J6 hs,hs.tree,iY _ _ hs.nn,J8 hs hu hp,Wd,decide_true,decide_false,g1,g2,g3,g4,g5,q0,r1,g6,bf g7,g8,g9,Sl];exact⟨_,bP rfl (by simp only[E8,seval]<;>rfl) (by first|exact .v _|simp only[eA]),by simp only[Jx,g1,g2,g3,g4,g5,g6,g7,g8,g9,Sl,not_true_eq_false,not_false_eq_true,if_true,if_false]⟩
 simp only[Z8,seval,Ut s hf,dM,J6 hs,hs.tree,iY _ _ hs.nn,J8 hs hu hp,Wd,decide_true,decide_false,g1,g2,g3,g4,g5,q0,r1,g6,bf g7,g8,g9,Sl];exact⟨_,bP rfl (by simp only[E8,seval]<;>rfl) (by first|exact .v _|simp only[eA]),by simp only[Jx,g1,g2,g3,g4,g5,g6,g7,g8,g9,Sl,not_true_eq_false,not_false_eq_true,if_true,if_false]⟩
theorem k52 {s:aM} {v:SV} (hs:SD s v) (hu:fZ v.ns) (hp:s.cFg.jK≠0) (b:Block) (st:St) (d:Option Nat):aN (aB Tryz.prog) 52 [.agg (aA s),.agg (aU b)] st d=some { dst:=d,val:=.v (.int .i64 (Jx s v b))}:=bF (bA hs.flat (tV b)) (c52 hs hu hp b) (.v _)
def LI (acc:Bool × fB × fB) (n:Node):Bool × fB × fB :=
 if n.status=2 then acc else (true,if acc.1=false∨acc.2.1.aI<n.block.dV.pj.aI then n.block.dV.pj else acc.2.1,if acc.1=false∨acc.2.2.aI<n.block.dV.pf.aI then n.block.dV.pf else acc.2.2)
def o6 (ns:List Node):Bool × fB × fB:=ns.foldl LI (false,iB,iB)
def Jk (ns:List Node):oR:=⟨(o6 ns).2.1,(o6 ns).2.2⟩
theorem o7 (ns:List Node) (k:Nat) (h:k<ns.length):o6 (ns.take (k+1))=LI (o6 (ns.take k)) (nd ns k):=by
 obtain⟨h',e⟩:=Ku (ns:=ns) (i:=(k:Int)) (by omega) (by omega)
 unfold o6;rw[List.take_succ_eq_append_getElem h,List.foldl_append,e];rfl
theorem c67 {s:aM} {v:SV} (hs:SD s v):aB Tryz.prog 67 [.agg (aA s)]=some (.agg (fD (Jk v.ns))):=by
 have hn:=hs.nn
 rw[cL Tryz.func67 rfl aOC rfl];refine jB ?_
 simp only[Z8,seval,hs.tree];refine cJ (fun m st=>∃(k:Nat) (b:Bool) (x y:fB),(st.env 1=.ptr 1 0 0∧st.heap 1 0=some (.cells (aA s))∧st.env 2=.ptr 2 0 0∧st.heap 2 0=some (.cells (fD Nd))∧st.env 3=.ptr 3 0 0∧st.heap 3 0=some (.cells (fD ⟨x,y⟩))∧st.env 4=.v (.bool b)∧st.env 5=.v (.int .i64 k))∧o6 (v.ns.take k)=(b,x,y)∧k≤v.ns.length∧m=v.ns.length-k)
  (fun e st=>e=.exit 0∧∃(x y:fB),(st.env 2=.ptr 2 0 0∧st.heap 2 0=some (.cells (fD Nd))∧st.env 3=.ptr 3 0 0∧st.heap 3 0=some (.cells (fD ⟨x,y⟩)))∧Jk v.ns=⟨x,y⟩) v.ns.length ?step ?start ?rest
 case step =>
  rintro m st ⟨k,b,x,y,hI,hp,hk,hm⟩
  by_cases aZ:(k:Int)<v.ns.length
  ·have q0:(0:Int)≤k:=by omega
   have hw:IntKind.i64.wrap ((k:Int)+1)=((k+1:Nat):Int):=by rw[pV _ (by omega) (by omega)];omega
   have rH:=o7 v.ns k (by omega)
   rw[hp] at rH;unfold LI at rH;by_cases h1:(nd v.ns k).status=2
   ·rw[if_pos h1] at rH;apply oN (v.ns.length-(k+1))
    ·simp only[Z8,seval,hI,aZ,q0,hs.tree,bt h1,hw];rfl
    ·exact⟨k+1,b,x,y,by simp only[E8,seval,hI],rH,by omega,rfl⟩
   rw[if_neg h1] at rH;cases b
   ·simp only[true_or,if_true] at rH;apply oN (v.ns.length-(k+1))
    ·simp only[Z8,seval,hI,aZ,q0,hs.tree,bf h1,hw];rfl
    ·exact⟨k+1,true,_,_,by simp only[E8,seval,hI]<;>rfl,rH,by omega,rfl⟩
   ·simp only[Bool.true_eq_false,false_or] at rH;by_cases h2:x.aI<(nd v.ns k).block.dV.pj.aI
    ·rw[if_pos h2] at rH;by_cases h3:y.aI<(nd v.ns k).block.dV.pf.aI
     ·rw[if_pos h3] at rH;apply oN (v.ns.length-(k+1))
      ·simp only[Z8,seval,hI,aZ,q0,hs.tree,bf h1,h2,h3,hw];rfl
      ·exact⟨k+1,true,_,_,by simp only[E8,seval,hI]<;>rfl,rH,by omega,rfl⟩
     ·rw[if_neg h3] at rH;apply oN (v.ns.length-(k+1))
      ·simp only[Z8,seval,hI,aZ,q0,hs.tree,bf h1,h2,h3,hw];rfl
      ·exact⟨k+1,true,_,_,by simp only[E8,seval,hI]<;>rfl,rH,by omega,rfl⟩
    ·rw[if_neg h2] at rH;by_cases h3:y.aI<(nd v.ns k).block.dV.pf.aI
     ·rw[if_pos h3] at rH;apply oN (v.ns.length-(k+1))
      ·simp only[Z8,seval,hI,aZ,q0,hs.tree,bf h1,h2,h3,hw];rfl
      ·exact⟨k+1,true,_,_,by simp only[E8,seval,hI]<;>rfl,rH,by omega,rfl⟩
     ·rw[if_neg h3] at rH;apply oN (v.ns.length-(k+1))
      ·simp only[Z8,seval,hI,aZ,q0,hs.tree,bf h1,h2,h3,hw];rfl
      ·exact⟨k+1,true,_,_,by simp only[E8,seval,hI]<;>rfl,rH,by omega,rfl⟩
  ·have Ez:k=v.ns.length:=by omega
   rw[Ez,List.take_length] at hp;apply oT (.exit 0)
   ·simp only[Z8,seval,hI,aZ,hs.tree];rfl
   ·exact⟨rfl,x,y,by simp only[E8,seval,hI],by unfold Jk;rw[hp]⟩
 case start=>exact⟨0,false,iB,iB,by simp only[E8,seval]<;>rfl,rfl,by omega,by omega⟩
 case rest =>
  rintro e st ⟨rfl,x,y,hI,hp⟩
  simp only[Z8,seval,hI];exact⟨_,fI rfl (by simp only[E8,seval,hI]<;>rfl) (by simp only[Z8,seval,hI]<;>rfl) (by simp only[eA,and_self,hI]),by rw[hp]⟩
theorem k67 {s:aM} {v:SV} (hs:SD s v) (st:St) (d:Option Nat):aN (aB Tryz.prog) 67 [.agg (aA s)] st d=some { dst:=d,val:=.agg (fD (Jk v.ns))}:=bF (cK hs.flat) (c67 hs) (.agg _ (Du _))
noncomputable def Ge (s:aM) (c:fB):fB:=if s.aG.dS.aI<c.aI then c else s.aG.dS
noncomputable def Bu (s:aM) (c:fB):fB:=if s.aG.fin.aI<c.aI then c else s.aG.fin
def cS (s:aM) (v:SV) (J F:fB):Prop :=
 aJ v.ns J.root<0∨aJ v.ns F.root<0∨(nd v.ns (aJ v.ns J.root)).status=2∨(nd v.ns (aJ v.ns F.root)).status=2∨¬Qf s v.ns (aJ v.ns J.root) J.aI∨¬Qf s v.ns (aJ v.ns F.root) F.aI ∨
 vE v.ns (aJ v.ns F.root) (aJ v.ns J.root)=false∨J.aI<F.aI∨mO s s.now<J.aI∨SL (ol v.T) J<0
noncomputable def o8 (s:aM) (v:SV) (c1 c2:fB):AV:=if cS s v (Ge s c1) (Bu s c2) then .eE [.agg (bV iB),.agg (bV iB),.v (.bool false)] else .eE [.agg (bV (Ge s c1)),.agg (bV (Bu s c2)),.v (.bool true)]
end Go.Ab.Tryz
section
namespace Go.Ab.Tryz
open Classical Go.Proofs Go.Ab
end Go.Ab.Tryz
namespace Go.Ab
end Go.Ab
namespace Go.Ab.Tryz
open Classical Go.Proofs Go.Ab
theorem iJ:aF 7 73 (some 41)=[]∧aF 7 72 (some 41)=[]:=⟨rfl,rfl⟩
theorem iF {α:Type} (a:α) (l m:List α):List.append (a :: l) m=a :: List.append l m:=rfl
theorem iG {α:Type} (m:List α):List.append ([]:List α) m=m:=rfl
theorem c59 {s:aM} {v:SV} (hs:SD s v) (hu:fZ v.ns) (hp:s.cFg.jK≠0) (c1 c2:fB):aB Tryz.prog 59 [.agg (aA s),.agg (bV c1),.agg (bV c2)]=some (o8 s v c1 c2):=by
 have hf:=hs.flat
 have xE:=hs.fT
 rw[cG Tryz.func59 rfl aOD (by kernel_rfl) rfl]
 refine jB ?_
 unfold o8;by_cases a1:s.aG.dS.aI<c1.aI
 ·rw[show Ge s c1=c1 from if_pos a1];by_cases a2:s.aG.fin.aI<c2.aI
  ·rw[show Bu s c2=c2 from if_pos a2];have r1:=dJ v.ns c1.root
   have r2:=dJ v.ns c2.root
   by_cases g1:aJ v.ns c1.root<0
   ·simp only[ZG,seval,Bool.false_and,Prod.mk.injEq,mL,iJ,iF,iG,a1,a2,hs.tree,iY _ _ hs.nn,rV _ hu hs.nn,sA s hp hf,hs.tables,yM _ hs.nT xE,decide_true,decide_false,g1];exact⟨_,by apply cW;rfl;all_goals simp only[aE,bK,Z8,seval,a1,a2]<;>rfl,by rw[if_pos (show cS s v c1 c2 by simp only[cS,g1,not_true_eq_false,not_false_eq_true,true_or,or_true])]⟩
   by_cases g2:aJ v.ns c2.root<0
   ·simp only[ZG,seval,Bool.false_and,Prod.mk.injEq,mL,iJ,iF,iG,a1,a2,hs.tree,iY _ _ hs.nn,rV _ hu hs.nn,sA s hp hf,hs.tables,yM _ hs.nT xE,decide_true,decide_false,g1,g2];exact⟨_,by apply cW;rfl;all_goals simp only[aE,bK,Z8,seval,a1,a2]<;>rfl,by rw[if_pos (show cS s v c1 c2 by simp only[cS,g1,g2,not_true_eq_false,not_false_eq_true,true_or,or_true])]⟩
   have q1:0≤aJ v.ns c1.root:=by omega
   have q2:0≤aJ v.ns c2.root:=by omega
   by_cases g3:(nd v.ns (aJ v.ns c1.root)).status=2
   ·simp only[ZG,seval,Bool.false_and,Prod.mk.injEq,mL,iJ,iF,iG,a1,a2,hs.tree,iY _ _ hs.nn,rV _ hu hs.nn,sA s hp hf,hs.tables,yM _ hs.nT xE,decide_true,decide_false,g1,g2,q1,q2,r1,r2,bt g3];exact⟨_,by apply cW;rfl;all_goals simp only[aE,bK,Z8,seval,a1,a2]<;>rfl,by rw[if_pos (show cS s v c1 c2 by simp only[cS,g1,g2,g3,not_true_eq_false,not_false_eq_true,true_or,or_true])]⟩
   by_cases g4:(nd v.ns (aJ v.ns c2.root)).status=2
   ·simp only[ZG,seval,Bool.false_and,Prod.mk.injEq,mL,iJ,iF,iG,a1,a2,hs.tree,iY _ _ hs.nn,rV _ hu hs.nn,sA s hp hf,hs.tables,yM _ hs.nT xE,decide_true,decide_false,g1,g2,q1,q2,r1,r2,bf g3,bt g4];exact⟨_,by apply cW;rfl;all_goals simp only[aE,bK,Z8,seval,a1,a2]<;>rfl,by rw[if_pos (show cS s v c1 c2 by simp only[cS,g1,g2,g3,g4,not_true_eq_false,not_false_eq_true,true_or,or_true])]⟩
   have Kx:=LG hs (aJ v.ns c1.root) c1.aI q1 r1.2
   have Ky:=LG hs (aJ v.ns c2.root) c2.aI q2 r2.2
   by_cases g5:¬Qf s v.ns (aJ v.ns c1.root) c1.aI
   ·simp only[ZG,seval,Bool.false_and,Prod.mk.injEq,mL,iJ,iF,iG,a1,a2,hs.tree,iY _ _ hs.nn,rV _ hu hs.nn,sA s hp hf,hs.tables,yM _ hs.nT xE,decide_true,decide_false,g1,g2,q1,q2,r1,r2,bf g3,bf g4,Kx,Ky,g5];exact⟨_,by apply cW;rfl;all_goals simp only[aE,bK,Z8,seval,a1,a2]<;>rfl,by rw[if_pos (show cS s v c1 c2 by simp only[cS,g1,g2,g3,g4,g5,not_true_eq_false,not_false_eq_true,true_or,or_true])]⟩
   replace g5:=Classical.not_not.1 g5
   by_cases g6:¬Qf s v.ns (aJ v.ns c2.root) c2.aI
   ·simp only[ZG,seval,Bool.false_and,Prod.mk.injEq,mL,iJ,iF,iG,a1,a2,hs.tree,iY _ _ hs.nn,rV _ hu hs.nn,sA s hp hf,hs.tables,yM _ hs.nT xE,decide_true,decide_false,g1,g2,q1,q2,r1,r2,bf g3,bf g4,Kx,Ky,g5,g6];exact⟨_,by apply cW;rfl;all_goals simp only[aE,bK,Z8,seval,a1,a2]<;>rfl,by rw[if_pos (show cS s v c1 c2 by simp only[cS,g1,g2,g3,g4,g5,g6,not_true_eq_false,not_false_eq_true,true_or,or_true])]⟩
   replace g6:=Classical.not_not.1 g6
   by_cases g7:vE v.ns (aJ v.ns c2.root) (aJ v.ns c1.root)=false
   ·simp only[ZG,seval,Bool.false_and,Prod.mk.injEq,mL,iJ,iF,iG,a1,a2,hs.tree,iY _ _ hs.nn,rV _ hu hs.nn,sA s hp hf,hs.tables,yM _ hs.nT xE,decide_true,decide_false,g1,g2,q1,q2,r1,r2,bf g3,bf g4,Kx,Ky,g5,g6,g7];exact⟨_,by apply cW;rfl;all_goals simp only[aE,bK,Z8,seval,a1,a2]<;>rfl,by rw[if_pos (show cS s v c1 c2 by simp only[cS,g1,g2,g3,g4,g5,g6,g7,not_true_eq_false,not_false_eq_true,true_or,or_true])]⟩
   replace g7:=(by simpa using g7:vE v.ns _ _=true)
   by_cases g8:c1.aI<c2.aI
   ·simp only[ZG,seval,Bool.false_and,Prod.mk.injEq,mL,iJ,iF,iG,a1,a2,hs.tree,iY _ _ hs.nn,rV _ hu hs.nn,sA s hp hf,hs.tables,yM _ hs.nT xE,decide_true,decide_false,g1,g2,q1,q2,r1,r2,bf g3,bf g4,Kx,Ky,g5,g6,g7,g7,g8];exact⟨_,by apply cW;rfl;all_goals simp only[aE,bK,Z8,seval,a1,a2]<;>rfl,by rw[if_pos (show cS s v c1 c2 by simp only[cS,g1,g2,g3,g4,g5,g6,g7,g8,not_true_eq_false,not_false_eq_true,true_or,or_true])]⟩
   by_cases g9:mO s s.now<c1.aI
   ·simp only[ZG,seval,Bool.false_and,Prod.mk.injEq,mL,iJ,iF,iG,a1,a2,hs.tree,iY _ _ hs.nn,rV _ hu hs.nn,sA s hp hf,hs.tables,yM _ hs.nT xE,decide_true,decide_false,g1,g2,q1,q2,r1,r2,bf g3,bf g4,Kx,Ky,g5,g6,g7,g7,g8,g9];exact⟨_,by apply cW;rfl;all_goals simp only[aE,bK,Z8,seval,a1,a2]<;>rfl,by rw[if_pos (show cS s v c1 c2 by simp only[cS,g1,g2,g3,g4,g5,g6,g7,g8,g9,not_true_eq_false,not_false_eq_true,true_or,or_true])]⟩
   by_cases Sl:SL (ol v.T) c1<0
   ·simp only[ZG,seval,Bool.false_and,Prod.mk.injEq,mL,iJ,iF,iG,a1,a2,hs.tree,iY _ _ hs.nn,rV _ hu hs.nn,sA s hp hf,hs.tables,yM _ hs.nT xE,decide_true,decide_false,g1,g2,q1,q2,r1,r2,bf g3,bf g4,Kx,Ky,g5,g6,g7,g7,g8,g9,Sl];exact⟨_,by apply cW;rfl;all_goals simp only[aE,bK,Z8,seval,a1,a2]<;>rfl,by rw[if_pos (show cS s v c1 c2 by simp only[cS,g1,g2,g3,g4,g5,g6,g7,g8,g9,Sl,not_true_eq_false,not_false_eq_true,true_or,or_true])]⟩
   simp only[ZG,seval,Bool.false_and,Prod.mk.injEq,mL,iJ,iF,iG,a1,a2,hs.tree,iY _ _ hs.nn,rV _ hu hs.nn,sA s hp hf,hs.tables,yM _ hs.nT xE,decide_true,decide_false,g1,g2,q1,q2,r1,r2,bf g3,bf g4,Kx,Ky,g5,g6,g7,g7,g8,g9,Sl];exact⟨_,by apply cW;rfl;all_goals simp only[aE,bK,Z8,seval,a1,a2]<;>rfl,by rw[if_neg (show ¬cS s v c1 c2 by simp only[cS,g1,g2,g3,g4,g5,g6,g7,g8,g9,Sl,not_true_eq_false,not_false_eq_true,or_self,Bool.true_eq_false])]⟩
  ·rw[show Bu s c2=s.aG.fin from if_neg a2];have r1:=dJ v.ns c1.root
   have r2:=dJ v.ns s.aG.fin.root
   by_cases g1:aJ v.ns c1.root<0
   ·simp only[ZG,seval,Bool.false_and,Prod.mk.injEq,mL,iJ,iF,iG,a1,a2,hs.tree,iY _ _ hs.nn,rV _ hu hs.nn,sA s hp hf,hs.tables,yM _ hs.nT xE,decide_true,decide_false,g1];exact⟨_,by apply cW;rfl;all_goals simp only[aE,bK,Z8,seval,a1,a2]<;>rfl,by rw[if_pos (show cS s v c1 s.aG.fin by simp only[cS,g1,not_true_eq_false,not_false_eq_true,true_or,or_true])]⟩
   by_cases g2:aJ v.ns s.aG.fin.root<0
   ·simp only[ZG,seval,Bool.false_and,Prod.mk.injEq,mL,iJ,iF,iG,a1,a2,hs.tree,iY _ _ hs.nn,rV _ hu hs.nn,sA s hp hf,hs.tables,yM _ hs.nT xE,decide_true,decide_false,g1,g2];exact⟨_,by apply cW;rfl;all_goals simp only[aE,bK,Z8,seval,a1,a2]<;>rfl,by rw[if_pos (show cS s v c1 s.aG.fin by simp only[cS,g1,g2,not_true_eq_false,not_false_eq_true,true_or,or_true])]⟩
   have q1:0≤aJ v.ns c1.root:=by omega
   have q2:0≤aJ v.ns s.aG.fin.root:=by omega
   by_cases g3:(nd v.ns (aJ v.ns c1.root)).status=2
   ·simp only[ZG,seval,Bool.false_and,Prod.mk.injEq,mL,iJ,iF,iG,a1,a2,hs.tree,iY _ _ hs.nn,rV _ hu hs.nn,sA s hp hf,hs.tables,yM _ hs.nT xE,decide_true,decide_false,g1,g2,q1,q2,r1,r2,bt g3];exact⟨_,by apply cW;rfl;all_goals simp only[aE,bK,Z8,seval,a1,a2]<;>rfl,by rw[if_pos (show cS s v c1 s.aG.fin by simp only[cS,g1,g2,g3,not_true_eq_false,not_false_eq_true,true_or,or_true])]⟩
   by_cases g4:(nd v.ns (aJ v.ns s.aG.fin.root)).status=2
   ·simp only[ZG,seval,Bool.false_and,Prod.mk.injEq,mL,iJ,iF,iG,a1,a2,hs.tree,iY _ _ hs.nn,rV _ hu hs.nn,sA s hp hf,hs.tables,yM _ hs.nT xE,decide_true,decide_false,g1,g2,q1,q2,r1,r2,bf g3,bt g4];exact⟨_,by apply cW;rfl;all_goals simp only[aE,bK,Z8,seval,a1,a2]<;>rfl,by rw[if_pos (show cS s v c1 s.aG.fin by simp only[cS,g1,g2,g3,g4,not_true_eq_false,not_false_eq_true,true_or,or_true])]⟩
   have Kx:=LG hs (aJ v.ns c1.root) c1.aI q1 r1.2
   have Ky:=LG hs (aJ v.ns s.aG.fin.root) s.aG.fin.aI q2 r2.2
   by_cases g5:¬Qf s v.ns (aJ v.ns c1.root) c1.aI
   ·simp only[ZG,seval,Bool.false_and,Prod.mk.injEq,mL,iJ,iF,iG,a1,a2,hs.tree,iY _ _ hs.nn,rV _ hu hs.nn,sA s hp hf,hs.tables,yM _ hs.nT xE,decide_true,decide_false,g1,g2,q1,q2,r1,r2,bf g3,bf g4,Kx,Ky,g5];exact⟨_,by apply cW;rfl;all_goals simp only[aE,bK,Z8,seval,a1,a2]<;>rfl,by rw[if_pos (show cS s v c1 s.aG.fin by simp only[cS,g1,g2,g3,g4,g5,not_true_eq_false,not_false_eq_true,true_or,or_true])]⟩
   replace g5:=Classical.not_not.1 g5
   by_cases g6:¬Qf s v.ns (aJ v.ns s.aG.fin.root) s.aG.fin.aI
   ·simp only[ZG,seval,Bool.false_and,Prod.mk.injEq,mL,iJ,iF,iG,a1,a2,hs.tree,iY _ _ hs.nn,rV _ hu hs.nn,sA s hp hf,hs.tables,yM _ hs.nT xE,decide_true,decide_false,g1,g2,q1,q2,r1,r2,bf g3,bf g4,Kx,Ky,g5,g6];exact⟨_,by apply cW;rfl;all_goals simp only[aE,bK,Z8,seval,a1,a2]<;>rfl,by rw[if_pos (show cS s v c1 s.aG.fin by simp only[cS,g1,g2,g3,g4,g5,g6,not_true_eq_false,not_false_eq_true,true_or,or_true])]⟩
   replace g6:=Classical.not_not.1 g6
   by_cases g7:vE v.ns (aJ v.ns s.aG.fin.root) (aJ v.ns c1.root)=false
   ·simp only[ZG,seval,Bool.false_and,Prod.mk.injEq,mL,iJ,iF,iG,a1,a2,hs.tree,iY _ _ hs.nn,rV _ hu hs.nn,sA s hp hf,hs.tables,yM _ hs.nT xE,decide_true,decide_false,g1,g2,q1,q2,r1,r2,bf g3,bf g4,Kx,Ky,g5,g6,g7];exact⟨_,by apply cW;rfl;all_goals simp only[aE,bK,Z8,seval,a1,a2]<;>rfl,by rw[if_pos (show cS s v c1 s.aG.fin by simp only[cS,g1,g2,g3,g4,g5,g6,g7,not_true_eq_false,not_false_eq_true,true_or,or_true])]⟩
   replace g7:=(by simpa using g7:vE v.ns _ _=true)
   by_cases g8:c1.aI<s.aG.fin.aI
   ·simp only[ZG,seval,Bool.false_and,Prod.mk.injEq,mL,iJ,iF,iG,a1,a2,hs.tree,iY _ _ hs.nn,rV _ hu hs.nn,sA s hp hf,hs.tables,yM _ hs.nT xE,decide_true,decide_false,g1,g2,q1,q2,r1,r2,bf g3,bf g4,Kx,Ky,g5,g6,g7,g7,g8];exact⟨_,by apply cW;rfl;all_goals simp only[aE,bK,Z8,seval,a1,a2]<;>rfl,by rw[if_pos (show cS s v c1 s.aG.fin by simp only[cS,g1,g2,g3,g4,g5,g6,g7,g8,not_true_eq_false,not_false_eq_true,true_or,or_true])]⟩
   by_cases g9:mO s s.now<c1.aI
   ·simp only[ZG,seval,Bool.false_and,Prod.mk.injEq,mL,iJ,iF,iG,a1,a2,hs.tree,iY _ _ hs.nn,rV _ hu hs.nn,sA s hp hf,hs.tables,yM _ hs.nT xE,decide_true,decide_false,g1,g2,q1,q2,r1,r2,bf g3,bf g4,Kx,Ky,g5,g6,g7,g7,g8,g9];exact⟨_,by apply cW;rfl;all_goals simp only[aE,bK,Z8,seval,a1,a2]<;>rfl,by rw[if_pos (show cS s v c1 s.aG.fin by simp only[cS,g1,g2,g3,g4,g5,g6,g7,g8,g9,not_true_eq_false,not_false_eq_true,true_or,or_true])]⟩
   by_cases Sl:SL (ol v.T) c1<0
   ·simp only[ZG,seval,Bool.false_and,Prod.mk.injEq,mL,iJ,iF,iG,a1,a2,hs.tree,iY _ _ hs.nn,rV _ hu hs.nn,sA s hp hf,hs.tables,yM _ hs.nT xE,decide_true,decide_false,g1,g2,q1,q2,r1,r2,bf g3,bf g4,Kx,Ky,g5,g6,g7,g7,g8,g9,Sl];exact⟨_,by apply cW;rfl;all_goals simp only[aE,bK,Z8,seval,a1,a2]<;>rfl,by rw[if_pos (show cS s v c1 s.aG.fin by simp only[cS,g1,g2,g3,g4,g5,g6,g7,g8,g9,Sl,not_true_eq_false,not_false_eq_true,true_or,or_true])]⟩
   simp only[ZG,seval,Bool.false_and,Prod.mk.injEq,mL,iJ,iF,iG,a1,a2,hs.tree,iY _ _ hs.nn,rV _ hu hs.nn,sA s hp hf,hs.tables,yM _ hs.nT xE,decide_true,decide_false,g1,g2,q1,q2,r1,r2,bf g3,bf g4,Kx,Ky,g5,g6,g7,g7,g8,g9,Sl];exact⟨_,by apply cW;rfl;all_goals simp only[aE,bK,Z8,seval,a1,a2]<;>rfl,by rw[if_neg (show ¬cS s v c1 s.aG.fin by simp only[cS,g1,g2,g3,g4,g5,g6,g7,g8,g9,Sl,not_true_eq_false,not_false_eq_true,or_self,Bool.true_eq_false])]⟩
 ·rw[show Ge s c1=s.aG.dS from if_neg a1];by_cases a2:s.aG.fin.aI<c2.aI
  ·rw[show Bu s c2=c2 from if_pos a2];have r1:=dJ v.ns s.aG.dS.root
   have r2:=dJ v.ns c2.root
   by_cases g1:aJ v.ns s.aG.dS.root<0
   ·simp only[ZG,seval,Bool.false_and,Prod.mk.injEq,mL,iJ,iF,iG,a1,a2,hs.tree,iY _ _ hs.nn,rV _ hu hs.nn,sA s hp hf,hs.tables,yM _ hs.nT xE,decide_true,decide_false,g1];exact⟨_,by apply cW;rfl;all_goals simp only[aE,bK,Z8,seval,a1,a2]<;>rfl,by rw[if_pos (show cS s v s.aG.dS c2 by simp only[cS,g1,not_true_eq_false,not_false_eq_true,true_or,or_true])]⟩
   by_cases g2:aJ v.ns c2.root<0
   ·simp only[ZG,seval,Bool.false_and,Prod.mk.injEq,mL,iJ,iF,iG,a1,a2,hs.tree,iY _ _ hs.nn,rV _ hu hs.nn,sA s hp hf,hs.tables,yM _ hs.nT xE,decide_true,decide_false,g1,g2];exact⟨_,by apply cW;rfl;all_goals simp only[aE,bK,Z8,seval,a1,a2]<;>rfl,by rw[if_pos (show cS s v s.aG.dS c2 by simp only[cS,g1,g2,not_true_eq_false,not_false_eq_true,true_or,or_true])]⟩
   have q1:0≤aJ v.ns s.aG.dS.root:=by omega
   have q2:0≤aJ v.ns c2.root:=by omega
   by_cases g3:(nd v.ns (aJ v.ns s.aG.dS.root)).status=2
   ·simp only[ZG,seval,Bool.false_and,Prod.mk.injEq,mL,iJ,iF,iG,a1,a2,hs.tree,iY _ _ hs.nn,rV _ hu hs.nn,sA s hp hf,hs.tables,yM _ hs.nT xE,decide_true,decide_false,g1,g2,q1,q2,r1,r2,bt g3];exact⟨_,by apply cW;rfl;all_goals simp only[aE,bK,Z8,seval,a1,a2]<;>rfl,by rw[if_pos (show cS s v s.aG.dS c2 by simp only[cS,g1,g2,g3,not_true_eq_false,not_false_eq_true,true_or,or_true])]⟩
   by_cases g4:(nd v.ns (aJ v.ns c2.root)).status=2
   ·simp only[ZG,seval,Bool.false_and,Prod.mk.injEq,mL,iJ,iF,iG,a1,a2,hs.tree,iY _ _ hs.nn,rV _ hu hs.nn,sA s hp hf,hs.tables,yM _ hs.nT xE,decide_true,decide_false,g1,g2,q1,q2,r1,r2,bf g3,bt g4];exact⟨_,by apply cW;rfl;all_goals simp only[aE,bK,Z8,seval,a1,a2]<;>rfl,by rw[if_pos (show cS s v s.aG.dS c2 by simp only[cS,g1,g2,g3,g4,not_true_eq_false,not_false_eq_true,true_or,or_true])]⟩
   have Kx:=LG hs (aJ v.ns s.aG.dS.root) s.aG.dS.aI q1 r1.2
   have Ky:=LG hs (aJ v.ns c2.root) c2.aI q2 r2.2
   by_cases g5:¬Qf s v.ns (aJ v.ns s.aG.dS.root) s.aG.dS.aI
   ·simp only[ZG,seval,Bool.false_and,Prod.mk.injEq,mL,iJ,iF,iG,a1,a2,hs.tree,iY _ _ hs.nn,rV _ hu hs.nn,sA s hp hf,hs.tables,yM _ hs.nT xE,decide_true,decide_false,g1,g2,q1,q2,r1,r2,bf g3,bf g4,Kx,Ky,g5];exact⟨_,by apply cW;rfl;all_goals simp only[aE,bK,Z8,seval,a1,a2]<;>rfl,by rw[if_pos (show cS s v s.aG.dS c2 by simp only[cS,g1,g2,g3,g4,g5,not_true_eq_false,not_false_eq_true,true_or,or_true])]⟩
   replace g5:=Classical.not_not.1 g5
   by_cases g6:¬Qf s v.ns (aJ v.ns c2.root) c2.aI
   ·simp only[ZG,seval,Bool.false_and,Prod.mk.injEq,mL,iJ,iF,iG,a1,a2,hs.tree,iY _ _ hs.nn,rV _ hu hs.nn,sA s hp hf,hs.tables,yM _ hs.nT xE,decide_true,decide_false,g1,g2,q1,q2,r1,r2,bf g3,bf g4,Kx,Ky,g5,g6];exact⟨_,by apply cW;rfl;all_goals simp only[aE,bK,Z8,seval,a1,a2]<;>rfl,by rw[if_pos (show cS s v s.aG.dS c2 by simp only[cS,g1,g2,g3,g4,g5,g6,not_true_eq_false,not_false_eq_true,true_or,or_true])]⟩
   replace g6:=Classical.not_not.1 g6
   by_cases g7:vE v.ns (aJ v.ns c2.root) (aJ v.ns s.aG.dS.root)=false
   ·simp only[ZG,seval,Bool.false_and,Prod.mk.injEq,mL,iJ,iF,iG,a1,a2,hs.tree,iY _ _ hs.nn,rV _ hu hs.nn,sA s hp hf,hs.tables,yM _ hs.nT xE,decide_true,decide_false,g1,g2,q1,q2,r1,r2,bf g3,bf g4,Kx,Ky,g5,g6,g7];exact⟨_,by apply cW;rfl;all_goals simp only[aE,bK,Z8,seval,a1,a2]<;>rfl,by rw[if_pos (show cS s v s.aG.dS c2 by simp only[cS,g1,g2,g3,g4,g5,g6,g7,not_true_eq_false,not_false_eq_true,true_or,or_true])]⟩
   replace g7:=(by simpa using g7:vE v.ns _ _=true)
   by_cases g8:s.aG.dS.aI<c2.aI
   ·simp only[ZG,seval,Bool.false_and,Prod.mk.injEq,mL,iJ,iF,iG,a1,a2,hs.tree,iY _ _ hs.nn,rV _ hu hs.nn,sA s hp hf,hs.tables,yM _ hs.nT xE,decide_true,decide_false,g1,g2,q1,q2,r1,r2,bf g3,bf g4,Kx,Ky,g5,g6,g7,g7,g8];exact⟨_,by apply cW;rfl;all_goals simp only[aE,bK,Z8,seval,a1,a2]<;>rfl,by rw[if_pos (show cS s v s.aG.dS c2 by simp only[cS,g1,g2,g3,g4,g5,g6,g7,g8,not_true_eq_false,not_false_eq_true,true_or,or_true])]⟩
   by_cases g9:mO s s.now<s.aG.dS.aI
   ·simp only[ZG,seval,Bool.false_and,Prod.mk.injEq,mL,iJ,iF,iG,a1,a2,hs.tree,iY _ _ hs.nn,rV _ hu hs.nn,sA s hp hf,hs.tables,yM _ hs.nT xE,decide_true,decide_false,g1,g2,q1,q2,r1,r2,bf g3,bf g4,Kx,Ky,g5,g6,g7,g7,g8,g9];exact⟨_,by apply cW;rfl;all_goals simp only[aE,bK,Z8,seval,a1,a2]<;>rfl,by rw[if_pos (show cS s v s.aG.dS c2 by simp only[cS,g1,g2,g3,g4,g5,g6,g7,g8,g9,not_true_eq_false,not_false_eq_true,true_or,or_true])]⟩
   by_cases Sl:SL (ol v.T) s.aG.dS<0
   ·simp only[ZG,seval,Bool.false_and,Prod.mk.injEq,mL,iJ,iF,iG,a1,a2,hs.tree,iY _ _ hs.nn,rV _ hu hs.nn,sA s hp hf,hs.tables,yM _ hs.nT xE,decide_true,decide_false,g1,g2,q1,q2,r1,r2,bf g3,bf g4,Kx,Ky,g5,g6,g7,g7,g8,g9,Sl];exact⟨_,by apply cW;rfl;all_goals simp only[aE,bK,Z8,seval,a1,a2]<;>rfl,by rw[if_pos (show cS s v s.aG.dS c2 by simp only[cS,g1,g2,g3,g4,g5,g6,g7,g8,g9,Sl,not_true_eq_false,not_false_eq_true,true_or,or_true])]⟩
   simp only[ZG,seval,Bool.false_and,Prod.mk.injEq,mL,iJ,iF,iG,a1,a2,hs.tree,iY _ _ hs.nn,rV _ hu hs.nn,sA s hp hf,hs.tables,yM _ hs.nT xE,decide_true,decide_false,g1,g2,q1,q2,r1,r2,bf g3,bf g4,Kx,Ky,g5,g6,g7,g7,g8,g9,Sl];exact⟨_,by apply cW;rfl;all_goals simp only[aE,bK,Z8,seval,a1,a2]<;>rfl,by rw[if_neg (show ¬cS s v s.aG.dS c2 by simp only[cS,g1,g2,g3,g4,g5,g6,g7,g8,g9,Sl,not_true_eq_false,not_false_eq_true,or_self,Bool.true_eq_false])]⟩
  ·rw[show Bu s c2=s.aG.fin from if_neg a2];have r1:=dJ v.ns s.aG.dS.root
   have r2:=dJ v.ns s.aG.fin.root
   by_cases g1:aJ v.ns s.aG.dS.root<0
   ·simp only[ZG,seval,Bool.false_and,Prod.mk.injEq,mL,iJ,iF,iG,a1,a2,hs.tree,iY _ _ hs.nn,rV _ hu hs.nn,sA s hp hf,hs.tables,yM _ hs.nT xE,decide_true,decide_false,g1];exact⟨_,by apply cW;rfl;all_goals simp only[aE,bK,Z8,seval,a1,a2]<;>rfl,by rw[if_pos (show cS s v s.aG.dS s.aG.fin by simp only[cS,g1,not_true_eq_false,not_false_eq_true,true_or,or_true])]⟩
   by_cases g2:aJ v.ns s.aG.fin.root<0
   ·simp only[ZG,seval,Bool.false_and,Prod.mk.injEq,mL,iJ,iF,iG,a1,a2,hs.tree,iY _ _ hs.nn,rV _ hu hs.nn,sA s hp hf,hs.tables,yM _ hs.nT xE,decide_true,decide_false,g1,g2];exact⟨_,by apply cW;rfl;all_goals simp only[aE,bK,Z8,seval,a1,a2]<;>rfl,by rw[if_pos (show cS s v s.aG.dS s.aG.fin by simp only[cS,g1,g2,not_true_eq_false,not_false_eq_true,true_or,or_true])]⟩
   have q1:0≤aJ v.ns s.aG.dS.root:=by omega
   have q2:0≤aJ v.ns s.aG.fin.root:=by omega
   by_cases g3:(nd v.ns (aJ v.ns s.aG.dS.root)).status=2
   ·simp only[ZG,seval,Bool.false_and,Prod.mk.injEq,mL,iJ,iF,iG,a1,a2,hs.tree,iY _ _ hs.nn,rV _ hu hs.nn,sA s hp hf,hs.tables,yM _ hs.nT xE,decide_true,decide_false,g1,g2,q1,q2,r1,r2,bt g3];exact⟨_,by apply cW;rfl;all_goals simp only[aE,bK,Z8,seval,a1,a2]<;>rfl,by rw[if_pos (show cS s v s.aG.dS s.aG.fin by simp only[cS,g1,g2,g3,not_true_eq_false,not_false_eq_true,true_or,or_true])]⟩
   by_cases g4:(nd v.ns (aJ v.ns s.aG.fin.root)).status=2
   ·simp only[ZG,seval,Bool.false_and,Prod.mk.injEq,mL,iJ,iF,iG,a1,a2,hs.tree,iY _ _ hs.nn,rV _ hu hs.nn,sA s hp hf,hs.tables,yM _ hs.nT xE,decide_true,decide_false,g1,g2,q1,q2,r1,r2,bf g3,bt g4];exact⟨_,by apply cW;rfl;all_goals simp only[aE,bK,Z8,seval,a1,a2]<;>rfl,by rw[if_pos (show cS s v s.aG.dS s.aG.fin by simp only[cS,g1,g2,g3,g4,not_true_eq_false,not_false_eq_true,true_or,or_true])]⟩
   have Kx:=LG hs (aJ v.ns s.aG.dS.root) s.aG.dS.aI q1 r1.2
   have Ky:=LG hs (aJ v.ns s.aG.fin.root) s.aG.fin.aI q2 r2.2
   by_cases g5:¬Qf s v.ns (aJ v.ns s.aG.dS.root) s.aG.dS.aI
   ·simp only[ZG,seval,Bool.false_and,Prod.mk.injEq,mL,iJ,iF,iG,a1,a2,hs.tree,iY _ _ hs.nn,rV _ hu hs.nn,sA s hp hf,hs.tables,yM _ hs.nT xE,decide_true,decide_false,g1,g2,q1,q2,r1,r2,bf g3,bf g4,Kx,Ky,g5];exact⟨_,by apply cW;rfl;all_goals simp only[aE,bK,Z8,seval,a1,a2]<;>rfl,by rw[if_pos (show cS s v s.aG.dS s.aG.fin by simp only[cS,g1,g2,g3,g4,g5,not_true_eq_false,not_false_eq_true,true_or,or_true])]⟩
   replace g5:=Classical.not_not.1 g5
   by_cases g6:¬Qf s v.ns (aJ v.ns s.aG.fin.root) s.aG.fin.aI
   ·simp only[ZG,seval,Bool.false_and,Prod.mk.injEq,mL,iJ,iF,iG,a1,a2,hs.tree,iY _ _ hs.nn,rV _ hu hs.nn,sA s hp hf,hs.tables,yM _ hs.nT xE,decide_true,decide_false,g1,g2,q1,q2,r1,r2,bf g3,bf g4,Kx,Ky,g5,g6];exact⟨_,by apply cW;rfl;all_goals simp only[aE,bK,Z8,seval,a1,a2]<;>rfl,by rw[if_pos (show cS s v s.aG.dS s.aG.fin by simp only[cS,g1,g2,g3,g4,g5,g6,not_true_eq_false,not_false_eq_true,true_or,or_true])]⟩
   replace g6:=Classical.not_not.1 g6
   by_cases g7:vE v.ns (aJ v.ns s.aG.fin.root) (aJ v.ns s.aG.dS.root)=false
   ·simp only[ZG,seval,Bool.false_and,Prod.mk.injEq,mL,iJ,iF,iG,a1,a2,hs.tree,iY _ _ hs.nn,rV _ hu hs.nn,sA s hp hf,hs.tables,yM _ hs.nT xE,decide_true,decide_false,g1,g2,q1,q2,r1,r2,bf g3,bf g4,Kx,Ky,g5,g6,g7];exact⟨_,by apply cW;rfl;all_goals simp only[aE,bK,Z8,seval,a1,a2]<;>rfl,by rw[if_pos (show cS s v s.aG.dS s.aG.fin by simp only[cS,g1,g2,g3,g4,g5,g6,g7,not_true_eq_false,not_false_eq_true,true_or,or_true])]⟩
   replace g7:=(by simpa using g7:vE v.ns _ _=true)
   by_cases g8:s.aG.dS.aI<s.aG.fin.aI
   ·simp only[ZG,seval,Bool.false_and,Prod.mk.injEq,mL,iJ,iF,iG,a1,a2,hs.tree,iY _ _ hs.nn,rV _ hu hs.nn,sA s hp hf,hs.tables,yM _ hs.nT xE,decide_true,decide_false,g1,g2,q1,q2,r1,r2,bf g3,bf g4,Kx,Ky,g5,g6,g7,g7,g8];exact⟨_,by apply cW;rfl;all_goals simp only[aE,bK,Z8,seval,a1,a2]<;>rfl,by rw[if_pos (show cS s v s.aG.dS s.aG.fin by simp only[cS,g1,g2,g3,g4,g5,g6,g7,g8,not_true_eq_false,not_false_eq_true,true_or,or_true])]⟩
   by_cases g9:mO s s.now<s.aG.dS.aI
   ·simp only[ZG,seval,Bool.false_and,Prod.mk.injEq,mL,iJ,iF,iG,a1,a2,hs.tree,iY _ _ hs.nn,rV _ hu hs.nn,sA s hp hf,hs.tables,yM _ hs.nT xE,decide_true,decide_false,g1,g2,q1,q2,r1,r2,bf g3,bf g4,Kx,Ky,g5,g6,g7,g7,g8,g9];exact⟨_,by apply cW;rfl;all_goals simp only[aE,bK,Z8,seval,a1,a2]<;>rfl,by rw[if_pos (show cS s v s.aG.dS s.aG.fin by simp only[cS,g1,g2,g3,g4,g5,g6,g7,g8,g9,not_true_eq_false,not_false_eq_true,true_or,or_true])]⟩
   by_cases Sl:SL (ol v.T) s.aG.dS<0
   ·simp only[ZG,seval,Bool.false_and,Prod.mk.injEq,mL,iJ,iF,iG,a1,a2,hs.tree,iY _ _ hs.nn,rV _ hu hs.nn,sA s hp hf,hs.tables,yM _ hs.nT xE,decide_true,decide_false,g1,g2,q1,q2,r1,r2,bf g3,bf g4,Kx,Ky,g5,g6,g7,g7,g8,g9,Sl];exact⟨_,by apply cW;rfl;all_goals simp only[aE,bK,Z8,seval,a1,a2]<;>rfl,by rw[if_pos (show cS s v s.aG.dS s.aG.fin by simp only[cS,g1,g2,g3,g4,g5,g6,g7,g8,g9,Sl,not_true_eq_false,not_false_eq_true,true_or,or_true])]⟩
   simp only[ZG,seval,Bool.false_and,Prod.mk.injEq,mL,iJ,iF,iG,a1,a2,hs.tree,iY _ _ hs.nn,rV _ hu hs.nn,sA s hp hf,hs.tables,yM _ hs.nT xE,decide_true,decide_false,g1,g2,q1,q2,r1,r2,bf g3,bf g4,Kx,Ky,g5,g6,g7,g7,g8,g9,Sl];exact⟨_,by apply cW;rfl;all_goals simp only[aE,bK,Z8,seval,a1,a2]<;>rfl,by rw[if_neg (show ¬cS s v s.aG.dS s.aG.fin by simp only[cS,g1,g2,g3,g4,g5,g6,g7,g8,g9,Sl,not_true_eq_false,not_false_eq_true,or_self,Bool.true_eq_false])]⟩
theorem k59 {s:aM} {v:SV} (hs:SD s v) (hu:fZ v.ns) (hp:s.cFg.jK≠0) (c1 c2:fB) (st:St) (d:Option Nat):aN (aB Tryz.prog) 59 [.agg (aA s),.agg (bV c1),.agg (bV c2)] st d=some { dst:=d,val:=o8 s v c1 c2 }:=bF (mW hs.flat (.agg _ (cT c1)) (.agg _ (cT c2))) (c59 hs hu hp c1 c2) (by unfold o8;split<;>exact .eE _ (mW (.agg _ (cT _)) (.agg _ (cT _)) (.v _)))
end Go.Ab.Tryz
end
