/-
  Part 11 of the proof: an evaluator of programs, its soundness, and what functions of this program compute.
-/
import Derived.Test.YtmcjkemalibacaaGreatK10
import Derived.Test.YtmcjkemalibacaaGreatK9
set_option linter.all false
set_option maxRecDepth 20000
set_option maxHeartbeats 40000000
namespace Go.Ab.Tryz
open Classical Go.Proofs Go.Ab
theorem aSb (ns:List Node) (hu:iB ns) (hr:(nd ns 0).up=-1) (hn:(ns.length:Int)<1000000) (i:Int) (v:gO) (l:List Int) (hl:(l.length:Int)<1000000) {kv:AV} (hkv:Zy kv l) :
 aC Tryz.prog 222 [.agg (cU ⟨ns⟩),.v (.int .i64 i),.agg (dD v),kv]=some (XI ns i v l):=by
 rw[cL Tryz.func222 rfl aMF (by rcases hkv with rfl|⟨rfl,rfl⟩<;>rfl)]
 have h86:=WC ns i
 unfold XI;by_cases hm:0<=i/\i<ns.length
 ·obtain⟨i0,i1⟩:=hm
  have hd:(decide (0<=i) && decide (i<(ns.length:Int)))=true:=by simp[i0,i1]
  rw[hd] at h86;rw[if_neg (by simp[i0,i1])]
  by_cases h1:v.kind=1
  ·rw[if_pos h1];have b1:(v.kind == 1)=true:=by simp[h1]
   have h96:=aMB ns hu hn i
   rcases K4 ns hn i with ⟨e,he⟩|⟨q,he,_⟩
   all_goals
    rw[he] at h96;rw[he];simp only[ZZ,seval,h86,b1,h96,eC];exact dJ rfl (by simp only[bX,ZZ,seval];rfl) (by simp only[bX,EV,seval]<;>rfl) (by simp only[EV,seval]<;>rfl) (by simp only[EV,seval]<;>rfl)
  ·rw[if_neg h1];have b1:(v.kind == 1)=false:=by simp[h1]
   by_cases h2:v.kind=2
   ·rw[if_pos h2];have b2:(v.kind == 2)=true:=by simp[h2]
    have b3:(v.kind == 3)=false:=by simp[h2]
    have b4:(v.kind == 4)=false:=by simp[h2]
    have hRe:=aSa ns hu hr hn i v.dO
    have hfact:=XH hu hr i0 i1 v.dO
    have hv:=hkv.view
    have hix:=fun st (k:IntKind) (i:Int) h0 h1=>hkv.idx st (k:=k) (i:=i) h0 h1
    have h46:=Px ns hu hn
    unfold Y9;obtain⟨a,ha⟩:∃a,(pC ns i v.dO).1=a:=⟨_,rfl⟩
    obtain⟨c,hc⟩:∃c,(pC ns i v.dO).2=c:=⟨_,rfl⟩
    rw[ha,hc] at hRe hfact;rw[ha,hc];simp only[ZZ,seval,h86,b1,b2,b3,b4,hRe,eC];refine lP (fun n st=>∃k:Nat,(st.env 3=kv/\st.env 4=.ptr 4 0 0/\st.heap 4 0=some (.cells (cU ⟨ns⟩))/\st.env 8=.ptr 8 0 0/\st.heap 8 0=some (.cells [.v (.slice none 0 0)])/\st.env 10=.v (.int .i64 a)/\st.env 11=.v (.int .i64 c)/\st.env 12=.v (.int .i64 k))/\(∀j:Int,0<=j->j<k->Bw ns c (it l j)=false)/\k<=l.length/\n=l.length-k)
     (fun e st=>(e=.ret/\C6 ns c l/\st.env 8=.ptr 8 0 0/\st.heap 8 0=some (.cells [.v (.slice none 0 0)])/\st.env 9=.v (.int .i64 21))\/(e=.exit 1/\¬C6 ns c l/\st.env 4=.ptr 4 0 0/\st.heap 4 0=some (.cells (cU ⟨ns⟩))/\st.env 8=.ptr 8 0 0/\st.heap 8 0=some (.cells [.v (.slice none 0 0)])/\st.env 10=.v (.int .i64 a)/\st.env 11=.v (.int .i64 c))) l.length ?step ?start ?rest
    case step =>
     rintro n st ⟨k,hI,hj,hk,Kk⟩
     by_cases aZ:(k:Int)<l.length
     ·have q0:(0:Int)<=k:=by omega
      have hw:IntKind.i64.wrap ((k:Int)+1)=((k+1:Nat):Int):=by rw[Im _ (by omega) (by omega)];omega
      cases hA:Bw ns c (it l k)
      ·apply oN (l.length-(k+1))
       ·simp only[ZZ,seval,hI,aZ,q0,hv,hix,h46,hA,hw];rfl
       ·exact⟨k+1,by simp only[EV,seval,hI],fun j j0 j1=>by
        by_cases hjk:j<k
        ·exact hj j j0 hjk
        ·rw[show j=(k:Int) by omega];exact hA,by omega,rfl⟩
      ·apply oT (.ret)
       ·simp only[ZZ,seval,hI,aZ,q0,hv,hix,h46,hA];rfl
       ·exact .inl ⟨rfl,⟨_,Fu q0 aZ,hA⟩,by simp only[EV,seval,hI],by simp only[EV,seval,hI],by simp only[EV,seval,hI]⟩
     ·obtain rfl:k=l.length:=by omega
      have hno:¬C6 ns c l:=by
       rintro⟨x,hx,hxa⟩
       obtain⟨j,hj',rfl⟩:=List.getElem_of_mem hx
       have:=hj j (by omega) (by omega)
       rw[show it l (j:Int)=l[j] by simp[it,hj']] at this
       rw[this] at hxa;cases hxa
      apply oT (.exit 1)
      ·simp only[ZZ,seval,hI,hv,aZ];rfl
      ·exact .inr ⟨rfl,hno,by simp only[EV,seval,hI]⟩
    case start=>exact⟨0,by simp only[EV,seval],fun j _ _=>by omega,by omega,by omega⟩
    case rest =>
     rintro e st (⟨rfl,hk,hI⟩|⟨rfl,hk,hI⟩)
     ·rw[if_pos hk];simp only[ZZ,seval];exact dJ rfl (by simp only[bX,ZZ,seval,hI];rfl) (by simp only[bX,EV,seval,hI]<;>rfl) (by simp only[EV,seval]<;>rfl) (by simp only[EV,seval]<;>rfl)
     ·rw[if_neg hk];by_cases h0:0<=a
      ·rw[if_pos h0];have nM:a∈path ns i:=by
        rcases hfact.2 with h|h
        ·omega
        ·exact h.1
       obtain⟨_,a1⟩:=Yj hu a nM
       have h96:=aMB ns hu hn a
       rw[show W4 ns a=stA (raO ns a) from if_pos ⟨h0,a1⟩] at h96;cases ho:raO ns a with
       | none =>
         rw[ho] at h96;simp only[stA,EW] at h96;simp only[ZZ,seval,hI,h0,h96,eC];exact dJ rfl (by simp only[bX,ZZ,seval,hI];rfl) (by simp only[bX,EV,seval,hI]<;>rfl) (by simp only[EV,seval]<;>rfl) (by simp only[EV,seval]<;>rfl)
       | some r =>
         rw[ho] at h96;simp only[stA] at h96;have hR:=K5 hu ho
         have hu2:=hR.c.su.aR7 hu
         have h97:=aMC r hu2 (by rw[hR.c.len];exact hn) c
         rcases HQ r (by rw[hR.c.len];exact hn) c with ⟨e,he⟩|⟨q,he,_⟩
         all_goals
          rw[he] at h97;simp only[he];simp only[ZZ,seval,hI,h0,h96,h97,eC];exact dJ rfl (by simp only[bX,ZZ,seval,hI];rfl) (by simp only[bX,EV,seval,hI]<;>rfl) (by simp only[EV,seval]<;>rfl) (by simp only[EV,seval]<;>rfl)
      ·rw[if_neg h0];have h97:=aMC ns hu hn c
       rcases HQ ns hn c with ⟨e,he⟩|⟨q,he,_⟩
       all_goals
        rw[he] at h97;rw[he];simp only[ZZ,seval,hI,h0,h97,eC];exact dJ rfl (by simp only[bX,ZZ,seval,hI];rfl) (by simp only[bX,EV,seval,hI]<;>rfl) (by simp only[EV,seval]<;>rfl) (by simp only[EV,seval]<;>rfl)
   ·rw[if_neg h2];have b2:(v.kind == 2)=false:=by simp[h2]
    by_cases h3:v.kind=3
    ·rw[if_pos (.inl h3)];have b3:(v.kind == 3)=true:=by simp[h3]
     simp only[ZZ,seval,h86,b1,b2,b3];exact dJ rfl (by simp only[bX,ZZ,seval];rfl) (by simp only[bX,EV,seval]<;>rfl) (by simp only[EV,seval]<;>rfl) (by simp only[EV,seval]<;>rfl)
    ·have b3:(v.kind == 3)=false:=by simp[h3]
     by_cases h4:v.kind=4
     ·rw[if_pos (.inr h4)];have b4:(v.kind == 4)=true:=by simp[h4]
      simp only[ZZ,seval,h86,b1,b2,b3,b4];exact dJ rfl (by simp only[bX,ZZ,seval];rfl) (by simp only[bX,EV,seval]<;>rfl) (by simp only[EV,seval]<;>rfl) (by simp only[EV,seval]<;>rfl)
     ·rw[if_neg (by omega)]
      have b4:(v.kind == 4)=false:=by simp[h4]
      simp only[ZZ,seval,h86,b1,b2,b3,b4];exact dJ rfl (by simp only[bX,ZZ,seval];rfl) (by simp only[bX,EV,seval]<;>rfl) (by simp only[EV,seval]<;>rfl) (by simp only[EV,seval]<;>rfl)
 ·rw[if_pos hm];have hd:(decide (0<=i) && decide (i<(ns.length:Int)))=false:=by
   by_cases h0:0<=i
   ·have:¬i<ns.length:=fun h=>hm ⟨h0,h⟩
    simp[this]
   ·simp[h0]
  rw[hd] at h86;simp only[ZZ,seval,h86];exact dJ rfl (by simp only[bX,ZZ,seval];rfl) (by simp only[bX,EV,seval]<;>rfl) (by simp only[EV,seval]<;>rfl) (by simp only[EV,seval]<;>rfl)
theorem Dr (s:Config):Flat (.agg (bU s))↔Flat s.jQ:=by
 constructor
 ·intro h;have h:∀x∈bU s,Flat x:=by cases h with|agg _ h=>exact h
  exact h _ (List.mem_of_getElem? (Ae s))
 ·intro h0;exact .agg _ (uJ s h0)
theorem Qd (s:vK):Flat (.agg (eP s))↔Flat s.dO/\Flat s.gW:=by
 constructor
 ·intro h;have h:∀x∈eP s,Flat x:=by cases h with|agg _ h=>exact h
  exact⟨h _ (List.mem_of_getElem? (vV s)),h _ (List.mem_of_getElem? (xX s))⟩
 ·rintro⟨h0,h1⟩
  exact .agg _ (qT s h0 h1)
theorem HU (s:Af):Flat (.agg (jL s))↔Flat s.early/\Flat s.bV:=by
 constructor
 ·intro h;have h:∀x∈jL s,Flat x:=by cases h with|agg _ h=>exact h
  exact⟨h _ (List.mem_of_getElem? (vW s)),h _ (List.mem_of_getElem? (tI s))⟩
 ·rintro⟨h0,h1⟩
  exact .agg _ (Qe s h0 h1)
theorem PS (s:Hd):Flat (.agg (mI s))↔Flat s.nodes:=by
 constructor
 ·intro h;have h:∀x∈mI s,Flat x:=by cases h with|agg _ h=>exact h
  exact h _ (List.mem_of_getElem? (xY s))
 ·intro h0;exact .agg _ (xH s h0)
theorem Is (s:aO):Flat (.agg (aB s))↔Flat s.cFg.jQ/\Flat s.gE.dO/\Flat s.gE.gW/\Flat s.dR.early/\Flat s.dR.bV/\Flat s.tree.nodes/\Flat s.tables:=by
 constructor
 ·intro h;have h:∀x∈aB s,Flat x:=by cases h with|agg _ h=>exact h
  exact⟨h _ (List.mem_of_getElem? (qV s)),h _ (List.mem_of_getElem? (pD s)),h _ (List.mem_of_getElem? (qF s)),h _ (List.mem_of_getElem? (pE s)),h _ (List.mem_of_getElem? (nN s)),h _ (List.mem_of_getElem? (qW s)),h _ (List.mem_of_getElem? (vX s))⟩
 ·rintro⟨h0,h1,h2,h3,h4,h5,h6⟩
  exact .agg _ (Vw s h0 h1 h2 h3 h4 h5 h6)
theorem pP (s:State):Flat (.agg (aF s))↔Flat s.store.cFg.jQ/\Flat s.store.gE.dO/\Flat s.store.gE.gW/\Flat s.store.dR.early/\Flat s.store.dR.bV/\Flat s.store.tree.nodes/\Flat s.store.tables/\Flat s.iM/\Flat s.kU:=by
 constructor
 ·intro h;have h:∀x∈aF s,Flat x:=by cases h with|agg _ h=>exact h
  exact⟨h _ (List.mem_of_getElem? (qY s)),h _ (List.mem_of_getElem? (pQ s)),h _ (List.mem_of_getElem? (qM s)),h _ (List.mem_of_getElem? (pR s)),h _ (List.mem_of_getElem? (oH s)),h _ (List.mem_of_getElem? (qZ s)),h _ (List.mem_of_getElem? (uK s)),h _ (List.mem_of_getElem? (Ag s)),h _ (List.mem_of_getElem? (Bx s))⟩
 ·rintro⟨h0,h1,h2,h3,h4,h5,h6,h7,h8⟩
  exact .agg _ (PT s h0 h1 h2 h3 h4 h5 h6 h7 h8)
theorem Ah (s:sP):Flat (.agg (gZ s))↔Flat s.eU:=by
 constructor
 ·intro h;have h:∀x∈gZ s,Flat x:=by cases h with|agg _ h=>exact h
  exact h _ (List.mem_of_getElem? (Fz s))
 ·intro h0;exact .agg _ (Tf s h0)
theorem Ai (s:Claim):Flat (.agg (gN s))↔Flat s.eU:=by
 constructor
 ·intro h;have h:∀x∈gN s,Flat x:=by cases h with|agg _ h=>exact h
  exact h _ (List.mem_of_getElem? (uL s))
 ·intro h0;exact .agg _ (It s h0)
theorem nF (s:fY):Flat (.agg (bZ s))↔Flat s.first.eU/\Flat s.second.eU:=by
 constructor
 ·intro h;have h:∀x∈bZ s,Flat x:=by cases h with|agg _ h=>exact h
  exact⟨h _ (List.mem_of_getElem? (oI s)),h _ (List.mem_of_getElem? (nP s))⟩
 ·rintro⟨h0,h1⟩
  exact .agg _ (Iu s h0 h1)
theorem kK (s:Table):Flat (.agg (cF s))↔Flat s.jQ:=by
 constructor
 ·intro h;have h:∀x∈cF s,Flat x:=by cases h with|agg _ h=>exact h
  exact h _ (List.mem_of_getElem? (Cv s))
 ·intro h0;exact .agg _ (Iv s h0)
theorem XJ (s:xU):Flat (.agg (kX s))↔Flat s.Hp.eU/\Flat s.oX.first.eU/\Flat s.oX.second.eU/\Flat s.table.jQ:=by
 constructor
 ·intro h;have h:∀x∈kX s,Flat x:=by cases h with|agg _ h=>exact h
  exact⟨h _ (List.mem_of_getElem? (Ds s)),h _ (List.mem_of_getElem? (sR s)),h _ (List.mem_of_getElem? (sJ s)),h _ (List.mem_of_getElem? (By s))⟩
 ·rintro⟨h0,h1,h2,h3⟩
  exact .agg _ (K9 s h0 h1 h2 h3)
theorem aH1 (x:Value):Flat (.v x)=True:=eq_true (.v x)
theorem PU (o:Option (List Int)):Flat (ov bD o)=True:=eq_true (dP o)
theorem PV (o:Option (List Int)):Flat (ov aI o)=True:=eq_true (bR o)
theorem HV (o:Option (List kO)):Flat (ov cP o)=True:=eq_true (rA o)
theorem Zz (o:Option (List Block)):Flat (ov aH o)=True:=eq_true (Ga o)
theorem Qf (o:Option (List Request)):Flat (ov aA o)=True:=eq_true (eD o)
theorem PW (n:Nat) (o:List Int):Flat (.sl n (bD o))=True:=eq_true (.sl _ _ (iC o))
theorem PX (n:Nat) (o:List Int):Flat (.sl n (aI o))=True:=eq_true (.sl _ _ (fS o))
theorem HW (n:Nat) (o:List kO):Flat (.sl n (cP o))=True:=eq_true (.sl _ _ (nG o))
theorem AA (n:Nat) (o:List Block):Flat (.sl n (aH o))=True:=eq_true (.sl _ _ (pF o))
theorem Qg (n:Nat) (o:List Request):Flat (.sl n (aA o))=True:=eq_true (.sl _ _ (fF o))
theorem HX (n:Nat) (o:List Node):Flat (.sl n (cD o))=True:=eq_true (.sl _ _ (kE o))
theorem C7 (r:cJ):Flat (.agg (aX r))=True:=eq_true (qS r)
theorem PY (r:Block):Flat (.agg (aT r))=True:=eq_true (vJ r)
theorem C8 (r:rC):Flat (.agg (gC r))=True:=eq_true (.agg _ (iN r))
theorem Bz (r:fU):Flat (.agg (bY r))=True:=eq_true (.agg _ (dB r))
theorem Z0 (r:Request):Flat (.agg (bA r))=True:=eq_true (.agg _ (fN r))
theorem AB (r:gO):Flat (.agg (dD r))=True:=eq_true (.agg _ (jT r))
theorem HY (r:pG):Flat (.agg (fJ r))=True:=eq_true (.agg _ (Gb r))
theorem PZ (x:AV):Flat (.agg [x])↔Flat x:=by
 constructor
 ·intro h;cases h with|agg _ h=>exact h x (by simp)
 ·intro h;exact .agg _ (by simpa using h)
theorem dN:(type_of% aH1)/\(type_of% PU)/\(type_of% PV)/\(type_of% HV)/\(type_of% Zz)/\(type_of% Qf)/\(type_of% PW)/\(type_of% PX)/\(type_of% HW)/\(type_of% AA)/\(type_of% Qg)/\(type_of% HX)/\(type_of% C7)/\(type_of% PY)/\(type_of% C8)/\(type_of% Bz)/\(type_of% Z0)/\(type_of% AB)/\(type_of% HY)/\(type_of% PZ)/\(type_of% Dr)/\(type_of% Qd)/\(type_of% HU)/\(type_of% PS)/\(type_of% Is)/\(type_of% pP)/\(type_of% Ah)/\(type_of% Ai)/\(type_of% nF)/\(type_of% kK)/\(type_of% XJ) :=
 ⟨aH1,PU,PV,HV,Zz,Qf,PW,PX,HW,AA,Qg,HX,C7,PY,C8,Bz,Z0,AB,HY,PZ,Dr,Qd,HU,PS,Is,pP,Ah,Ai,nF,kK,XJ⟩
structure SV where
 B:Option (List Int)
 L:Option (List kO)
 Q:Option (List Int)
 E:Option (List sP)
 O:Option (List Block)
 T:Option (List Table)
 ns:List Node
def Dt (a:sP):Prop:=∃V:Option (List Int),a.eU=ov aI V/\((ol V).length:Int)<1000000
def sS (t:Table):Prop:=∃b:Option (List Int),t.jQ=ov bD b/\((ol b).length:Int)<1000000
structure SD (s:aO) (v:SV):Prop where
 jQ:s.cFg.jQ=ov bD v.B
 dO:s.gE.dO=ov cP v.L
 gW:s.gE.gW=ov aI v.Q
 early:s.dR.early=ov dE v.E
 bV:s.dR.bV=ov aH v.O
 tree:s.tree=⟨.sl v.ns.length (cD v.ns)⟩
 tables:s.tables=ov aR v.T
 eV:∀a∈ol v.E,Dt a
 tB:∀t∈ol v.T,sS t
 nB:((ol v.B).length:Int)<1000000
 nL:((ol v.L).length:Int)<1000000
 nQ:((ol v.Q).length:Int)<1000000
 nE:((ol v.E).length:Int)<1000000
 nO:((ol v.O).length:Int)<1000000
 nT:((ol v.T).length:Int)<1000000
 nn:(v.ns.length:Int)<1000000
theorem Dt.fl {a:sP} (h:Dt a):Flat a.eU:=by obtain⟨V,h,_⟩:=h;rw[h];exact bR V
theorem sS.fl {a:Table} (h:sS a):Flat a.jQ:=by obtain⟨V,h,_⟩:=h;rw[h];exact dP V
theorem SD.fE {s:aO} {v:SV} (h:SD s v):Flat (ov dE v.E):=AD v.E fun a ha=>(h.eV a ha).fl
theorem SD.fT {s:aO} {v:SV} (h:SD s v):Flat (ov aR v.T):=lQ v.T fun a ha=>(h.tB a ha).fl
theorem SD.flat {s:aO} {v:SV} (h:SD s v):Flat (.agg (aB s)):=by
 rw[Is,h.jQ,h.dO,h.gW,h.early,h.bV,h.tree,h.tables];exact⟨dP _,rA _,bR _,h.fE,Ga _,.sl _ _ (kE _),h.fT⟩
theorem c97 {s:aO} {v:SV} (hs:SD s v):aC Tryz.prog 97 [.agg (aB s)]=some (.v (.int .i64 (ol v.B).length)):=by
 rw[cL Tryz.func97 rfl aSd rfl];simp only[Z8,seval,hs.jQ];exact bT rfl (by simp only[E8,seval]<;>rfl) (.v _)
theorem AE {s:aO} {v:SV} (hs:SD s v) (st:St) (d:Option Nat):aN (aC Tryz.prog) 97 [.agg (aB s)] st d=some { dst:=d,val:=.v (.int .i64 (ol v.B).length)}:=bL (cT hs.flat) (c97 hs) (.v _)
noncomputable def Fl (s:aO) (x:Int):Int:=IntKind.u64.wrap (x.tdiv s.cFg.rD)
theorem c98 (s:aO) (h:s.cFg.rD≠0) (x:Int):aC Tryz.prog 98 [.agg (aB s),.v (.int .u64 x)]=some (.v (.int .u64 (Fl s x))):=by
 rw[cL Tryz.func98 rfl aSe rfl];have h0:(s.cFg.rD=0)=False:=eq_false h
 simp only[Z8,seval,h0];exact bT rfl (by simp only[E8,seval,Fl]<;>rfl) (.v _)
theorem Pm (s:aO) (h:s.cFg.rD≠0) (hf:Flat (.agg (aB s))) (x:Int) (st:St) (d:Option Nat):aN (aC Tryz.prog) 98 [.agg (aB s),.v (.int .u64 x)] st d=some { dst:=d,val:=.v (.int .u64 (Fl s x))}:=bL (bH hf (.v _)) (c98 s h x) (.v _)
noncomputable def Fm (s:aO) (e:Int):Int × Int:=PA e s.cFg.rD
theorem c99 (s:aO) (x:Int):aC Tryz.prog 99 [.agg (aB s),.v (.int .u64 x)]=some (.dX [.v (.int .u64 (Fm s x).1),.v (.bool ((Fm s x).2 == 0))]):=by
 rw[cL Tryz.func99 rfl aSg rfl];simp only[Z8,seval,aRJ,eC];exact dJ rfl rfl rfl (by simp only[E8,seval,Fm]<;>rfl) (by simp only[E8,seval,Fm]<;>rfl)
theorem Yk (s:aO) (hf:Flat (.agg (aB s))) (x:Int) (st:St) (d:Option Nat):aN (aC Tryz.prog) 99 [.agg (aB s),.v (.int .u64 x)] st d=some { dst:=d,val:=.dX [.v (.int .u64 (Fm s x).1),.v (.bool ((Fm s x).2 == 0))]}:=bL (bH hf (.v _)) (c99 s x) (.dX _ (bH (.v _) (.v _)))
theorem aSh {s:aO} {v:SV} (hs:SD s v) (i:Int):aC Tryz.prog 251 [.agg (aB s),.v (.int .i64 i)]=some (.v (.bool (decide (0<=i) && decide (i<v.ns.length)))):=by
 rw[cL Tryz.func251 rfl aMH rfl];by_cases h:0<=i
 all_goals
  simp only[Z8,seval,h,hs.tree,decide_true,decide_false,Bool.true_and,Bool.false_and];exact bT rfl (by simp only[E8,seval,h,decide_true,decide_false,Bool.true_and,Bool.false_and]<;>rfl) (.v _)
theorem AF {s:aO} {v:SV} (hs:SD s v) (i:Int) (st:St) (d:Option Nat):aN (aC Tryz.prog) 251 [.agg (aB s),.v (.int .i64 i)] st d=some { dst:=d,val:=.v (.bool (decide (0<=i) && decide (i<v.ns.length)))}:=bL (bH hs.flat (.v _)) (aSh hs i) (.v _)
def Z1 (s:aO) (b:Block):Prop:=b.fin.aL<=b.gX.aL/\b.gX.aL<=b.dL.pj.aL/\b.fin.aL<=b.dL.pf.aL/\b.dL.pf.aL<=b.dL.pj.aL/\b.dL.pj.aL<=Fl s b.slot
theorem aSi (s:aO) (h:s.cFg.rD≠0) (hf:Flat (.agg (aB s))) (b:Block):aC Tryz.prog 137 [.agg (aB s),.agg (aT b)]=some (.v (.bool (decide (Z1 s b)))):=by
 rw[cL Tryz.func137 rfl aMI rfl];have h98:=Pm s h hf
 unfold Z1;by_cases h1:b.fin.aL<=b.gX.aL
 ·by_cases h2:b.gX.aL<=b.dL.pj.aL
  ·by_cases h3:b.fin.aL<=b.dL.pf.aL
   ·by_cases h4:b.dL.pf.aL<=b.dL.pj.aL
    ·simp only[*,true_and,false_and,and_true,and_false,decide_true,decide_false];simp only[Z8,seval, *];exact bT rfl (by simp only[E8,seval, *]<;>rfl) (.v _)
    ·simp only[*,true_and,false_and,and_true,and_false,decide_true,decide_false];simp only[Z8,seval, *];exact bT rfl (by simp only[E8,seval, *]<;>rfl) (.v _)
   ·simp only[*,true_and,false_and,and_true,and_false,decide_true,decide_false];simp only[Z8,seval, *];exact bT rfl (by simp only[E8,seval, *]<;>rfl) (.v _)
  ·simp only[*,true_and,false_and,and_true,and_false,decide_true,decide_false];simp only[Z8,seval, *];exact bT rfl (by simp only[E8,seval, *]<;>rfl) (.v _)
 ·simp only[*,true_and,false_and,and_true,and_false,decide_true,decide_false];simp only[Z8,seval, *];exact bT rfl (by simp only[E8,seval, *]<;>rfl) (.v _)
theorem aMJ (s:aO) (h:s.cFg.rD≠0) (hf:Flat (.agg (aB s))) (b:Block) (st:St) (d:Option Nat):aN (aC Tryz.prog) 137 [.agg (aB s),.agg (aT b)] st d=some { dst:=d,val:=.v (.bool (decide (Z1 s b)))}:=bL (bH hf (vJ _)) (aSi s h hf b) (.v _)
noncomputable def XK (s:aO) (ns:List Node) (i e:Int):Prop:=(Fm s e).2≠0\/(nd ns i).block.slot<=(Fm s e).1
theorem aSj {s:aO} {v:SV} (hs:SD s v) (i e:Int) (i0:0<=i) (i1:i<v.ns.length):aC Tryz.prog 122 [.agg (aB s),.v (.int .i64 i),.v (.int .u64 e)]=some (.v (.bool (decide (XK s v.ns i e)))):=by
 rw[cL Tryz.func122 rfl aMK rfl];unfold XK;by_cases h:(Fm s e).2=0
 ·have hq:((Fm s e).2 == 0)=true:=by simp[h]
  simp only[h,ne_eq,not_true_eq_false,false_or];simp only[Z8,seval,Yk s hs.flat,eC,hq,hs.tree,i0,i1];exact bT rfl (by simp only[E8,seval]<;>rfl) (.v _)
 ·have hq:((Fm s e).2 == 0)=false:=by simp[h]
  simp only[h,ne_eq,not_false_eq_true,true_or,decide_true];simp only[Z8,seval,Yk s hs.flat,eC,hq,hs.tree,i0,i1];exact bT rfl (by simp only[E8,seval]<;>rfl) (.v _)
theorem aML {s:aO} {v:SV} (hs:SD s v) (i e:Int) (i0:0<=i) (i1:i<v.ns.length) (st:St) (d:Option Nat):aN (aC Tryz.prog) 122 [.agg (aB s),.v (.int .i64 i),.v (.int .u64 e)] st d=some { dst:=d,val:=.v (.bool (decide (XK s v.ns i e)))}:=bL (oW hs.flat (.v _) (.v _)) (aSj hs i e i0 i1) (.v _)
theorem pM (x:Int) (h1:-9223372036854775808<=x) (h2:x<=9223372036854775807):IntKind.i64.wrap x=x:=wrap_i64 x h1 h2
theorem zH {α:Type} (z:α) (p:α->Bool) (l:List α) (k:Nat) (h:k<l.length):(l.take (k+1)).filter p=(l.take k).filter p++if p (gx z l k)=true then [gx z l k] else []:=by
 have hg:gx z l k=l[k]:=by simp[gx,h]
 rw[List.take_succ_eq_append_getElem h,List.filter_append,hg];congr 1
 by_cases hp:p l[k]=true<;>simp[hp]
noncomputable def Du (p:Nat->Prop):Nat->Int
 | 0=>-1
 | k+1=>if 0<=Du p k then Du p k else if p k then k else -1
theorem vY {p:Nat->Prop}:∀n:Nat,(∀j,j<n->¬p j)->Du p n=-1
 | 0,_=>rfl
 | n+1,h=>by
   simp only[Du];rw[vY n fun j hj=>h j (by omega),if_neg (by omega),if_neg (h n (by omega))]
theorem Ko {p:Nat->Prop} {k:Nat} (hk:p k) (hj:∀j,j<k->¬p j):∀n:Nat,k<n->Du p n=k
 | 0,h=>by omega
 | n+1,h=>by
   simp only[Du];by_cases Hy:k=n
   ·subst Hy;rw[vY k hj,if_neg (by omega),if_pos hk]
   ·rw[Ko hk hj n (by omega),if_pos (by omega)]
theorem Gc (p:Nat->Prop) (n:Nat):(Du p n=-1/\∀j,j<n->¬p j)\/∃k:Nat,k<n/\p k/\(∀j,j<k->¬p j)/\Du p n=k:=by
 by_cases h:∃k,k<n/\p k
 ·obtain⟨k,⟨hk,hp⟩,hm⟩:=Gd h
  have hj:∀j,j<k->¬p j:=fun j hj hpj=>by have:=hm j ⟨by omega,hpj⟩;omega
  exact .inr ⟨k,hk,hp,hj,Ko hp hj n hk⟩
 ·have h':∀j,j<n->¬p j:=fun j hj hp=>h ⟨j,hj,hp⟩
  exact .inl ⟨vY n h',h'⟩
theorem XL (p:Nat->Prop) (n:Nat):-1<=Du p n/\Du p n<n:=by
 rcases Gc p n with ⟨h,_⟩|⟨k,hk,_,_,h⟩<;>rw[h]<;>omega
noncomputable def W6 (l:List Table) (c:fU):Int:=Du (fun k=>(gx iW l k).ck=c) l.length
theorem c65 (o:Option (List Table)) (hn:((ol o).length:Int)<1000000) (c:fU):aC Tryz.prog 65 [ov aR o,.agg (bY c)]=some (.v (.int .i64 (W6 (ol o) c))):=by
 rw[cL Tryz.func65 rfl aSk (by cases o<;>rfl)]
 simp only[Z8,seval];refine lP (fun m st=>∃k:Nat,(st.env 0=ov aR o/\st.env 3=.ptr 3 0 0/\st.heap 3 0=some (.cells (bY c))/\st.env 5=.v (.int .i64 k))/\(∀j:Nat,j<k->¬((gx iW (ol o) (j:Int)).ck=c))/\k<=(ol o).length/\m=(ol o).length-k)
  (fun e st=>(e=.ret/\∃k:Nat,k<(ol o).length/\((gx iW (ol o) (k:Int)).ck=c)/\(∀j:Nat,j<k->¬((gx iW (ol o) (j:Int)).ck=c))/\st.env 4=.v (.int .i64 (k:Nat)))\/(e=.exit 0/\(∀j:Nat,j<(ol o).length->¬((gx iW (ol o) (j:Int)).ck=c))/\st.env 0=ov aR o/\st.env 3=.ptr 3 0 0/\st.heap 3 0=some (.cells (bY c)))) ((ol o).length) ?step ?start ?rest
 case step =>
  rintro m st ⟨k,hI,hj,hk,hm⟩
  by_cases aZ:(k:Int)<(ol o).length
  ·have q0:(0:Int)<=k:=by omega
   have hw:IntKind.i64.wrap ((k:Int)+1)=((k+1:Nat):Int):=by rw[pM _ (by omega) (by omega)];omega
   by_cases hh:(gx iW (ol o) (k:Int)).ck=c
   ·apply oT (.ret)
    ·simp only[Z8,seval,hI,aZ,q0,hh];rfl
    ·exact .inl ⟨rfl,k,by omega,hh,hj,by simp only[E8,seval]⟩
   ·apply oN ((ol o).length-(k+1))
    ·simp only[Z8,seval,hI,aZ,q0,hh,hw];rfl
    ·exact⟨k+1,by simp only[E8,seval,hI],fun j h=>(Nat.lt_succ_iff_lt_or_eq.1 h).elim (hj j) fun e=>by subst e;exact hh,by omega,rfl⟩
  ·apply oT (.exit 0)
   ·simp only[Z8,seval,hI,aZ];rfl
   ·exact .inr ⟨rfl,fun j h=>hj j (by omega),by simp only[E8,seval,hI]⟩
 case start=>exact⟨0,by simp only[E8,seval]<;>rfl,fun j h=>by omega,by omega,by omega⟩
 case rest =>
  rintro e st (⟨rfl,k,hk,hh,hj,h⟩|⟨rfl,hj,h⟩)
  ·have hv:W6 (ol o) c=k:=Ko hh hj _ hk
   simp only[Z8,seval];exact bT rfl (by simp only[E8,seval,h,hv]<;>rfl) (.v _)
  ·have hv:W6 (ol o) c=-1:=vY _ hj
   simp only[Z8,seval];exact bT rfl (by simp only[E8,seval,h,hv]<;>rfl) (.v _)
theorem C9 (o:Option (List Table)) (hn:((ol o).length:Int)<1000000) (hf:Flat (ov aR o)) (c:fU) (st:St) (d:Option Nat):aN (aC Tryz.prog) 65 [ov aR o,.agg (bY c)] st d=some { dst:=d,val:=.v (.int .i64 (W6 (ol o) c))}:=bL (bH hf (.agg _ (dB c))) (c65 o hn c) (.v _)
noncomputable def nz {α:Type} (l:List α):Option (List α):=if l=[] then none else some l
theorem oY {α:Type} (l:List α):ol (nz l)=l:=by unfold nz;split<;>simp[ol, *]
noncomputable def zI (l:List Table) (x:Int):List Table:=l.filter fun t=>decide (x<=t.ck.aL)
noncomputable def Qh (e sz:Nat) {α:Type} (c:List α->List AV) (l:List α):AV:=if l=[] then .v (.slice none 0 0) else .uniq e sz l.length (c l)
theorem aSl (o:Option (List Table)) (hn:((ol o).length:Int)<1000000) (ht:∀t∈ol o,Flat t.jQ) (x:Int):aC Tryz.prog 128 [ov aR o,.v (.int .u64 x)]=some (Qh 118 34 aR (zI (ol o) x)):=by
 rw[cL Tryz.func128 rfl aMM (by cases o<;>rfl)]
 have WE:∀l:List Table,(∀t∈l,t∈ol o)->∀y∈aR l,Flat y:=fun l h=>lR l fun t m=>ht t (h t m)
 simp only[Z8,seval];refine lP (fun m st=>∃k:Nat,(st.env 0=ov aR o/\st.env 1=.v (.int .u64 x)/\st.env 6=.v (.int .i64 k))/\(((((ol o).take k).filter (fun t=>decide (x<=t.ck.aL)))=[]/\st.env 5=.v (.slice none 0 0))\/((((ol o).take k).filter (fun t=>decide (x<=t.ck.aL)))≠[]/\∃g,st.env 5=.own 27 g/\g<st.aK 27/\st.heap 27 g=some (.row 118 34 (((ol o).take k).filter (fun t=>decide (x<=t.ck.aL))).length (aR (((ol o).take k).filter (fun t=>decide (x<=t.ck.aL)))))))/\k<=(ol o).length/\m=(ol o).length-k)
  (fun e st=>e=.exit 0/\(((((ol o).take (ol o).length).filter (fun t=>decide (x<=t.ck.aL)))=[]/\st.env 5=.v (.slice none 0 0))\/((((ol o).take (ol o).length).filter (fun t=>decide (x<=t.ck.aL)))≠[]/\∃g,st.env 5=.own 27 g/\g<st.aK 27/\st.heap 27 g=some (.row 118 34 (((ol o).take (ol o).length).filter (fun t=>decide (x<=t.ck.aL))).length (aR (((ol o).take (ol o).length).filter (fun t=>decide (x<=t.ck.aL)))))))/\st.env 0=ov aR o/\st.env 1=.v (.int .u64 x)) ((ol o).length) ?step ?start ?rest
 case step =>
  rintro m st ⟨k,hI,h5,hk,hm⟩
  have Hz:(((((ol o).take k).filter (fun t=>decide (x<=t.ck.aL))).length:Nat):Int)<1000000:=by have:=List.length_filter_le (fun t=>decide (x<=t.ck.aL)) ((ol o).take k);have h2:=List.length_take_le' k (ol o);omega
  by_cases aZ:(k:Int)<(ol o).length
  ·have q0:(0:Int)<=k:=by omega
   have hw:IntKind.i64.wrap ((k:Int)+1)=((k+1:Nat):Int):=by rw[pM _ (by omega) (by omega)];omega
   have hs:=zH iW (fun t=>decide (x<=t.ck.aL)) (ol o) k (by omega)
   have aH2:Flat (.agg (cF (gx iW (ol o) (k:Int)))):=(kK _).2 (ht _ (uM q0 aZ))
   by_cases hh:x<=(gx iW (ol o) (k:Int)).ck.aL
   ·rw[if_pos (decide_eq_true hh)] at hs;rcases h5 with ⟨hy,h5⟩|⟨hy,g,h5⟩
    ·rw[hy] at hs;apply oN ((ol o).length-(k+1))
     ·simp only[Z8,seval,hI,h5,aZ,hw,q0,aH2,hh];rfl
     ·exact⟨k+1,by simp only[E8,seval,hI],.inr ⟨by rw[hs];simp,_,by simp only[E8,seval]<;>rfl,(by simp only[E8,seval]<;>omega),(by rw[hs];simp only[E8,seval]<;>rfl)⟩,by omega,rfl⟩
    ·apply oN ((ol o).length-(k+1))
     ·simp only[Z8,seval,hI,h5,Hz,aZ,hw,q0,aH2,hh];rfl
     ·exact⟨k+1,by simp only[E8,seval,hI],.inr ⟨by rw[hs];simp,_,by simp only[E8,seval]<;>rfl,(by simp only[E8,seval]<;>omega),(by rw[hs];simp only[E8,seval]<;>rfl)⟩,by omega,rfl⟩
   ·rw[if_neg (by simpa using hh),List.append_nil] at hs
    apply oN ((ol o).length-(k+1))
    ·simp only[Z8,seval,hI,aZ,hw,q0,aH2,hh];rfl
    ·exact⟨k+1,by simp only[E8,seval,hI],by rw[hs];simpa only[E8,seval] using h5,by omega,rfl⟩
  ·have Hy:k=(ol o).length:=by omega
   rw[Hy] at h5;apply oT (.exit 0)
   ·simp only[Z8,seval,hI,aZ];rfl
   ·exact⟨rfl,by simpa only[E8,seval] using h5,by simp only[E8,seval,hI]⟩
 case start=>exact⟨0,by simp only[E8,seval]<;>rfl,.inl ⟨rfl,by simp only[E8,seval]⟩,by omega,by omega⟩
 case rest =>
  rintro e st ⟨rfl,⟨hy,h5⟩|⟨hy,g,h5,hg,Bj⟩,hI⟩
  ·rw[List.take_length] at hy;rw[show Qh 118 34 aR (zI (ol o) x)=.v (.slice none 0 0) from if_pos hy];simp only[Z8,seval,h5];exact bT rfl (by simp only[E8,seval]<;>rfl) (.v _)
  ·rw[List.take_length] at hy Bj;rw[show Qh 118 34 aR (zI (ol o) x)=.uniq 118 34 (zI (ol o) x).length (aR (zI (ol o) x)) from if_neg hy];simp only[Z8,seval,h5,Bj];exact tH rfl (by simp only[E8,seval];rfl) (by simp only[E8,seval,Bj];rfl) (WE _ fun t m=>(List.mem_filter.1 m).1)
theorem JW {T n sz:Nat} (ha:jI Tryz.prog T=some (n,sz)) (st:St) (x:AV) {k:IntKind} {i:Int} (h0:0<=i) (h1:i<n):bE Tryz.prog st T x (.v (.int k i))=vR x (i.toNat * sz):=by
 simp only[bE,ha];rw[if_pos ⟨h0,h1⟩]
theorem XM (st:St) (x:AV) {k:IntKind} {i:Int} (h0:0<=i) (h1:i<32):bE Tryz.prog st 27 x (.v (.int k i))=vR x (i.toNat * 1):=JW aH3 st x h0 h1
theorem Iw (st:St) (x:AV) {k:IntKind} {i:Int} (h0:0<=i) (h1:i<4):bE Tryz.prog st 33 x (.v (.int k i))=vR x (i.toNat * 1):=JW aMN st x h0 h1
def rb (r:cJ) (i:Int):Int:=r.toList.getD i.toNat 0
def wb (r:rC) (i:Int):Int:=r.toList.getD i.toNat 0
theorem HZ (r:cJ) {i:Int} (h0:0<=i) (h1:i<32):(aX r)[i.toNat]? = some (.v (.int .u8 (rb r i))):=by
 have h:i.toNat<r.toList.length:=by simp;omega
 unfold aX rb;rw[List.getElem?_map,List.getElem?_eq_getElem h,List.getD_eq_getElem?_getD,List.getElem?_eq_getElem h];rfl
theorem Tg (r:rC) {i:Int} (h0:0<=i) (h1:i<4):(gC r)[i.toNat]? = some (.v (.int .u64 (wb r i))):=by
 have h:i.toNat<r.toList.length:=by simp;omega
 unfold gC wb;rw[List.getElem?_map,List.getElem?_eq_getElem h,List.getD_eq_getElem?_getD,List.getElem?_eq_getElem h];rfl
theorem aMO (a b:cJ):∃c:Int,aC Tryz.prog 176 [.agg (aX a),.agg (aX b)]=some (.v (.int .i64 c)):=by
 rw[cL Tryz.func176 rfl aMP rfl];suffices h:∃r,cA (Ac Tryz.prog _ (St.init [.agg (aX a),.agg (aX b)])) (Bk Tryz.prog 176 Tryz.f176)=some r/\∃c:Int,r=.v (.int .i64 c) by
  obtain⟨r,h,c,rfl⟩:=h;exact⟨c,h⟩
 simp only[Z8,seval];refine cB (fun m st=>∃k:Nat,(st.env 2=.ptr 2 0 0/\st.heap 2 0=some (.cells (aX a))/\st.env 3=.ptr 3 0 0/\st.heap 3 0=some (.cells (aX b))/\st.env 5=.v (.int .i64 k))/\k<=32/\m=32-k)
  (fun e st=>(e=.ret/\∃c:Int,st.env 4=.v (.int .i64 c))\/e=.exit 0) 32 ?step ?start ?rest
 case step =>
  rintro m st ⟨k,hI,hk,hm⟩
  by_cases aZ:(k:Int)<32
  ·have q0:(0:Int)<=k:=by omega
   have hw:IntKind.i64.wrap ((k:Int)+1)=((k+1:Nat):Int):=by rw[pM _ (by omega) (by omega)];omega
   have ga:=HZ a q0 aZ
   have gb:=HZ b q0 aZ
   by_cases h1:rb a k<rb b k
   ·apply oT (.ret)
    ·simp only[Z8,seval,hI,aZ,q0,XM,ga,gb,h1];rfl
    ·exact .inl ⟨rfl,-1,by simp only[E8,seval]⟩
   ·by_cases h2:rb b k<rb a k
    ·apply oT (.ret)
     ·simp only[Z8,seval,hI,aZ,q0,XM,ga,gb,h1,h2];rfl
     ·exact .inl ⟨rfl,1,by simp only[E8,seval]⟩
    ·apply oN (32-(k+1))
     ·simp only[Z8,seval,hI,aZ,q0,XM,ga,gb,h1,h2,hw];rfl
     ·exact⟨k+1,by simp only[E8,seval,hI],by omega,rfl⟩
  ·apply oT (.exit 0)
   ·simp only[Z8,seval,hI,aZ];rfl
   ·exact .inr rfl
 case start=>exact⟨0,by simp only[E8,seval]<;>rfl,by omega,by omega⟩
 case rest =>
  rintro e st (⟨rfl,c,h⟩|rfl)
  ·simp only[Z8,seval];exact⟨_,bT rfl h (.v _),c,rfl⟩
  ·simp only[Z8,seval];exact⟨_,bT rfl (by simp only[E8,seval]<;>rfl) (.v _),0,rfl⟩
noncomputable def aMQ (a b:cJ):Int:=Classical.choose (aMO a b)
theorem aH4 (a b:cJ) (st:St) (d:Option Nat):aN (aC Tryz.prog) 176 [.agg (aX a),.agg (aX b)] st d=some { dst:=d,val:=.v (.int .i64 (aMQ a b))}:=bL (bH (qS a) (qS b)) (Classical.choose_spec (aMO a b)) (.v _)
theorem aMR (a b:rC):∃c:Int,aC Tryz.prog 170 [.agg (gC a),.agg (gC b)]=some (.v (.int .i64 c)):=by
 rw[cL Tryz.func170 rfl aMS rfl];suffices h:∃r,cA (Ac Tryz.prog _ (St.init [.agg (gC a),.agg (gC b)])) (Bk Tryz.prog 170 Tryz.f170)=some r/\∃c:Int,r=.v (.int .i64 c) by
  obtain⟨r,h,c,rfl⟩:=h;exact⟨c,h⟩
 simp only[Z8,seval];refine cB (fun m st=>∃k:Nat,(st.env 2=.ptr 2 0 0/\st.heap 2 0=some (.cells (gC a))/\st.env 3=.ptr 3 0 0/\st.heap 3 0=some (.cells (gC b))/\st.env 5=.v (.int .i64 ((k:Int)-1)))/\k<=4/\m=k)
  (fun e st=>(e=.ret/\∃c:Int,st.env 4=.v (.int .i64 c))\/e=.exit 0) 4 ?step ?start ?rest
 case step =>
  rintro m st ⟨k,hI,hk,hm⟩
  by_cases aZ:(0:Int)<=(k:Int)-1
  ·have q1:(k:Int)-1<4:=by omega
   have hw:IntKind.i64.wrap ((k:Int)-1-1)=((k-1:Nat):Int)-1:=by rw[pM _ (by omega) (by omega)];omega
   have ga:=Tg a aZ q1
   have gb:=Tg b aZ q1
   by_cases h1:wb a ((k:Int)-1)<wb b ((k:Int)-1)
   ·apply oT (.ret)
    ·simp only[Z8,seval,hI,aZ,q1,Iw,ga,gb,h1];rfl
    ·exact .inl ⟨rfl,-1,by simp only[E8,seval]⟩
   ·by_cases h2:wb b ((k:Int)-1)<wb a ((k:Int)-1)
    ·apply oT (.ret)
     ·simp only[Z8,seval,hI,aZ,q1,Iw,ga,gb,h1,h2];rfl
     ·exact .inl ⟨rfl,1,by simp only[E8,seval]⟩
    ·apply oN (k-1)
     ·simp only[Z8,seval,hI,aZ,q1,Iw,ga,gb,h1,h2,hw];rfl
     ·exact⟨k-1,by simp only[E8,seval,hI],by omega,rfl⟩
  ·apply oT (.exit 0)
   ·simp only[Z8,seval,hI,aZ];rfl
   ·exact .inr rfl
 case start=>exact⟨4,by simp only[E8,seval]<;>rfl,by omega,by omega⟩
 case rest =>
  rintro e st (⟨rfl,c,h⟩|rfl)
  ·simp only[Z8,seval];exact⟨_,bT rfl h (.v _),c,rfl⟩
  ·simp only[Z8,seval];exact⟨_,bT rfl (by simp only[E8,seval]<;>rfl) (.v _),0,rfl⟩
noncomputable def aD1 (a b:rC):Int:=Classical.choose (aMR a b)
theorem aMT (a b:rC) (st:St) (d:Option Nat):aN (aC Tryz.prog) 170 [.agg (gC a),.agg (gC b)] st d=some { dst:=d,val:=.v (.int .i64 (aD1 a b))}:=bL (bH (.agg _ (iN a)) (.agg _ (iN b))) (Classical.choose_spec (aMR a b)) (.v _)
theorem aSm (p b:Block):aC Tryz.prog 169 [.agg (aT p),.agg (aT b)]=some (.v (.bool (!decide (b.jK=dK) && decide (p.jK=dK)))):=by
 rw[cL Tryz.func169 rfl aMU rfl];by_cases h:b.jK=dK
 all_goals
  simp only[h,decide_true,decide_false,Bool.not_true,Bool.not_false,Bool.true_and,Bool.false_and];simp only[Z8,seval,h,decide_true,decide_false];exact bT rfl (by simp only[E8,seval]<;>rfl) (.v _)
theorem aH5 (p b:Block) (st:St) (d:Option Nat):aN (aC Tryz.prog) 169 [.agg (aT p),.agg (aT b)] st d=some { dst:=d,val:=.v (.bool (!decide (b.jK=dK) && decide (p.jK=dK)))}:=bL (bH (vJ p) (vJ b)) (aSm p b) (.v _)
def L1 (EX:rC) (p b:Block):Prop:=(b.jK=dK->p.jK=dK)/\(b.jK≠dK->p.jK=dK->aD1 b.IA EX<0/\0<=aD1 b.diff EX)
theorem aSn (EX:rC) (p b:Block):aC Tryz.prog 114 [.agg (gC EX),.agg (aT p),.agg (aT b)]=some (.v (.bool (decide (L1 EX p b)))):=by
 rw[cL Tryz.func114 rfl aMV rfl];unfold L1;by_cases h:b.jK=dK
 ·simp only[h,forall_const,ne_eq,not_true_eq_false,false_implies,and_true];simp only[Z8,seval,h,decide_true];exact bT rfl (by simp only[E8,seval]<;>rfl) (.v _)
 ·by_cases hp:p.jK=dK
  ·simp only[h,hp,ne_eq,not_false_eq_true,forall_const,false_implies,true_and];by_cases h1:aD1 b.IA EX<0
   ·simp only[h1,true_and];simp only[Z8,seval,h,hp,aH5,aMT,h1,decide_true,decide_false,Bool.not_false,Bool.true_and];exact bT rfl (by simp only[E8,seval]<;>rfl) (.v _)
   ·simp only[h1,false_and,decide_false];simp only[Z8,seval,h,hp,aH5,aMT,h1,decide_true,decide_false,Bool.not_false,Bool.true_and];exact bT rfl (by simp only[E8,seval]<;>rfl) (.v _)
  ·simp only[h,hp,ne_eq,not_false_eq_true,forall_const,false_implies,and_self,decide_true];simp only[Z8,seval,h,hp,aH5,decide_false,Bool.not_false,Bool.true_and];exact bT rfl (by simp only[E8,seval]<;>rfl) (.v _)
theorem AG (EX:rC) (p b:Block) (st:St) (d:Option Nat):aN (aC Tryz.prog) 114 [.agg (gC EX),.agg (aT p),.agg (aT b)] st d=some { dst:=d,val:=.v (.bool (decide (L1 EX p b)))}:=bL (oW (.agg _ (iN EX)) (vJ p) (vJ b)) (aSn EX p b) (.v _)
noncomputable def Xb (b:Block):Int:=if b.jK=dK then 1 else 0
theorem aSo (b:Block):aC Tryz.prog 233 [.agg (aT b)]=some (.v (.int .i64 (Xb b))):=by
 rw[cL Tryz.func233 rfl aMW rfl];unfold Xb;by_cases h:b.jK=dK
 ·simp only[h,if_true];simp only[Z8,seval,h,decide_true];exact bT rfl (by simp only[E8,seval]<;>rfl) (.v _)
 ·simp only[h,if_false];simp only[Z8,seval,h,decide_false];exact bT rfl (by simp only[E8,seval]<;>rfl) (.v _)
theorem aMX (b:Block) (st:St) (d:Option Nat):aN (aC Tryz.prog) 233 [.agg (aT b)] st d=some { dst:=d,val:=.v (.int .i64 (Xb b))}:=bL (cT (vJ b)) (aSo b) (.v _)
theorem kx {g:Nat} {args:List AV} {r:AV} (h:aC Tryz.prog g args=some r) (hf:∀x∈args,Flat x) (hr:Flat r):∀(st:St) (d:Option Nat),aN (aC Tryz.prog) g args st d=some { dst:=d,val:=r }:=fun st d=>bL hf h hr
theorem bf {x y:Int} (h:¬x=y):(x == y)=false/\(x != y)=true:=by simp[h]
theorem bt {x y:Int} (h:x=y):(x == y)=true/\(x != y)=false:=by simp[h]
def Xc (l:List Int) (n:Int) (k:Nat):Prop:=gx (0:Int) l k<0\/n<=gx (0:Int) l k\/(0<k/\gx (0:Int) l k<=gx (0:Int) l ((k:Int)-1))
noncomputable def EK (l:List Int) (n:Int):Int:=if l=[] then 2 else if Du (Xc l n) l.length<0 then 0 else if gx (0:Int) l (Du (Xc l n) l.length)<0\/n<=gx (0:Int) l (Du (Xc l n) l.length) then 3 else 8
theorem c40 (o:Option (List Int)) (hn:((ol o).length:Int)<1000000) (n:Int):aC Tryz.prog 40 [ov aI o,.v (.int .i64 n)]=some (.v (.int .i64 (EK (ol o) n))):=by
 rw[cL Tryz.func40 rfl aSp (by cases o<;>rfl)]
 refine iX ?_
 by_cases h0:ol o=[]
 ·have hv:EK (ol o) n=2:=if_pos h0
  have hl:(ol o).length=0:=by rw[h0];rfl
  simp only[Z8,seval,hl];exact⟨_,bT rfl (by simp only[E8,seval,hv]<;>rfl) (by first|exact .v _|simp only[dN,hv]),rfl⟩
 have hl:=bf (x:=((ol o).length:Int)) (y:=0) (by have:=List.length_pos_iff.2 h0;omega)
 simp only[Z8,seval,hl];refine cB (fun m st=>∃k:Nat,(st.env 0=ov aI o/\st.env 1=.v (.int .i64 n)/\st.env 5=.v (.int .i64 k))/\(∀j:Nat,j<k->¬Xc (ol o) n j)/\k<=(ol o).length/\m=(ol o).length-k)
  (fun e st=>(e=.ret/\∃k:Nat,k<(ol o).length/\Xc (ol o) n k/\(∀j:Nat,j<k->¬Xc (ol o) n j)/\st.env 4=.v (.int .i64 (if gx (0:Int) (ol o) k<0\/n<=gx (0:Int) (ol o) k then 3 else 8)))\/(e=.exit 0/\∀j:Nat,j<(ol o).length->¬Xc (ol o) n j)) (ol o).length ?step ?start ?rest
 case step =>
  rintro m st ⟨k,hI,hj,hk,hm⟩
  by_cases aZ:(k:Int)<(ol o).length
  ·have q0:(0:Int)<=k:=by omega
   have hw:IntKind.i64.wrap ((k:Int)+1)=((k+1:Nat):Int):=by rw[pM _ (by omega) (by omega)];omega
   by_cases h1:gx (0:Int) (ol o) k<0
   ·apply oT (.ret)
    ·simp only[Z8,seval,hI,aZ,q0,h1];rfl
    ·exact .inl ⟨rfl,k,by omega,.inl h1,hj,by simp only[E8,seval,h1,true_or]⟩
   by_cases h2:n<=gx (0:Int) (ol o) k
   ·apply oT (.ret)
    ·simp only[Z8,seval,hI,aZ,q0,h1,h2];rfl
    ·exact .inl ⟨rfl,k,by omega,.inr (.inl h2),hj,by simp only[E8,seval,h2,or_true]⟩
   by_cases h3:(0:Int)<k
   ·have q1:(0:Int)<=(k:Int)-1:=by omega
    have q2:(k:Int)-1<(ol o).length:=by omega
    have K6:IntKind.i64.wrap ((k:Int)-1)=(k:Int)-1:=by rw[pM _ (by omega) (by omega)]
    by_cases h4:gx (0:Int) (ol o) k<=gx (0:Int) (ol o) ((k:Int)-1)
    ·apply oT (.ret)
     ·simp only[Z8,seval,hI,aZ,q0,q1,q2,K6,h1,h2,h3,h4];rfl
     ·exact .inl ⟨rfl,k,by omega,.inr (.inr ⟨by omega,h4⟩),hj,by simp only[E8,seval,h1,h2,or_self]⟩
    ·apply oN ((ol o).length-(k+1))
     ·simp only[Z8,seval,hI,aZ,q0,q1,q2,K6,h1,h2,h3,h4,hw];rfl
     ·exact⟨k+1,by simp only[E8,seval,hI],fun j h=>(Nat.lt_succ_iff_lt_or_eq.1 h).elim (hj j) fun e=>by subst e;unfold Xc;simp only[h1,h2,h4,and_false,or_self,not_false_eq_true],by omega,rfl⟩
   ·have h5:¬(0<k):=by omega
    apply oN ((ol o).length-(k+1))
    ·simp only[Z8,seval,hI,aZ,q0,h1,h2,h3,hw];rfl
    ·exact⟨k+1,by simp only[E8,seval,hI],fun j h=>(Nat.lt_succ_iff_lt_or_eq.1 h).elim (hj j) fun e=>by subst e;unfold Xc;simp only[h1,h2,h5,false_and,or_self,not_false_eq_true],by omega,rfl⟩
  ·apply oT (.exit 0)
   ·simp only[Z8,seval,hI,aZ];rfl
   ·exact .inr ⟨rfl,fun j h=>hj j (by omega)⟩
 case start=>exact⟨0,by simp only[E8,seval]<;>rfl,fun j h=>by omega,by omega,by omega⟩
 case rest =>
  rintro e st (⟨rfl,k,hk,hh,hj,h⟩|⟨rfl,hj⟩)
  ·have hv:EK (ol o) n=if gx (0:Int) (ol o) k<0\/n<=gx (0:Int) (ol o) k then 3 else 8:=by
    unfold EK;rw[if_neg h0,Ko hh hj _ hk,if_neg (by omega)]
   rw[<- hv] at h;simp only[Z8,seval];exact⟨_,bT rfl (by simp only[E8,seval,h]<;>rfl) (by first|exact .v _|simp only[dN,h]),rfl⟩
  ·have hv:EK (ol o) n=0:=by
    unfold EK;rw[if_neg h0,vY _ hj,if_pos (by omega)]
   simp only[Z8,seval];exact⟨_,bT rfl (by simp only[E8,seval,hv]<;>rfl) (by first|exact .v _|simp only[dN,hv]),rfl⟩
theorem aD2 (a b:Int):(EU a b).2≠21:=by unfold EU;split<;>simp
theorem XN (l:List Int) (n:Int):EK l n≠21:=by unfold EK;split;simp;split;simp;split<;>simp
theorem aMY (o:Option (List Int)) (hn:((ol o).length:Int)<1000000):∃r,aC Tryz.prog 175 [ov bD o]=some r/\∃a e:Int,r=.dX [.v (.int .u64 a),.v (.int .i64 e)]/\e≠21:=by
 rw[cL Tryz.func175 rfl aGE (by cases o<;>rfl)]
 simp only[Z8,seval];refine cB (fun m st=>∃(k:Nat) (a:Int),(st.env 0=ov bD o/\st.env 4=.v (.int .u64 a)/\st.env 5=.v (.int .i64 k))/\k<=(ol o).length/\m=(ol o).length-k)
  (fun e st=>(e=.ret/\∃a e:Int,st.env 2=.v (.int .u64 a)/\st.env 3=.v (.int .i64 e)/\e≠21)\/(e=.exit 0/\∃a:Int,st.env 4=.v (.int .u64 a))) (ol o).length ?step ?start ?rest
 case step =>
  rintro m st ⟨k,a,hI,hk,hm⟩
  by_cases aZ:(k:Int)<(ol o).length
  ·have q0:(0:Int)<=k:=by omega
   have hw:IntKind.i64.wrap ((k:Int)+1)=((k+1:Nat):Int):=by rw[pM _ (by omega) (by omega)];omega
   by_cases h1:(EU a (gx (0:Int) (ol o) k)).2=0
   ·apply oN ((ol o).length-(k+1))
    ·simp only[Z8,seval,hI,aZ,q0,aHR,eC,h1,hw];rfl
    ·exact⟨k+1,_,by simp only[E8,seval,hI]<;>rfl,by omega,rfl⟩
   ·apply oT (.ret)
    ·simp only[Z8,seval,hI,aZ,q0,aHR,eC,bf h1];rfl
    ·exact .inl ⟨rfl,_,_,by simp only[E8,seval]<;>rfl,by simp only[E8,seval]<;>rfl,aD2 _ _⟩
  ·apply oT (.exit 0)
   ·simp only[Z8,seval,hI,aZ];rfl
   ·exact .inr ⟨rfl,a,by simp only[E8,seval,hI]⟩
 case start=>exact⟨0,0,by simp only[E8,seval]<;>exact⟨rfl,rfl⟩,by omega,by omega⟩
 case rest =>
  rintro e st (⟨rfl,a,e,h,h',gI⟩|⟨rfl,a,h⟩)
  ·simp only[Z8,seval];exact⟨_,dJ rfl rfl rfl (by simp only[E8,seval,h,h']<;>rfl) (by simp only[E8,seval,h,h']<;>rfl),_,_,rfl,gI⟩
  ·simp only[Z8,seval,h];exact⟨_,dJ rfl rfl rfl (by simp only[E8,seval,h]<;>rfl) (by simp only[E8,seval,h]<;>rfl),_,_,rfl,by decide⟩
theorem aGF (t:Table) (b:Option (List Int)) (hb:t.jQ=ov bD b) (hl:((ol b).length:Int)<1000000) (n:Int):∃r,aC Tryz.prog 130 [.agg (cF t),.v (.int .i64 n)]=some r/\∃e:Int,r=.v (.int .i64 e)/\e≠21/\(e=0->((ol b).length:Int)=n):=by
 obtain⟨r,hr,a,e,rfl,he⟩:=aMY b hl
 have L2:=kx hr (cT (dP b)) (.dX _ (bH (.v _) (.v _)))
 rw[cL Tryz.func130 rfl aGG rfl];by_cases h1:((ol b).length:Int)=n
 ·by_cases h2:e=0
  ·by_cases h3:4611686018427387904<a
   all_goals
    simp only[Z8,seval,hb,bt h1,bt h2,h3,L2,eC];exact⟨_,bT rfl (by simp only[E8,seval]<;>rfl) (by first|exact .v _|simp only[dN]),_,rfl,by decide,fun _=>h1⟩
  ·simp only[Z8,seval,hb,bt h1,bf h2,L2,eC];exact⟨_,bT rfl (by simp only[E8,seval]<;>rfl) (by first|exact .v _|simp only[dN]),_,rfl,by decide,fun _=>h1⟩
 ·simp only[Z8,seval,hb,bf h1];exact⟨_,bT rfl (by simp only[E8,seval]<;>rfl) (by first|exact .v _|simp only[dN]),_,rfl,by decide,fun h=>by cases h⟩
theorem aSq (t:Table) (ht:sS t) (n:Int):∃r,aC Tryz.prog 130 [.agg (cF t),.v (.int .i64 n)]=some r/\∃e:Int,r=.v (.int .i64 e)/\e≠21:=by
 obtain⟨b,hb,hl⟩:=ht
 obtain⟨r,hr,e,h1,h2,_⟩:=aGF t b hb hl n
 exact⟨r,hr,e,h1,h2⟩
theorem aH6 (a b:fU):∃r,aC Tryz.prog 131 [.agg (bY a),.agg (bY b)]=some r/\∃e:Int,r=.v (.int .i64 e):=by
 rw[cL Tryz.func131 rfl aMZ rfl];by_cases h1:a.aL=b.aL
 ·simp only[Z8,seval,bt h1,aH4];exact⟨_,bT rfl (by simp only[E8,seval]<;>rfl) (by first|exact .v _|simp only[dN]),_,rfl⟩
 ·by_cases h2:a.aL<b.aL
  all_goals
   simp only[Z8,seval,bf h1,h2];exact⟨_,bT rfl (by simp only[E8,seval]<;>rfl) (by first|exact .v _|simp only[dN]),_,rfl⟩
noncomputable def aM0 (a b:fU):Int:=Classical.choose (Classical.choose_spec (aH6 a b)).2
theorem aM1 (a b:fU) (st:St) (d:Option Nat):aN (aC Tryz.prog) 131 [.agg (bY a),.agg (bY b)] st d=some { dst:=d,val:=.v (.int .i64 (aM0 a b))}:=by
 have h:=(Classical.choose_spec (aH6 a b)).1
 rw[Classical.choose_spec (Classical.choose_spec (aH6 a b)).2] at h;exact bL (bH (.agg _ (dB a)) (.agg _ (dB b))) h (.v _)
def KnB (v:SV) (r:cJ):Prop:=(∃j:Nat,j<(ol v.O).length/\(gx fV (ol v.O) j).root=r)\/0<=aP v.ns r
theorem c54 {s:aO} {v:SV} (hs:SD s v) (r:cJ):aC Tryz.prog 54 [.agg (aB s),.agg (aX r)]=some (.v (.bool (decide (KnB v r)))):=by
 have hn:=hs.nO
 rw[cL Tryz.func54 rfl aSr rfl];refine iX ?_
 simp only[Z8,seval,hs.bV];refine cB (fun m st=>∃k:Nat,(st.env 2=.ptr 2 0 0/\st.heap 2 0=some (.cells (aB s))/\st.env 3=.ptr 3 0 0/\st.heap 3 0=some (.cells (aX r))/\st.env 5=.v (.int .i64 k))/\(∀j:Nat,j<k->¬((gx fV (ol v.O) (j:Int)).root=r))/\k<=(ol v.O).length/\m=(ol v.O).length-k)
  (fun e st=>(e=.ret/\∃k:Nat,k<(ol v.O).length/\((gx fV (ol v.O) (k:Int)).root=r)/\(∀j:Nat,j<k->¬((gx fV (ol v.O) (j:Int)).root=r))/\st.env 4=.v (.bool true))\/(e=.exit 0/\(∀j:Nat,j<(ol v.O).length->¬((gx fV (ol v.O) (j:Int)).root=r))/\st.env 2=.ptr 2 0 0/\st.heap 2 0=some (.cells (aB s))/\st.env 3=.ptr 3 0 0/\st.heap 3 0=some (.cells (aX r)))) ((ol v.O).length) ?step ?start ?rest
 case step =>
  rintro m st ⟨k,hI,hj,hk,hm⟩
  by_cases aZ:(k:Int)<(ol v.O).length
  ·have q0:(0:Int)<=k:=by omega
   have hw:IntKind.i64.wrap ((k:Int)+1)=((k+1:Nat):Int):=by rw[pM _ (by omega) (by omega)];omega
   by_cases hh:(gx fV (ol v.O) (k:Int)).root=r
   ·apply oT (.ret)
    ·simp only[Z8,seval,hI,aZ,q0,hs.bV,hh];rfl
    ·exact .inl ⟨rfl,k,by omega,hh,hj,by simp only[E8,seval,hs.bV]⟩
   ·apply oN ((ol v.O).length-(k+1))
    ·simp only[Z8,seval,hI,aZ,q0,hs.bV,hh,hw];rfl
    ·exact⟨k+1,by simp only[E8,seval,hI],fun j h=>(Nat.lt_succ_iff_lt_or_eq.1 h).elim (hj j) fun e=>by subst e;exact hh,by omega,rfl⟩
  ·apply oT (.exit 0)
   ·simp only[Z8,seval,hI,aZ,hs.bV];rfl
   ·exact .inr ⟨rfl,fun j h=>hj j (by omega),by simp only[E8,seval,hI]⟩
 case start=>exact⟨0,by simp only[E8,seval]<;>rfl,fun j h=>by omega,by omega,by omega⟩
 case rest =>
  rintro e st (⟨rfl,k,hk,hh,hj,h⟩|⟨rfl,hj,hI⟩)
  ·have hv:decide (KnB v r)=true:=decide_eq_true (.inl ⟨k,hk,hh⟩)
   simp only[Z8,seval];exact⟨_,bT rfl (by simp only[E8,seval,h]<;>rfl) (by first|exact .v _|simp only[dN,h]),by rw[hv]⟩
  ·have hv:decide (KnB v r)=decide (0<=aP v.ns r):=by
    refine decide_eq_decide.2 ⟨fun h=>h.elim (fun ⟨j,hj1,hj2⟩=>absurd hj2 (hj j hj1)) id,.inr⟩
   simp only[Z8,seval,hI,hs.tree,mS _ _ hs.nn];exact⟨_,bT rfl (by simp only[E8,seval]<;>rfl) (by first|exact .v _|simp only[dN]),by rw[hv]⟩
theorem Z2 {s:aO} {v:SV} (hs:SD s v) (r:cJ) (st:St) (d:Option Nat):aN (aC Tryz.prog) 54 [.agg (aB s),.agg (aX r)] st d=some { dst:=d,val:=.v (.bool (decide (KnB v r)))}:=bL (bH hs.flat (qS r)) (c54 hs r) (.v _)
def JX (s:aO) (a:sP):Prop:=a.target.aL≠Fl s a.slot\/(a.target.aL≠Fl s s.now/\(Fl s s.now=0\/a.target.aL≠IntKind.u64.wrap (Fl s s.now-1)))
noncomputable def Ia (s:aO) (v:SV) (a:sP) (V:List Int):Bool × Int :=
 if EK V (ol v.B).length≠0 then (false,EK V (ol v.B).length) else
 if JX s a then (false,18) else
 if aP v.ns a.root<0 then (false,10) else
 if aP v.ns a.target.root<0 then (false,10) else
 if a.slot<(nd v.ns (aP v.ns a.root)).block.slot then (false,14) else
 if JS v.ns (aP v.ns a.root) (Fm s a.target.aL).1≠aP v.ns a.target.root then (false,19) else (decide (s.now<=a.slot),0)
theorem c39 {s:aO} {v:SV} (hs:SD s v) (hu:iB v.ns) (hp:s.cFg.rD≠0) (a:sP) (o:Option (List Int)) (hV:a.eU=ov aI o) (hl:((ol o).length:Int)<1000000) :
 aC Tryz.prog 39 [.agg (aB s),.agg (gZ a)]=some (.dX [.v (.bool (Ia s v a (ol o)).1),.v (.int .i64 (Ia s v a (ol o)).2)]):=by
 have hf:=hs.flat
 have OR:=fun n=>kx (c40 o hl n) (bH (bR o) (.v _)) (.v _)
 rw[cL Tryz.func39 rfl aSs rfl];refine iX ?_
 have r1:=fL v.ns a.root
 by_cases g1:EK (ol o) (ol v.B).length=0
 case neg =>
  have hv:Ia s v a (ol o)=(false,EK (ol o) (ol v.B).length):=by simp only[Ia,ne_eq,g1,not_false_eq_true,if_true]
  simp only[Z8,seval,hV,AE hs,OR,bf g1];exact⟨_,dJ rfl rfl rfl (by simp only[E8,seval]<;>rfl) (by simp only[E8,seval]<;>rfl),by rw[hv]⟩
 have XO:JX s a->Ia s v a (ol o)=(false,18):=fun g=>by simp only[Ia,ne_eq,g1,not_true_eq_false,if_false,g,if_true]
 by_cases g2:a.target.aL=Fl s a.slot
 case neg =>
  have hv:=XO (.inl g2)
  simp only[Z8,seval,hV,AE hs,OR,bt g1,Pm s hp hf,bf g2];exact⟨_,dJ rfl rfl rfl (by simp only[E8,seval]<;>rfl) (by simp only[E8,seval]<;>rfl),by rw[hv]⟩
 by_cases g3:a.target.aL=Fl s s.now
 case neg =>
  by_cases g4:Fl s s.now=0
  ·have hv:=XO (.inr ⟨g3,.inl g4⟩)
   simp only[Z8,seval,hV,AE hs,OR,bt g1,Pm s hp hf,bt g2,bf g3,bt g4];exact⟨_,dJ rfl rfl rfl (by simp only[E8,seval]<;>rfl) (by simp only[E8,seval]<;>rfl),by rw[hv]⟩
  by_cases g5:a.target.aL=IntKind.u64.wrap (Fl s s.now-1)
  case neg =>
   have hv:=XO (.inr ⟨g3,.inr g5⟩)
   simp only[Z8,seval,hV,AE hs,OR,bt g1,Pm s hp hf,bt g2,bf g3,bf g4,bf g5];exact⟨_,dJ rfl rfl rfl (by simp only[E8,seval]<;>rfl) (by simp only[E8,seval]<;>rfl),by rw[hv]⟩
  have gb:¬JX s a:=fun h=>h.elim (fun h=>h g2) fun h=>h.2.elim g4 fun h=>h g5
  by_cases g6:aP v.ns a.root<0
  ·have hv:Ia s v a (ol o)=(false,10):=by simp only[Ia,ne_eq,g1,not_true_eq_false,if_false,gb,g6,if_true]
   simp only[Z8,seval,hV,AE hs,OR,bt g1,Pm s hp hf,bt g2,bf g3,bf g4,bt g5,hs.tree,mS _ _ hs.nn,g6];exact⟨_,dJ rfl rfl rfl (by simp only[E8,seval]<;>rfl) (by simp only[E8,seval]<;>rfl),by rw[hv]⟩
  by_cases g7:aP v.ns a.target.root<0
  ·have hv:Ia s v a (ol o)=(false,10):=by simp only[Ia,ne_eq,g1,not_true_eq_false,if_false,gb,g6,g7,if_true]
   simp only[Z8,seval,hV,AE hs,OR,bt g1,Pm s hp hf,bt g2,bf g3,bf g4,bt g5,hs.tree,mS _ _ hs.nn,g6,g7];exact⟨_,dJ rfl rfl rfl (by simp only[E8,seval]<;>rfl) (by simp only[E8,seval]<;>rfl),by rw[hv]⟩
  have q0:0<=aP v.ns a.root:=by omega
  by_cases g8:a.slot<(nd v.ns (aP v.ns a.root)).block.slot
  ·have hv:Ia s v a (ol o)=(false,14):=by simp only[Ia,ne_eq,g1,not_true_eq_false,if_false,gb,g6,g7,g8,if_true]
   simp only[Z8,seval,hV,AE hs,OR,bt g1,Pm s hp hf,bt g2,bf g3,bf g4,bt g5,hs.tree,mS _ _ hs.nn,g6,g7,q0,r1,g8];exact⟨_,dJ rfl rfl rfl (by simp only[E8,seval]<;>rfl) (by simp only[E8,seval]<;>rfl),by rw[hv]⟩
  by_cases g9:JS v.ns (aP v.ns a.root) (Fm s a.target.aL).1=aP v.ns a.target.root
  ·have hv:Ia s v a (ol o)=(decide (s.now<=a.slot),0):=by simp only[Ia,ne_eq,g1,not_true_eq_false,if_false,gb,g6,g7,g8,g9]
   simp only[Z8,seval,hV,AE hs,OR,bt g1,Pm s hp hf,bt g2,bf g3,bf g4,bt g5,hs.tree,mS _ _ hs.nn,g6,g7,q0,r1,g8,Yk s hf,eC,PD _ hu hs.nn,bt g9];exact⟨_,dJ rfl rfl rfl (by simp only[E8,seval]<;>rfl) (by simp only[E8,seval]<;>rfl),by rw[hv]⟩
  ·have hv:Ia s v a (ol o)=(false,19):=by simp only[Ia,ne_eq,g1,not_true_eq_false,if_false,gb,g6,g7,g8,g9,not_false_eq_true,if_true]
   simp only[Z8,seval,hV,AE hs,OR,bt g1,Pm s hp hf,bt g2,bf g3,bf g4,bt g5,hs.tree,mS _ _ hs.nn,g6,g7,q0,r1,g8,Yk s hf,eC,PD _ hu hs.nn,bf g9];exact⟨_,dJ rfl rfl rfl (by simp only[E8,seval]<;>rfl) (by simp only[E8,seval]<;>rfl),by rw[hv]⟩
 have gb:¬JX s a:=fun h=>h.elim (fun h=>h g2) fun h=>h.1 g3
 by_cases g6:aP v.ns a.root<0
 ·have hv:Ia s v a (ol o)=(false,10):=by simp only[Ia,ne_eq,g1,not_true_eq_false,if_false,gb,g6,if_true]
  simp only[Z8,seval,hV,AE hs,OR,bt g1,Pm s hp hf,bt g2,bt g3,hs.tree,mS _ _ hs.nn,g6];exact⟨_,dJ rfl rfl rfl (by simp only[E8,seval]<;>rfl) (by simp only[E8,seval]<;>rfl),by rw[hv]⟩
 by_cases g7:aP v.ns a.target.root<0
 ·have hv:Ia s v a (ol o)=(false,10):=by simp only[Ia,ne_eq,g1,not_true_eq_false,if_false,gb,g6,g7,if_true]
  simp only[Z8,seval,hV,AE hs,OR,bt g1,Pm s hp hf,bt g2,bt g3,hs.tree,mS _ _ hs.nn,g6,g7];exact⟨_,dJ rfl rfl rfl (by simp only[E8,seval]<;>rfl) (by simp only[E8,seval]<;>rfl),by rw[hv]⟩
 have q0:0<=aP v.ns a.root:=by omega
 by_cases g8:a.slot<(nd v.ns (aP v.ns a.root)).block.slot
 ·have hv:Ia s v a (ol o)=(false,14):=by simp only[Ia,ne_eq,g1,not_true_eq_false,if_false,gb,g6,g7,g8,if_true]
  simp only[Z8,seval,hV,AE hs,OR,bt g1,Pm s hp hf,bt g2,bt g3,hs.tree,mS _ _ hs.nn,g6,g7,q0,r1,g8];exact⟨_,dJ rfl rfl rfl (by simp only[E8,seval]<;>rfl) (by simp only[E8,seval]<;>rfl),by rw[hv]⟩
 by_cases g9:JS v.ns (aP v.ns a.root) (Fm s a.target.aL).1=aP v.ns a.target.root
 ·have hv:Ia s v a (ol o)=(decide (s.now<=a.slot),0):=by simp only[Ia,ne_eq,g1,not_true_eq_false,if_false,gb,g6,g7,g8,g9]
  simp only[Z8,seval,hV,AE hs,OR,bt g1,Pm s hp hf,bt g2,bt g3,hs.tree,mS _ _ hs.nn,g6,g7,q0,r1,g8,Yk s hf,eC,PD _ hu hs.nn,bt g9];exact⟨_,dJ rfl rfl rfl (by simp only[E8,seval]<;>rfl) (by simp only[E8,seval]<;>rfl),by rw[hv]⟩
 ·have hv:Ia s v a (ol o)=(false,19):=by simp only[Ia,ne_eq,g1,not_true_eq_false,if_false,gb,g6,g7,g8,g9,not_false_eq_true,if_true]
  simp only[Z8,seval,hV,AE hs,OR,bt g1,Pm s hp hf,bt g2,bt g3,hs.tree,mS _ _ hs.nn,g6,g7,q0,r1,g8,Yk s hf,eC,PD _ hu hs.nn,bf g9];exact⟨_,dJ rfl rfl rfl (by simp only[E8,seval]<;>rfl) (by simp only[E8,seval]<;>rfl),by rw[hv]⟩
theorem XP (ns:List Node) (s:Int) (l:List Int):Ft ns s l=-1\/Ft ns s l∈l:=by
 suffices h:∀(l:List Int) (a:Int),l.foldl (fun r x=>if (nd ns x).block.slot<=s then x else r) a=a\/l.foldl (fun r x=>if (nd ns x).block.slot<=s then x else r) a∈l from h l (-1)
 intro l;induction l with
 | nil=>exact fun a=>.inl rfl
 | cons x l ih =>
   intro a;rw[List.foldl_cons];split
   ·rcases ih x with h|h
    ·exact .inr (by rw[h];simp)
    ·exact .inr (by simp[h])
   ·rcases ih a with h|h
    ·exact .inl h
    ·exact .inr (by simp[h])
theorem IB {ns:List Node} (hu:iB ns) (i s:Int):-1<=JS ns i s/\JS ns i s<ns.length/\JS ns i s<=max i (-1):=by
 by_cases hi:0<=i/\i<ns.length
 ·rcases XP ns s (path ns i) with h|h
  ·rw[show JS ns i s=-1 from h];omega
  ·have:=Zl hu i.toNat i rfl hi.1 hi.2 _ h
   rw[show JS ns i s=Ft ns s (path ns i) from rfl];omega
 ·rw[PC s hi];omega
noncomputable def elC {α:Type} (x:AV) (k:fU->Option α) (fb:Option α):Option α:=if h:∃c,x=.agg (bY c) then k (Classical.choose h) else fb
theorem aM2 {α:Type} (c:fU) (k:fU->Option α) (fb:Option α):elC (.agg (bY c)) k fb=k c:=by
 unfold elC;have h:∃c',AV.agg (bY c)=.agg (bY c'):=⟨c,rfl⟩
 rw[dif_pos h];have:=Classical.choose_spec h
 injection this with h2
 rw[<- (mX _ _).1 h2]
@[congr] theorem aLm {α:Type} {x y:AV} {k:fU->Option α} {fb:Option α} (h:x=y):elC x k fb=elC y k fb:=by rw[h]
theorem aH7 {call:Nat->List AV->Option AV} {ops:Array Oper} {st:St} {T:Nat} {pos:String} {eK:Array Edge} (d:Nat) (x y z w:Operand) :
 cE Tryz.prog call ops ⟨some d,.buildSlice 109 4 #[(0,x),(1,y),(2,z),(3,w)],T,pos,eK,none⟩ st =
  elC (st.ev x) (fun a=>elC (st.ev y) (fun b=>elC (st.ev z) (fun c=>elC (st.ev w) (fun e=>some ((st.new d (.row 41 33 [a,b,c,e].length (Aj [a,b,c,e]))).put (some d) (.own d (st.aK d))))
   (cE Tryz.prog call ops ⟨some d,.buildSlice 109 4 #[(0,x),(1,y),(2,z),(3,w)],T,pos,eK,none⟩ st)) (cE Tryz.prog call ops ⟨some d,.buildSlice 109 4 #[(0,x),(1,y),(2,z),(3,w)],T,pos,eK,none⟩ st))
   (cE Tryz.prog call ops ⟨some d,.buildSlice 109 4 #[(0,x),(1,y),(2,z),(3,w)],T,pos,eK,none⟩ st)) (cE Tryz.prog call ops ⟨some d,.buildSlice 109 4 #[(0,x),(1,y),(2,z),(3,w)],T,pos,eK,none⟩ st):=by
 unfold elC;split
 ·rename_i h1;have h1c:=h1
  obtain⟨a,HH⟩:=h1c
  have e1:Classical.choose h1=a:=by have:=(Classical.choose_spec h1).symm.trans HH;injection this with t;exact (mX _ _).1 t
  rw[e1];split
  ·rename_i h2;have h2c:=h2
   obtain⟨b,h2'⟩:=h2c
   have e2:Classical.choose h2=b:=by have:=(Classical.choose_spec h2).symm.trans h2';injection this with t;exact (mX _ _).1 t
   rw[e2];split
   ·rename_i h3;have h3c:=h3
    obtain⟨c,h3'⟩:=h3c
    have e3:Classical.choose h3=c:=by have:=(Classical.choose_spec h3).symm.trans h3';injection this with t;exact (mX _ _).1 t
    rw[e3];split
    ·rename_i h4;have h4c:=h4
     obtain⟨e,W7⟩:=h4c
     have e4:Classical.choose h4=e:=by have:=(Classical.choose_spec h4).symm.trans W7;injection this with t;exact (mX _ _).1 t
     rw[e4,jS,Z3];have hz:((List.range 4).flatMap fun _=>Dv.map AV.v)=Aj [gY,gY,gY,gY]:=by rw[Ca];rfl
     have u0:=Qi [gY,gY,gY,gY] 0 a (by simp)
     have u1:=Qi [a,gY,gY,gY] 1 b (by simp)
     have u2:=Qi [a,b,gY,gY] 2 c (by simp)
     have u3:=Qi [a,b,c,gY] 3 e (by simp)
     simp only[Int.reduceToNat,Nat.reduceMul,Nat.reduceAdd,List.set_cons_zero,List.set_cons_succ,List.set] at u0 u1 u2 u3;simp only[cI,aM4,List.toList_toArray,List.map_cons,List.map_nil,List.all_cons,List.all_nil,HH,h2',h3',W7,AV.jO,Bool.and_self,IC,QA,AV.cells,bS,AH,hz,List.length_cons,List.length_nil,Nat.reduceMul,Nat.reduceAdd,Nat.reducePow,Nat.reduceLeDiff,Nat.reduceLT,true_or,true_and,and_true,and_self,if_true,↓reduceIte,u0,u1,u2,u3,Nat.zero_le,Nat.le_refl]
    ·rfl
   ·rfl
  ·rfl
 ·rfl
def L3 (s:aO) (v:SV) (b:Block) (c:fU):Prop:=c.aL<=s.bO.fin.aL\/(if (Fm s c.aL).1<b.slot then 0<=JS v.ns (aP v.ns b.parent) (Fm s c.aL).1/\(nd v.ns (JS v.ns (aP v.ns b.parent) (Fm s c.aL).1)).block.root=c.root else b.root=c.root)
def Ly (b:Block):List fU:=[b.gX,b.fin,b.dL.pj,b.dL.pf]
def JY (s:aO) (v:SV) (b:Block):Prop:=0<=aP v.ns b.parent/\Z1 s b/\∀j:Nat,j<4->L3 s v b (gx gY (Ly b) j)
theorem c69 {s:aO} {v:SV} (hs:SD s v) (hu:iB v.ns) (hp:s.cFg.rD≠0) (b:Block):aC Tryz.prog 69 [.agg (aB s),.agg (aT b)]=some (.v (.bool (decide (JY s v b)))):=by
 have hf:=hs.flat
 rw[cL Tryz.func69 rfl aSt rfl];refine iX ?_
 have r1:=fL v.ns b.parent
 by_cases g1:aP v.ns b.parent<0
 ·have hv:decide (JY s v b)=false:=decide_eq_false (fun h=>by have:=h.1;omega)
  simp only[Z8,seval,hs.tree,mS _ _ hs.nn,g1];exact⟨_,bT rfl (by simp only[E8,seval]<;>rfl) (by first|exact .v _|simp only[dN]),by rw[hv]⟩
 by_cases g2:Z1 s b
 case neg =>
  have hv:decide (JY s v b)=false:=decide_eq_false (fun h=>g2 h.2.1)
  simp only[Z8,seval,hs.tree,mS _ _ hs.nn,g1,aMJ s hp hf,g2];exact⟨_,bT rfl (by simp only[E8,seval]<;>rfl) (by first|exact .v _|simp only[dN]),by rw[hv]⟩
 simp only[Z8,seval,hs.tree,mS _ _ hs.nn,g1,aMJ s hp hf,g2,aH7,aM2];have h4:(Ly b).length=4:=rfl
 refine cB (fun m st=>∃k:Nat,(st.env 2=.ptr 2 0 0/\st.heap 2 0=some (.cells (aB s))/\st.env 3=.ptr 3 0 0/\st.heap 3 0=some (.cells (aT b))/\st.env 5=.v (.int .i64 (aP v.ns b.parent))/\st.env 6=.own 33 0/\st.heap 33 0=some (.row 41 33 (Ly b).length (Aj (Ly b)))/\st.env 7=.v (.int .i64 k))/\(∀j:Nat,j<k->L3 s v b (gx gY (Ly b) j))/\k<=4/\m=4-k)
  (fun e st=>(e=.ret/\st.env 4=.v (.bool false)/\∃j:Nat,j<4/\¬L3 s v b (gx gY (Ly b) j))\/(e=.exit 0/\∀j:Nat,j<4->L3 s v b (gx gY (Ly b) j))) 4 ?step ?start ?rest
 case step =>
  rintro m st ⟨k,hI,hj,hk,hm⟩
  by_cases PE:k<4
  ·have aZ:(k:Int)<(Ly b).length:=by rw[h4];omega
   have q0:(0:Int)<=k:=by omega
   have hw:IntKind.i64.wrap ((k:Int)+1)=((k+1:Nat):Int):=by rw[pM _ (by omega) (by omega)];omega
   obtain⟨c,hc⟩:∃c,gx gY (Ly b) k=c:=⟨_,rfl⟩
   have ra:=IB hu (aP v.ns b.parent) (Fm s c.aL).1
   have ld:∀T kk off,tT Tryz.prog T=some kk->0<kk->off+kk<=33->vL Tryz.prog T (some (.row 41 33 (Ly b).length (Aj (Ly b)))) ((k:Int).toNat * 33+off)=fC Tryz.prog T (bY c) off:=fun T kk off h1 h2 h3=>by rw[JZ q0 aZ h1 h2 h3,hc]
   have ld0:∀T kk,tT Tryz.prog T=some kk->0<kk->kk<=33->vL Tryz.prog T (some (.row 41 33 (Ly b).length (Aj (Ly b)))) ((k:Int).toNat * 33)=fC Tryz.prog T (bY c) 0:=fun T kk h1 h2 h3=>by rw[D0 q0 aZ h1 h2 h3,hc]
   have nxt:L3 s v b c->∀j:Nat,j<k+1->L3 s v b (gx gY (Ly b) j):=fun h j hj'=>(Nat.lt_succ_iff_lt_or_eq.1 hj').elim (hj j) fun e=>by subst e;rw[hc];exact h
   have ld1:=ld0 23 1 XQ (by decide) (by decide)
   have ld2:=ld 27 32 1 aM5 (by decide) (by decide)
   have cl:∀i:Int,(k:Int)<4:=fun _=>by omega
   have hl4:(k:Int)<((Ly b).length:Int):=aZ
   by_cases h1:c.aL<=s.bO.fin.aL
   ·apply oN (4-(k+1))
    ·simp only[Z8,seval,hI,aZ,q0,ld1,ld2,h1,hw];rfl
    ·exact⟨k+1,by simp only[E8,seval,hI],nxt (.inl h1),by omega,rfl⟩
   by_cases h2:(Fm s c.aL).1<b.slot
   ·by_cases h3:JS v.ns (aP v.ns b.parent) (Fm s c.aL).1<0
    ·apply oT (.ret)
     ·simp only[Z8,seval,hI,aZ,q0,ld1,ld2,h1,h2,h3,Yk s hf,eC,hs.tree,PD _ hu hs.nn];rfl
     ·exact .inl ⟨rfl,by simp only[E8,seval],k,PE,by rw[hc];exact fun h=>h.elim h1 fun h=>by rw[if_pos h2] at h;omega⟩
    have q3:0<=JS v.ns (aP v.ns b.parent) (Fm s c.aL).1:=by omega
    by_cases W7:(nd v.ns (JS v.ns (aP v.ns b.parent) (Fm s c.aL).1)).block.root=c.root
    ·apply oN (4-(k+1))
     ·simp only[Z8,seval,hI,aZ,q0,ld1,ld2,h1,h2,h3,Yk s hf,eC,hs.tree,PD _ hu hs.nn,q3,ra,W7,hw];rfl
     ·exact⟨k+1,by simp only[E8,seval,hI],nxt (.inr (by rw[if_pos h2];exact⟨q3,W7⟩)),by omega,rfl⟩
    ·apply oT (.ret)
     ·simp only[Z8,seval,hI,aZ,q0,ld1,ld2,h1,h2,h3,Yk s hf,eC,hs.tree,PD _ hu hs.nn,q3,ra,W7];rfl
     ·exact .inl ⟨rfl,by simp only[E8,seval],k,PE,by rw[hc];exact fun h=>h.elim h1 fun h=>by rw[if_pos h2] at h;exact W7 h.2⟩
   ·by_cases W7:b.root=c.root
    ·apply oN (4-(k+1))
     ·simp only[Z8,seval,hI,aZ,q0,ld1,ld2,h1,h2,Yk s hf,eC,W7,hw];rfl
     ·exact⟨k+1,by simp only[E8,seval,hI],nxt (.inr (by rw[if_neg h2];exact W7)),by omega,rfl⟩
    ·apply oT (.ret)
     ·simp only[Z8,seval,hI,aZ,q0,ld1,ld2,h1,h2,Yk s hf,eC,W7];rfl
     ·exact .inl ⟨rfl,by simp only[E8,seval],k,PE,by rw[hc];exact fun h=>h.elim h1 fun h=>by rw[if_neg h2] at h;exact W7 h⟩
  ·have aZ:¬((k:Int)<(Ly b).length):=by rw[h4];omega
   apply oT (.exit 0)
   ·simp only[Z8,seval,hI,aZ];rfl
   ·exact .inr ⟨rfl,fun j h=>hj j (by omega)⟩
 case start=>exact⟨0,by simp only[E8,seval]<;>rfl,fun j h=>by omega,by omega,by omega⟩
 case rest =>
  rintro e st (⟨rfl,h,j,hj,hn⟩|⟨rfl,h⟩)
  ·have hv:decide (JY s v b)=false:=decide_eq_false (fun h=>hn (h.2.2 j hj))
   simp only[Z8,seval];exact⟨_,bT rfl (by simp only[E8,seval,h]<;>rfl) (by first|exact .v _|simp only[dN,h]),by rw[hv]⟩
  ·have hv:decide (JY s v b)=true:=decide_eq_true ⟨by omega,g2,h⟩
   simp only[Z8,seval];exact⟨_,bT rfl (by simp only[E8,seval]<;>rfl) (by first|exact .v _|simp only[dN]),by rw[hv]⟩
theorem Z4 {s:aO} {v:SV} (hs:SD s v) (hu:iB v.ns) (hp:s.cFg.rD≠0) (b:Block) (st:St) (d:Option Nat):aN (aC Tryz.prog) 69 [.agg (aB s),.agg (aT b)] st d=some { dst:=d,val:=.v (.bool (decide (JY s v b)))}:=bL (bH hs.flat (vJ b)) (c69 hs hu hp b) (.v _)
noncomputable def Mq (s:aO) (v:SV) (b:Block):Int :=
 if b.root=dK then 2 else if KnB v b.root then 9 else if s.now<b.slot then 12 else if b.slot<=(Fm s s.bO.fin.aL).1 then 13 else
 if aP v.ns b.parent<0 then 10 else if b.slot<=(nd v.ns (aP v.ns b.parent)).block.slot then 14 else if (nd v.ns (aP v.ns b.parent)).status=2 then 15 else
 if ¬JY s v b then 16 else if ¬L1 s.cFg.EX (nd v.ns (aP v.ns b.parent)).block b then 17 else if s.cFg.kF.sU<=(v.ns.length:Int) then 11 else 0
theorem c52 {s:aO} {v:SV} (hs:SD s v) (hu:iB v.ns) (hp:s.cFg.rD≠0) (b:Block):aC Tryz.prog 52 [.agg (aB s),.agg (aT b)]=some (.v (.int .i64 (Mq s v b))):=by
 have hf:=hs.flat
 rw[cL Tryz.func52 rfl aSv rfl];refine iX ?_
 have r1:=fL v.ns b.parent
 by_cases g1:b.root=dK
 ·simp only[Z8,seval,Yk s hf,eC,Z2 hs,hs.tree,mS _ _ hs.nn,Z4 hs hu hp,AG,decide_true,decide_false,g1];exact⟨_,bT rfl (by simp only[E8,seval]<;>rfl) (by first|exact .v _|simp only[dN]),by simp only[Mq,g1,not_true_eq_false,not_false_eq_true,if_true,if_false]⟩
 by_cases g2:KnB v b.root
 ·simp only[Z8,seval,Yk s hf,eC,Z2 hs,hs.tree,mS _ _ hs.nn,Z4 hs hu hp,AG,decide_true,decide_false,g1,g2];exact⟨_,bT rfl (by simp only[E8,seval]<;>rfl) (by first|exact .v _|simp only[dN]),by simp only[Mq,g1,g2,not_true_eq_false,not_false_eq_true,if_true,if_false]⟩
 by_cases g3:s.now<b.slot
 ·simp only[Z8,seval,Yk s hf,eC,Z2 hs,hs.tree,mS _ _ hs.nn,Z4 hs hu hp,AG,decide_true,decide_false,g1,g2,g3];exact⟨_,bT rfl (by simp only[E8,seval]<;>rfl) (by first|exact .v _|simp only[dN]),by simp only[Mq,g1,g2,g3,not_true_eq_false,not_false_eq_true,if_true,if_false]⟩
 by_cases g4:b.slot<=(Fm s s.bO.fin.aL).1
 ·simp only[Z8,seval,Yk s hf,eC,Z2 hs,hs.tree,mS _ _ hs.nn,Z4 hs hu hp,AG,decide_true,decide_false,g1,g2,g3,g4];exact⟨_,bT rfl (by simp only[E8,seval]<;>rfl) (by first|exact .v _|simp only[dN]),by simp only[Mq,g1,g2,g3,g4,not_true_eq_false,not_false_eq_true,if_true,if_false]⟩
 by_cases g5:aP v.ns b.parent<0
 ·simp only[Z8,seval,Yk s hf,eC,Z2 hs,hs.tree,mS _ _ hs.nn,Z4 hs hu hp,AG,decide_true,decide_false,g1,g2,g3,g4,g5];exact⟨_,bT rfl (by simp only[E8,seval]<;>rfl) (by first|exact .v _|simp only[dN]),by simp only[Mq,g1,g2,g3,g4,g5,not_true_eq_false,not_false_eq_true,if_true,if_false]⟩
 have q0:0<=aP v.ns b.parent:=by omega
 by_cases g6:b.slot<=(nd v.ns (aP v.ns b.parent)).block.slot
 ·simp only[Z8,seval,Yk s hf,eC,Z2 hs,hs.tree,mS _ _ hs.nn,Z4 hs hu hp,AG,decide_true,decide_false,g1,g2,g3,g4,g5,q0,r1,g6];exact⟨_,bT rfl (by simp only[E8,seval]<;>rfl) (by first|exact .v _|simp only[dN]),by simp only[Mq,g1,g2,g3,g4,g5,g6,not_true_eq_false,not_false_eq_true,if_true,if_false]⟩
 by_cases g7:(nd v.ns (aP v.ns b.parent)).status=2
 ·simp only[Z8,seval,Yk s hf,eC,Z2 hs,hs.tree,mS _ _ hs.nn,Z4 hs hu hp,AG,decide_true,decide_false,g1,g2,g3,g4,g5,q0,r1,g6,bt g7];exact⟨_,bT rfl (by simp only[E8,seval]<;>rfl) (by first|exact .v _|simp only[dN]),by simp only[Mq,g1,g2,g3,g4,g5,g6,g7,not_true_eq_false,not_false_eq_true,if_true,if_false]⟩
 by_cases g8:¬JY s v b
 ·simp only[Z8,seval,Yk s hf,eC,Z2 hs,hs.tree,mS _ _ hs.nn,Z4 hs hu hp,AG,decide_true,decide_false,g1,g2,g3,g4,g5,q0,r1,g6,bf g7,g8];exact⟨_,bT rfl (by simp only[E8,seval]<;>rfl) (by first|exact .v _|simp only[dN]),by simp only[Mq,g1,g2,g3,g4,g5,g6,g7,g8,not_true_eq_false,not_false_eq_true,if_true,if_false]⟩
 replace g8:=Classical.not_not.1 g8
 by_cases g9:¬L1 s.cFg.EX (nd v.ns (aP v.ns b.parent)).block b
 ·simp only[Z8,seval,Yk s hf,eC,Z2 hs,hs.tree,mS _ _ hs.nn,Z4 hs hu hp,AG,decide_true,decide_false,g1,g2,g3,g4,g5,q0,r1,g6,bf g7,g8,g9];exact⟨_,bT rfl (by simp only[E8,seval]<;>rfl) (by first|exact .v _|simp only[dN]),by simp only[Mq,g1,g2,g3,g4,g5,g6,g7,g8,g9,not_true_eq_false,not_false_eq_true,if_true,if_false]⟩
 replace g9:=Classical.not_not.1 g9
 by_cases Z5:s.cFg.kF.sU<=(v.ns.length:Int)
 ·simp only[Z8,seval,Yk s hf,eC,Z2 hs,hs.tree,mS _ _ hs.nn,Z4 hs hu hp,AG,decide_true,decide_false,g1,g2,g3,g4,g5,q0,r1,g6,bf g7,g8,g9,Z5];exact⟨_,bT rfl (by simp only[E8,seval]<;>rfl) (by first|exact .v _|simp only[dN]),by simp only[Mq,g1,g2,g3,g4,g5,g6,g7,g8,g9,Z5,not_true_eq_false,not_false_eq_true,if_true,if_false]⟩
 simp only[Z8,seval,Yk s hf,eC,Z2 hs,hs.tree,mS _ _ hs.nn,Z4 hs hu hp,AG,decide_true,decide_false,g1,g2,g3,g4,g5,q0,r1,g6,bf g7,g8,g9,Z5];exact⟨_,bT rfl (by simp only[E8,seval]<;>rfl) (by first|exact .v _|simp only[dN]),by simp only[Mq,g1,g2,g3,g4,g5,g6,g7,g8,g9,Z5,not_true_eq_false,not_false_eq_true,if_true,if_false]⟩
theorem k52 {s:aO} {v:SV} (hs:SD s v) (hu:iB v.ns) (hp:s.cFg.rD≠0) (b:Block) (st:St) (d:Option Nat):aN (aC Tryz.prog) 52 [.agg (aB s),.agg (aT b)] st d=some { dst:=d,val:=.v (.int .i64 (Mq s v b))}:=bL (bH hs.flat (vJ b)) (c52 hs hu hp b) (.v _)
def QB (acc:Bool × fU × fU) (n:Node):Bool × fU × fU :=
 if n.status=2 then acc else (true,if acc.1=false\/acc.2.1.aL<n.block.dL.pj.aL then n.block.dL.pj else acc.2.1,if acc.1=false\/acc.2.2.aL<n.block.dL.pf.aL then n.block.dL.pf else acc.2.2)
def L4 (ns:List Node):Bool × fU × fU:=ns.foldl QB (false,gY,gY)
def Lz (ns:List Node):pG:=⟨(L4 ns).2.1,(L4 ns).2.2⟩
theorem L5 (ns:List Node) (k:Nat) (h:k<ns.length):L4 (ns.take (k+1))=QB (L4 (ns.take k)) (nd ns k):=by
 obtain⟨h',e⟩:=Nu (ns:=ns) (i:=(k:Int)) (by omega) (by omega)
 unfold L4;rw[List.take_succ_eq_append_getElem h,List.foldl_append,e];rfl
theorem c67 {s:aO} {v:SV} (hs:SD s v):aC Tryz.prog 67 [.agg (aB s)]=some (.agg (fJ (Lz v.ns))):=by
 have hn:=hs.nn
 rw[cL Tryz.func67 rfl aSw rfl];refine iX ?_
 simp only[Z8,seval,hs.tree];refine cB (fun m st=>∃(k:Nat) (b:Bool) (x y:fU),(st.env 1=.ptr 1 0 0/\st.heap 1 0=some (.cells (aB s))/\st.env 2=.ptr 2 0 0/\st.heap 2 0=some (.cells (fJ Qj))/\st.env 3=.ptr 3 0 0/\st.heap 3 0=some (.cells (fJ ⟨x,y⟩))/\st.env 4=.v (.bool b)/\st.env 5=.v (.int .i64 k))/\L4 (v.ns.take k)=(b,x,y)/\k<=v.ns.length/\m=v.ns.length-k)
  (fun e st=>e=.exit 0/\∃(x y:fU),(st.env 2=.ptr 2 0 0/\st.heap 2 0=some (.cells (fJ Qj))/\st.env 3=.ptr 3 0 0/\st.heap 3 0=some (.cells (fJ ⟨x,y⟩)))/\Lz v.ns=⟨x,y⟩) v.ns.length ?step ?start ?rest
 case step =>
  rintro m st ⟨k,b,x,y,hI,hp,hk,hm⟩
  by_cases aZ:(k:Int)<v.ns.length
  ·have q0:(0:Int)<=k:=by omega
   have hw:IntKind.i64.wrap ((k:Int)+1)=((k+1:Nat):Int):=by rw[pM _ (by omega) (by omega)];omega
   have xV:=L5 v.ns k (by omega)
   rw[hp] at xV;unfold QB at xV;by_cases h1:(nd v.ns k).status=2
   ·rw[if_pos h1] at xV;apply oN (v.ns.length-(k+1))
    ·simp only[Z8,seval,hI,aZ,q0,hs.tree,bt h1,hw];rfl
    ·exact⟨k+1,b,x,y,by simp only[E8,seval,hI],xV,by omega,rfl⟩
   rw[if_neg h1] at xV;cases b
   ·simp only[true_or,if_true] at xV;apply oN (v.ns.length-(k+1))
    ·simp only[Z8,seval,hI,aZ,q0,hs.tree,bf h1,hw];rfl
    ·exact⟨k+1,true,_,_,by simp only[E8,seval,hI]<;>rfl,xV,by omega,rfl⟩
   ·simp only[Bool.true_eq_false,false_or] at xV;by_cases h2:x.aL<(nd v.ns k).block.dL.pj.aL
    ·rw[if_pos h2] at xV;by_cases h3:y.aL<(nd v.ns k).block.dL.pf.aL
     ·rw[if_pos h3] at xV;apply oN (v.ns.length-(k+1))
      ·simp only[Z8,seval,hI,aZ,q0,hs.tree,bf h1,h2,h3,hw];rfl
      ·exact⟨k+1,true,_,_,by simp only[E8,seval,hI]<;>rfl,xV,by omega,rfl⟩
     ·rw[if_neg h3] at xV;apply oN (v.ns.length-(k+1))
      ·simp only[Z8,seval,hI,aZ,q0,hs.tree,bf h1,h2,h3,hw];rfl
      ·exact⟨k+1,true,_,_,by simp only[E8,seval,hI]<;>rfl,xV,by omega,rfl⟩
    ·rw[if_neg h2] at xV;by_cases h3:y.aL<(nd v.ns k).block.dL.pf.aL
     ·rw[if_pos h3] at xV;apply oN (v.ns.length-(k+1))
      ·simp only[Z8,seval,hI,aZ,q0,hs.tree,bf h1,h2,h3,hw];rfl
      ·exact⟨k+1,true,_,_,by simp only[E8,seval,hI]<;>rfl,xV,by omega,rfl⟩
     ·rw[if_neg h3] at xV;apply oN (v.ns.length-(k+1))
      ·simp only[Z8,seval,hI,aZ,q0,hs.tree,bf h1,h2,h3,hw];rfl
      ·exact⟨k+1,true,_,_,by simp only[E8,seval,hI]<;>rfl,xV,by omega,rfl⟩
  ·have Hy:k=v.ns.length:=by omega
   rw[Hy,List.take_length] at hp;apply oT (.exit 0)
   ·simp only[Z8,seval,hI,aZ,hs.tree];rfl
   ·exact⟨rfl,x,y,by simp only[E8,seval,hI],by unfold Lz;rw[hp]⟩
 case start=>exact⟨0,false,gY,gY,by simp only[E8,seval]<;>rfl,rfl,by omega,by omega⟩
 case rest =>
  rintro e st ⟨rfl,x,y,hI,hp⟩
  simp only[Z8,seval,hI];exact⟨_,fK rfl (by simp only[E8,seval,hI]<;>rfl) (by simp only[Z8,seval,hI]<;>rfl) (by simp only[dN,and_self,hI]),by rw[hp]⟩
theorem k67 {s:aO} {v:SV} (hs:SD s v) (st:St) (d:Option Nat):aN (aC Tryz.prog) 67 [.agg (aB s)] st d=some { dst:=d,val:=.agg (fJ (Lz v.ns))}:=bL (cT hs.flat) (c67 hs) (.agg _ (Gb _))
noncomputable def Ib (s:aO) (c:fU):fU:=if s.bO.gX.aL<c.aL then c else s.bO.gX
noncomputable def Fo (s:aO) (c:fU):fU:=if s.bO.fin.aL<c.aL then c else s.bO.fin
def mT (s:aO) (v:SV) (J F:fU):Prop :=
 aP v.ns J.root<0\/aP v.ns F.root<0\/(nd v.ns (aP v.ns J.root)).status=2\/(nd v.ns (aP v.ns F.root)).status=2\/¬XK s v.ns (aP v.ns J.root) J.aL\/¬XK s v.ns (aP v.ns F.root) F.aL \/
 Bw v.ns (aP v.ns F.root) (aP v.ns J.root)=false\/J.aL<F.aL\/Fl s s.now<J.aL\/W6 (ol v.T) J<0
noncomputable def L6 (s:aO) (v:SV) (c1 c2:fU):AV:=if mT s v (Ib s c1) (Fo s c2) then .dX [.agg (bY gY),.agg (bY gY),.v (.bool false)] else .dX [.agg (bY (Ib s c1)),.agg (bY (Fo s c2)),.v (.bool true)]
end Go.Ab.Tryz
section
namespace Go.Ab.Tryz
open Classical Go.Proofs Go.Ab
end Go.Ab.Tryz
namespace Go.Ab
theorem Qk {α β:Type} {x:Option α} {k:α->Option β} {R:β->Prop} (Q:α->Prop) (h:∃a,x=some a/\Q a) (rest:∀a,Q a->∃r,k a=some r/\R r):∃r,cA x k=some r/\R r:=by
 obtain⟨a,h1,h2⟩:=h
 rw[h1];exact rest a h2
end Go.Ab
namespace Go.Ab.Tryz
open Classical Go.Proofs Go.Ab
theorem Dw:aE 7 73 (some 41)=[]/\aE 7 72 (some 41)=[]:=⟨rfl,rfl⟩
theorem qG {α:Type} (a:α) (l m:List α):List.append (a :: l) m=a :: List.append l m:=rfl
theorem qI {α:Type} (m:List α):List.append ([]:List α) m=m:=rfl
theorem c59 {s:aO} {v:SV} (hs:SD s v) (hu:iB v.ns) (hp:s.cFg.rD≠0) (c1 c2:fU):aC Tryz.prog 59 [.agg (aB s),.agg (bY c1),.agg (bY c2)]=some (L6 s v c1 c2):=by
 have hf:=hs.flat
 have WE:=hs.fT
 rw[cG Tryz.func59 rfl aSx (by kernel_rfl) rfl]
 refine iX ?_
 unfold L6;obtain⟨J,eJ⟩:∃J,Ib s c1=J:=⟨_,rfl⟩
 obtain⟨F,eF⟩:∃F,Fo s c2=F:=⟨_,rfl⟩
 rw[eJ,eF];simp only[ZG,seval,Th,Dw,qG,qI];refine Qk (fun a=>a.1=.normal/\a.2.env 3=.ptr 3 0 0/\a.2.heap 3 0=some (.cells (aB s))/\a.2.env 5=.ptr 5 0 0/\a.2.heap 5 0=some (.cells (bY c2))/\a.2.env 6=.ptr 6 0 0/\a.2.heap 6 0=some (.cells (bY gY))/\a.2.env 7=.ptr 7 0 0/\a.2.heap 7 0=some (.cells (bY gY))/\a.2.env 9=.ptr 9 0 0/\a.2.heap 9 0=some (.cells (bY J))/\a.2.env 10=.ptr 10 0 0/\a.2.heap 10 0=some (.cells (bY s.bO.fin))) ?m1 ?r1
 case m1 =>
  unfold Ib at eJ;by_cases a1:s.bO.gX.aL<c1.aL
  ·rw[if_pos a1] at eJ;simp only[a1,decide_true,if_true];exact⟨_,rfl,rfl,by simp only[E8,seval,eJ]<;>exact⟨rfl,rfl⟩⟩
  ·rw[if_neg a1] at eJ;simp only[a1,decide_false,Bool.false_eq_true,if_false];exact⟨_,rfl,rfl,by simp only[E8,seval,eJ]<;>exact⟨rfl,rfl⟩⟩
 case r1 =>
  rintro⟨_,st⟩ ⟨rfl,hI⟩
  dsimp only at hI
  simp only[ZG,seval,Th,Dw,qG,qI,hI];refine Qk (fun a=>a.1=.normal/\a.2.env 3=.ptr 3 0 0/\a.2.heap 3 0=some (.cells (aB s))/\a.2.env 6=.ptr 6 0 0/\a.2.heap 6 0=some (.cells (bY gY))/\a.2.env 7=.ptr 7 0 0/\a.2.heap 7 0=some (.cells (bY gY))/\a.2.env 9=.ptr 9 0 0/\a.2.heap 9 0=some (.cells (bY J))/\a.2.env 10=.ptr 10 0 0/\a.2.heap 10 0=some (.cells (bY F))) ?m2 ?r2
  case m2 =>
   unfold Fo at eF;by_cases a2:s.bO.fin.aL<c2.aL
   ·rw[if_pos a2] at eF;simp only[a2,decide_true,if_true];exact⟨_,rfl,rfl,by simp only[E8,seval,hI,eF]⟩
   ·rw[if_neg a2] at eF;simp only[a2,decide_false,Bool.false_eq_true,if_false];exact⟨_,rfl,rfl,by simp only[E8,seval,hI,eF]⟩
  case r2 =>
   rintro⟨_,st⟩ ⟨rfl,hK⟩
   dsimp only at hK
   have r1:=fL v.ns J.root
   have r2:=fL v.ns F.root
   by_cases g1:aP v.ns J.root<0
   ·simp only[ZG,seval,Th,Dw,qG,qI,hK,hs.tree,mS _ _ hs.nn,Px _ hu hs.nn,Pm s hp hf,hs.tables,C9 _ hs.nT WE,decide_true,decide_false,g1];exact⟨_,by apply gR;rfl;all_goals simp only[aJ,bX,Z8,seval,hK]<;>rfl,by rw[if_pos (show mT s v J F by simp only[mT,g1,not_true_eq_false,not_false_eq_true,true_or,or_true])]⟩
   by_cases g2:aP v.ns F.root<0
   ·simp only[ZG,seval,Th,Dw,qG,qI,hK,hs.tree,mS _ _ hs.nn,Px _ hu hs.nn,Pm s hp hf,hs.tables,C9 _ hs.nT WE,decide_true,decide_false,g1,g2];exact⟨_,by apply gR;rfl;all_goals simp only[aJ,bX,Z8,seval,hK]<;>rfl,by rw[if_pos (show mT s v J F by simp only[mT,g1,g2,not_true_eq_false,not_false_eq_true,true_or,or_true])]⟩
   have q1:0<=aP v.ns J.root:=by omega
   have q2:0<=aP v.ns F.root:=by omega
   by_cases g3:(nd v.ns (aP v.ns J.root)).status=2
   ·simp only[ZG,seval,Th,Dw,qG,qI,hK,hs.tree,mS _ _ hs.nn,Px _ hu hs.nn,Pm s hp hf,hs.tables,C9 _ hs.nT WE,decide_true,decide_false,g1,g2,q1,q2,r1,r2,bt g3];exact⟨_,by apply gR;rfl;all_goals simp only[aJ,bX,Z8,seval,hK]<;>rfl,by rw[if_pos (show mT s v J F by simp only[mT,g1,g2,g3,not_true_eq_false,not_false_eq_true,true_or,or_true])]⟩
   by_cases g4:(nd v.ns (aP v.ns F.root)).status=2
   ·simp only[ZG,seval,Th,Dw,qG,qI,hK,hs.tree,mS _ _ hs.nn,Px _ hu hs.nn,Pm s hp hf,hs.tables,C9 _ hs.nT WE,decide_true,decide_false,g1,g2,q1,q2,r1,r2,bf g3,bt g4];exact⟨_,by apply gR;rfl;all_goals simp only[aJ,bX,Z8,seval,hK]<;>rfl,by rw[if_pos (show mT s v J F by simp only[mT,g1,g2,g3,g4,not_true_eq_false,not_false_eq_true,true_or,or_true])]⟩
   have ke1:=aML hs (aP v.ns J.root) J.aL q1 r1.2
   have ke2:=aML hs (aP v.ns F.root) F.aL q2 r2.2
   by_cases g5:¬XK s v.ns (aP v.ns J.root) J.aL
   ·simp only[ZG,seval,Th,Dw,qG,qI,hK,hs.tree,mS _ _ hs.nn,Px _ hu hs.nn,Pm s hp hf,hs.tables,C9 _ hs.nT WE,decide_true,decide_false,g1,g2,q1,q2,r1,r2,bf g3,bf g4,ke1,ke2,g5];exact⟨_,by apply gR;rfl;all_goals simp only[aJ,bX,Z8,seval,hK]<;>rfl,by rw[if_pos (show mT s v J F by simp only[mT,g1,g2,g3,g4,g5,not_true_eq_false,not_false_eq_true,true_or,or_true])]⟩
   replace g5:=Classical.not_not.1 g5
   by_cases g6:¬XK s v.ns (aP v.ns F.root) F.aL
   ·simp only[ZG,seval,Th,Dw,qG,qI,hK,hs.tree,mS _ _ hs.nn,Px _ hu hs.nn,Pm s hp hf,hs.tables,C9 _ hs.nT WE,decide_true,decide_false,g1,g2,q1,q2,r1,r2,bf g3,bf g4,ke1,ke2,g5,g6];exact⟨_,by apply gR;rfl;all_goals simp only[aJ,bX,Z8,seval,hK]<;>rfl,by rw[if_pos (show mT s v J F by simp only[mT,g1,g2,g3,g4,g5,g6,not_true_eq_false,not_false_eq_true,true_or,or_true])]⟩
   replace g6:=Classical.not_not.1 g6
   by_cases g7:Bw v.ns (aP v.ns F.root) (aP v.ns J.root)=false
   ·simp only[ZG,seval,Th,Dw,qG,qI,hK,hs.tree,mS _ _ hs.nn,Px _ hu hs.nn,Pm s hp hf,hs.tables,C9 _ hs.nT WE,decide_true,decide_false,g1,g2,q1,q2,r1,r2,bf g3,bf g4,ke1,ke2,g5,g6,g7];exact⟨_,by apply gR;rfl;all_goals simp only[aJ,bX,Z8,seval,hK]<;>rfl,by rw[if_pos (show mT s v J F by simp only[mT,g1,g2,g3,g4,g5,g6,g7,not_true_eq_false,not_false_eq_true,true_or,or_true])]⟩
   replace g7:=(by simpa using g7:Bw v.ns _ _=true)
   by_cases g8:J.aL<F.aL
   ·simp only[ZG,seval,Th,Dw,qG,qI,hK,hs.tree,mS _ _ hs.nn,Px _ hu hs.nn,Pm s hp hf,hs.tables,C9 _ hs.nT WE,decide_true,decide_false,g1,g2,q1,q2,r1,r2,bf g3,bf g4,ke1,ke2,g5,g6,g7,g7,g8];exact⟨_,by apply gR;rfl;all_goals simp only[aJ,bX,Z8,seval,hK]<;>rfl,by rw[if_pos (show mT s v J F by simp only[mT,g1,g2,g3,g4,g5,g6,g7,g8,not_true_eq_false,not_false_eq_true,true_or,or_true])]⟩
   by_cases g9:Fl s s.now<J.aL
   ·simp only[ZG,seval,Th,Dw,qG,qI,hK,hs.tree,mS _ _ hs.nn,Px _ hu hs.nn,Pm s hp hf,hs.tables,C9 _ hs.nT WE,decide_true,decide_false,g1,g2,q1,q2,r1,r2,bf g3,bf g4,ke1,ke2,g5,g6,g7,g7,g8,g9];exact⟨_,by apply gR;rfl;all_goals simp only[aJ,bX,Z8,seval,hK]<;>rfl,by rw[if_pos (show mT s v J F by simp only[mT,g1,g2,g3,g4,g5,g6,g7,g8,g9,not_true_eq_false,not_false_eq_true,true_or,or_true])]⟩
   by_cases Z5:W6 (ol v.T) J<0
   ·simp only[ZG,seval,Th,Dw,qG,qI,hK,hs.tree,mS _ _ hs.nn,Px _ hu hs.nn,Pm s hp hf,hs.tables,C9 _ hs.nT WE,decide_true,decide_false,g1,g2,q1,q2,r1,r2,bf g3,bf g4,ke1,ke2,g5,g6,g7,g7,g8,g9,Z5];exact⟨_,by apply gR;rfl;all_goals simp only[aJ,bX,Z8,seval,hK]<;>rfl,by rw[if_pos (show mT s v J F by simp only[mT,g1,g2,g3,g4,g5,g6,g7,g8,g9,Z5,not_true_eq_false,not_false_eq_true,true_or,or_true])]⟩
   simp only[ZG,seval,Th,Dw,qG,qI,hK,hs.tree,mS _ _ hs.nn,Px _ hu hs.nn,Pm s hp hf,hs.tables,C9 _ hs.nT WE,decide_true,decide_false,g1,g2,q1,q2,r1,r2,bf g3,bf g4,ke1,ke2,g5,g6,g7,g7,g8,g9,Z5];exact⟨_,by apply gR;rfl;all_goals simp only[aJ,bX,Z8,seval,hK]<;>rfl,by rw[if_neg (show ¬mT s v J F by simp only[mT,g1,g2,g3,g4,g5,g6,g7,g8,g9,Z5,not_true_eq_false,not_false_eq_true,or_self,Bool.true_eq_false])]⟩
theorem k59 {s:aO} {v:SV} (hs:SD s v) (hu:iB v.ns) (hp:s.cFg.rD≠0) (c1 c2:fU) (st:St) (d:Option Nat):aN (aC Tryz.prog) 59 [.agg (aB s),.agg (bY c1),.agg (bY c2)] st d=some { dst:=d,val:=L6 s v c1 c2 }:=bL (oW hs.flat (.agg _ (dB c1)) (.agg _ (dB c2))) (c59 hs hu hp c1 c2) (by unfold L6;split<;>exact .dX _ (oW (.agg _ (dB _)) (.agg _ (dB _)) (.v _)))
end Go.Ab.Tryz
end
