/-
  Part 15 of the proof: an evaluator of programs, its soundness, and what functions of this program compute.
-/
import Derived.Test.YtmcjkemalibacaaGreatK14
import Derived.Test.YtmcjkemalibacaaGreatK10
import Derived.Test.YtmcjkemalibacaaGreatK11
import Derived.Test.YtmcjkemalibacaaGreatK13
set_option linter.all false
set_option maxRecDepth 20000
set_option maxHeartbeats 40000000
namespace Go.Ab.Tryz
open Classical Go.Proofs Go.Ab
theorem MG {s:aM} (h:1≤s.cFg.jK) {x y:Int} (hx:0≤x) (hxy:x≤y) (hy:y<18446744073709551616):mO s x≤mO s y:=by
 have e:∀z:Int,0≤z→z<18446744073709551616→mO s z=z / s.cFg.jK:=fun z h0 h1=>by
  unfold mO;rw[Int.tdiv_eq_ediv_of_nonneg h0];have:=Int.ediv_le_self s.cFg.jK h0
  exact wrap_u64 _ (Int.ediv_nonneg h0 (by omega)) (by omega)
 rw[e x hx (by omega),e y (by omega) hy]
 exact Int.ediv_le_ediv (by omega) hxy
theorem aBD {acc:Bool × fB × fB} {n:Node} (h1:Rg acc.2.1.aI) (h2:Rg acc.2.2.aI) (hn:RB n.block):Rg (LI acc n).2.1.aI∧Rg (LI acc n).2.2.aI:=by
 unfold LI;split
 ·exact⟨h1,h2⟩
 ·refine⟨?_, ?_⟩
  ·dsimp only;split
   ·exact hn.pj
   ·exact h1
  ·dsimp only;split
   ·exact hn.pf
   ·exact h2
theorem aBE {ns:List Node} (h:∀n∈ns,RB n.block):Rg (Jk ns).pj.aI∧Rg (Jk ns).pf.aI:=by
 have key:∀(l:List Node) (acc:Bool × fB × fB),(∀n∈l,RB n.block)→Rg acc.2.1.aI→Rg acc.2.2.aI→Rg (l.foldl LI acc).2.1.aI∧Rg (l.foldl LI acc).2.2.aI:=by
  intro l;induction l with
  | nil=>intro acc _ h1 h2;exact⟨h1,h2⟩
  | cons n l ih =>
    intro acc hl h1 h2;have hs:=aBD h1 h2 (hl n (List.mem_cons_self ..))
    exact ih _ (fun x hx=>hl x (List.mem_cons_of_mem _ hx)) hs.1 hs.2
 exact key ns _ h ⟨by show (0:Int)≤0;omega,by show (0:Int)<_;omega⟩ ⟨by show (0:Int)≤0;omega,by show (0:Int)<_;omega⟩
theorem Iw (s:aM) (X:AV):(vS s X).now=s.now:=rfl
theorem xU (s:aM) (X:AV):(vS s X).dZ.early=X:=rfl
theorem Ww {s:aM} {v:SV} (h:SD s v) {L:List oY} (hL:∀x∈L,Flat x.dX) (st:St) {g:Nat} (hh:st.heap 61 g=some (.row 87 67 L.length (dO L))):fV st (.agg (aA (vS s (.own 61 g))))=some (.agg (aA (vS s (ov dO (some L))))):=by
 have oD:=h.fl
 have hx:=N7 L.length L hL
 unfold vS;simp only[bM,gD,bG,hh,hx,cY,eA,oD,cN];rfl
theorem aLg {call:Nat→List AV→Option AV} {inl:Nat→List AV→St→Option (AV × St)} {ops:Array Oper} {st:St} {T:Nat} {pos:String} {eU:Array Edge} (x:Array Operand) (y:Array Nat) :
 gL Tryz.prog true call inl ops ⟨some 80,.call ⟨.value (.func 44),x,y⟩,T,pos,eU,none⟩ st=cH (inl 44 (x.toList.map st.ev) st) fun r=>some ((st.back r.2).put (some 80) r.1):=TN 44 x y (Wx rfl)
noncomputable def Ix:Code:=kD (Tryz.f202.body.getD .skip)
def aPY (c0:Config) (E:Option (List oY)) (q:Int) (m:Nat) (st:St):Prop:=∃(k:Nat) (S:aM) (w:SV) (X:AV),(st.env 1=.ptr 1 0 0∧st.heap 1 0=some (.cells (aA (vS S X)))∧st.env 2=.ptr 2 0 0∧st.heap 2 0=some (.cells (aA gC))∧st.env 5=ov dO E∧st.env 6=.v (.int .i64 k)∧0<st.aQ 1∧0<st.aQ 2)∧((X=.v (.slice none 0 0)∧w.E=none)∨∃g L,w.E=some L∧X=.own 61 g∧g<st.aQ 61∧st.heap 61 g=some (.row 87 67 L.length (dO L)))∧GI (vS S (ov dO w.E)) w q∧RG (vS S (ov dO w.E)) w∧S.cFg=c0∧(ol w.E).length≤k∧k≤(ol E).length∧m=(ol E).length-k
def aBF (c0:Config) (q:Int) (e:Ex) (st:St):Prop:=e=.exit 0∧∃(S:aM) (w:SV) (X:AV),(st.env 1=.ptr 1 0 0∧st.heap 1 0=some (.cells (aA (vS S X)))∧st.env 2=.ptr 2 0 0∧st.heap 2 0=some (.cells (aA gC)))∧((X=.v (.slice none 0 0)∧w.E=none)∨∃g L,w.E=some L∧X=.own 61 g∧st.heap 61 g=some (.row 87 67 L.length (dO L)))∧GI (vS S (ov dO w.E)) w q∧RG (vS S (ov dO w.E)) w∧S.cFg=c0
theorem N8 {c0:Config} {E:Option (List oY)} {q:Int} (hE:∀a∈ol E,Ce a) (hEa:∀a∈ol E,∃V,a.dX=ov aH (some V)∧V≠[]) (nE:((ol E).length:Int)≤c0.lS.pM) (nE':((ol E).length:Int)<900000) {m:Nat} {st:St} (hs:aPY c0 E q m st):∃e st',vU Tryz.prog true Ix st=some (e,st')∧aBF c0 q e st':=by
 have key:∃r,cH (vU Tryz.prog true Ix st) some=some r∧aBF c0 q r.1 r.2:=by
  unfold Ix;simp only[Tryz.f202,Option.getD_some,kD];refine kX (fun m st=>∃(k:Nat) (S:aM) (w:SV) (X:AV),(st.env 1=.ptr 1 0 0∧st.heap 1 0=some (.cells (aA (vS S X)))∧st.env 2=.ptr 2 0 0∧st.heap 2 0=some (.cells (aA gC))∧st.env 5=ov dO E∧st.env 6=.v (.int .i64 k)∧0<st.aQ 1∧0<st.aQ 2)∧((X=.v (.slice none 0 0)∧w.E=none)∨∃g L,w.E=some L∧X=.own 61 g∧g<st.aQ 61∧st.heap 61 g=some (.row 87 67 L.length (dO L)))∧GI (vS S (ov dO w.E)) w q∧RG (vS S (ov dO w.E)) w∧S.cFg=c0∧(ol w.E).length≤k∧k≤(ol E).length∧m=(ol E).length-k) (fun e st=>e=.exit 0∧∃(S:aM) (w:SV) (X:AV),(st.env 1=.ptr 1 0 0∧st.heap 1 0=some (.cells (aA (vS S X)))∧st.env 2=.ptr 2 0 0∧st.heap 2 0=some (.cells (aA gC)))∧((X=.v (.slice none 0 0)∧w.E=none)∨∃g L,w.E=some L∧X=.own 61 g∧st.heap 61 g=some (.row 87 67 L.length (dO L)))∧GI (vS S (ov dO w.E)) w q∧RG (vS S (ov dO w.E)) w∧S.cFg=c0) m ?step ?start ?rest
  case start=>exact hs
  case rest=>exact fun e st h=>⟨_,rfl,h⟩
  case step =>
   clear hs
   rintro m st ⟨k,S,w,X,hI,hX,hG,nP,hC,hF,hk,hm⟩
   by_cases aZ:(k:Int)<(ol E).length
   case neg =>
    have hX':(X=.v (.slice none 0 0)∧w.E=none)∨∃g L,w.E=some L∧X=.own 61 g∧st.heap 61 g=some (.row 87 67 L.length (dO L)):=hX.imp id fun ⟨g,L,h1,h2,_,h4⟩=>⟨g,L,h1,h2,h4⟩
    apply FM (.exit 0)
    ·simp only[ZG,seval,Bool.false_and,Prod.mk.injEq,Aq,hI,aZ];rfl
    ·exact⟨rfl,S,w,X,by simp only[E8,seval,hI],by simpa only[E8,seval] using hX',hG,nP,hC⟩
   have q0:(0:Int)≤k:=by omega
   have hw:IntKind.i64.wrap ((k:Int)+1)=((k+1:Nat):Int):=by rw[pV _ (by omega) (by omega)];omega
   obtain⟨a,ea⟩:∃a,gx Hc (ol E) (k:Int)=a:=⟨_,rfl⟩
   have ha:Ce a:=by rw[← ea];exact hE _ (tI q0 aZ)
   have hEa':∃V,a.dX=ov aH (some V)∧V≠[]:=by rw[← ea];exact hEa _ (tI q0 aZ)
   obtain⟨V,hV,nV⟩:=id ha
   have fa:Flat (.agg (eH a)):=(qE a).2 ha.fl
   have fl9:=hG.sd.flat
   by_cases g1:S.now≤a.slot
   · -- kept
    rcases hX with ⟨rfl,Wy⟩|⟨g,L,Wy,rfl,hg,hh⟩
    ·have Nn:=hG.early (some [a]) (by intro b hb;rw[show b=a by simpa [ol] using hb];exact ha) (by show ((1:Nat):Int)≤S.cFg.lS.pM;rw[hC];omega)
     have Cn:RG (vS S (ov dO (some [a]))) { w with E:=some [a]}:=⟨nP.now,nP.j,nP.f,nP.nd,nP.or,nP.rt,nP.fe,nP.ds,nP.tb,⟨nP.ne.q,by simp,nP.ne.o,nP.ne.t,fun b hb=>by rw[show b=a by simpa [ol] using hb];exact hEa' ,nP.ne.tb⟩⟩
     have an1:=GG a
     apply Bh ((ol E).length-(k+1))
     ·simp only[ZG,seval,Bool.false_and,Prod.mk.injEq,Aq,hI,aZ,q0,ea,Iw,xU,g1,fa,an1,hw];rfl
     ·exact⟨k+1,S,{ w with E:=some [a]},_,by and_intros<;>(simp only[E8,seval,hI]<;>rfl),.inr ⟨_,[a],rfl,rfl,by simp only[E8,seval]<;>omega,by simp only[E8,seval]<;>rfl⟩,Nn,Cn,hC,by show 1≤k+1;omega,by omega,rfl⟩
    ·have hlL:L.length≤k:=by rw[Wy] at hF;exact hF
     have nL:(L.length:Int)<1000000:=by omega
     have uR:(g=st.aQ 61)=False:=eq_false (by omega)
     have Nn:=hG.early (some (L++[a])) (by
      intro b hb;rcases List.mem_append.1 (show b∈L++[a] from hb) with hb|hb
      ·exact hG.sd.eV b (by rw[Wy];exact hb)
      ·rw[List.mem_singleton] at hb;rw[hb];exact ha) (by show (((L++[a]).length:Nat):Int)≤S.cFg.lS.pM;rw[hC,List.length_append,List.length_cons,List.length_nil];omega)
     have Cn:RG (vS S (ov dO (some (L++[a])))) { w with E:=some (L++[a])}:=⟨nP.now,nP.j,nP.f,nP.nd,nP.or,nP.rt,nP.fe,nP.ds,nP.tb,⟨nP.ne.q,by simp,nP.ne.o,nP.ne.t,fun b hb=>by rcases List.mem_append.1 (show b∈L++[a] from hb) with hb|hb;exact nP.ne.ea b (by rw[Wy];exact hb);rw[List.mem_singleton] at hb;rw[hb];exact hEa',nP.ne.tb⟩⟩
     apply Bh ((ol E).length-(k+1))
     ·simp only[ZG,seval,Bool.false_and,Prod.mk.injEq,Aq,hI,hh,uR,aZ,q0,ea,Iw,xU,g1,fa,Uv _ _ _ _ nL,hw];rfl
     ·exact⟨k+1,S,{ w with E:=some (L++[a])},_,by and_intros<;>(simp only[E8,seval,hI]<;>rfl),.inr ⟨_,L++[a],rfl,rfl,by simp only[E8,seval]<;>omega,by simp only[E8,seval]<;>rfl⟩,Nn,Cn,hC,by show (L++[a]).length≤k+1;rw[List.length_append,List.length_cons,List.length_nil];omega,by omega,rfl⟩
   ·have c39':=c39 hG.sd hG.up hG.sp a V hV (by omega)
    have k39:∀(st:St) (d:Option Nat),fV st (.agg (aA (vS S X)))=some (.agg (aA (vS S (ov dO w.E))))→aN (aB Tryz.prog) 39 [.agg (aA (vS S X)),.agg (eH a)] st d=some { dst:=d,val:=.eE [.v (.bool (qY (vS S (ov dO w.E)) w a (ol V)).1),.v (.int .i64 (qY (vS S (ov dO w.E)) w a (ol V)).2)]}:=by
     intro st d hx;rw[nH,List.map_cons,List.map_cons,List.map_nil,hx,eB fa,bR,bR,gU];exact ZW c39' (by intro x hx;simp only[List.mem_cons,List.not_mem_nil,or_false] at hx;rcases hx with rfl|rfl<;>exact .v _) (.eE _ (bA (.v _) (.v _)))
    have Sn:GI (vS (Eb S w a (ol V)) (ov dO w.E)) { w with L:=some (pC (ol w.L) a.target.aI a.root (ol V)).1 } q:=hG.cast a (ol V)
    have Co:RG (vS (Eb S w a (ol V)) (ov dO w.E)) { w with L:=some (pC (ol w.L) a.target.aI a.root (ol V)).1 }:=⟨nP.now,nP.j,nP.f,nP.nd,nP.or,nP.rt,nP.fe,nP.ds,nP.tb,⟨nP.ne.q,nP.ne.e,nP.ne.o,nP.ne.t,nP.ne.ea,nP.ne.tb⟩⟩
    rcases hX with ⟨rfl,Wy⟩|⟨g,L,Wy,rfl,hg,hh⟩
    ·have e0:ov dO w.E=.v (.slice none 0 0):=by rw[Wy];rfl
     have k39n:=fun st d=>k39 st d (by rw[e0];rw[e0] at fl9;exact eB fl9)
     by_cases g2:(qY (vS S (ov dO w.E)) w a (ol V)).2=0
     case neg =>
      apply Bh ((ol E).length-(k+1))
      ·simp only[ZG,seval,Bool.false_and,Prod.mk.injEq,Aq,hI,aZ,q0,ea,Iw,xU,g1,k39n,dM,bf g2,hw];rfl
      ·exact⟨k+1,S,w,_,by and_intros<;>(simp only[E8,seval,hI]<;>rfl),.inl ⟨rfl,Wy⟩,hG,nP,hC,by omega,by omega,rfl⟩
     have hr:∀x∈ol V,0≤x∧x<(ol w.L).length:=by rw[hG.FQ];exact Wn (FX g2)
     obtain⟨G,Qp⟩:=aEp hG.sd (.v (.slice none 0 0)) a V hV (by omega) hr
     have kG:∀st,Cm Tryz.prog 44 [.agg (aA (vS S (.v (.slice none 0 0)))),.agg (eH a)] st=some (.agg (aA (vS (Eb S w a (ol V)) (.v (.slice none 0 0)))),G st):=fun st=>(Qp st).1
     have f1:∀st:St,0<st.aQ 1→(G st).heap 1 0=st.heap 1 0:=fun st h=>(Qp st).2.1 1 0 h
     have f2:∀st:St,0<st.aQ 2→(G st).heap 2 0=st.heap 2 0:=fun st h=>(Qp st).2.1 2 0 h
     have c1:∀st:St,0<st.aQ 1→(0<(G st).aQ 1)=True:=fun st h=>eq_true (Nat.lt_of_lt_of_le h ((Qp st).2.2 1))
     have c2:∀st:St,0<st.aQ 2→(0<(G st).aQ 2)=True:=fun st h=>eq_true (Nat.lt_of_lt_of_le h ((Qp st).2.2 2))
     apply Bh ((ol E).length-(k+1))
     ·simp only[ZG,seval,Bool.false_and,Prod.mk.injEq,Aq,hI,aZ,q0,ea,Iw,xU,g1,k39n,dM,bt g2,aLg,kG,f1,fC,dK,bU,hw];rfl
     ·exact⟨k+1,Eb S w a (ol V),{ w with L:=some (pC (ol w.L) a.target.aI a.root (ol V)).1 },_,⟨by simp only[E8,seval,hI,fC],by simp only[E8,seval,hI,dK,bU]<;>rfl,by simp only[E8,seval,hI,fC],by simp only[E8,seval,hI,dK,bU,f2],by simp only[E8,seval,hI,fC],by simp only[E8,seval,hI,fC],by simp only[E8,seval,hI,bU,c1],by simp only[E8,seval,hI,bU,c2]⟩,.inl ⟨rfl,Wy⟩,Sn,Co,hC,by show (ol w.E).length≤k+1;omega,by omega,rfl⟩
    ·have hLf:∀x∈L,Flat x.dX:=fun x hx=>(hG.sd.eV x (by rw[Wy];exact hx)).fl
     have k39o:∀(st:St) (d:Option Nat),st.heap 61 g=some (.row 87 67 L.length (dO L))→_:=fun st d h61=>k39 st d (by rw[Wy];exact Ww hG.sd hLf st h61)
     by_cases g2:(qY (vS S (ov dO w.E)) w a (ol V)).2=0
     case neg =>
      apply Bh ((ol E).length-(k+1))
      ·simp only[ZG,seval,Bool.false_and,Prod.mk.injEq,Aq,hI,hh,aZ,q0,ea,Iw,xU,g1,k39o,dM,bf g2,hw];rfl
      ·exact⟨k+1,S,w,_,by and_intros<;>(simp only[E8,seval,hI]<;>rfl),.inr ⟨g,L,Wy,rfl,by simp only[E8,seval]<;>omega,by simp only[E8,seval,hh]⟩,hG,nP,hC,by omega,by omega,rfl⟩
     have hr:∀x∈ol V,0≤x∧x<(ol w.L).length:=by rw[hG.FQ];exact Wn (FX g2)
     obtain⟨G,Qp⟩:=aEp hG.sd (.own 61 g) a V hV (by omega) hr
     have kG:∀st,Cm Tryz.prog 44 [.agg (aA (vS S (.own 61 g))),.agg (eH a)] st=some (.agg (aA (vS (Eb S w a (ol V)) (.own 61 g))),G st):=fun st=>(Qp st).1
     have f1:∀st:St,0<st.aQ 1→(G st).heap 1 0=st.heap 1 0:=fun st h=>(Qp st).2.1 1 0 h
     have f2:∀st:St,0<st.aQ 2→(G st).heap 2 0=st.heap 2 0:=fun st h=>(Qp st).2.1 2 0 h
     have f3:∀st:St,g<st.aQ 61→(G st).heap 61 g=st.heap 61 g:=fun st h=>(Qp st).2.1 61 g h
     have c1:∀st:St,0<st.aQ 1→(0<(G st).aQ 1)=True:=fun st h=>eq_true (Nat.lt_of_lt_of_le h ((Qp st).2.2 1))
     have c2:∀st:St,0<st.aQ 2→(0<(G st).aQ 2)=True:=fun st h=>eq_true (Nat.lt_of_lt_of_le h ((Qp st).2.2 2))
     have c3:∀st:St,g<st.aQ 61→(g<(G st).aQ 61)=True:=fun st h=>eq_true (Nat.lt_of_lt_of_le h ((Qp st).2.2 61))
     apply Bh ((ol E).length-(k+1))
     ·simp only[ZG,seval,Bool.false_and,Prod.mk.injEq,Aq,hI,hh,aZ,q0,ea,Iw,xU,g1,k39o,dM,bt g2,aLg,kG,f1,fC,dK,bU,hw];rfl
     ·exact⟨k+1,Eb S w a (ol V),{ w with L:=some (pC (ol w.L) a.target.aI a.root (ol V)).1 },_,⟨by simp only[E8,seval,hI,fC],by simp only[E8,seval,hI,dK,bU]<;>rfl,by simp only[E8,seval,hI,fC],by simp only[E8,seval,hI,dK,bU,f2],by simp only[E8,seval,hI,fC],by simp only[E8,seval,hI,fC],by simp only[E8,seval,hI,bU,c1],by simp only[E8,seval,hI,bU,c2]⟩,.inr ⟨g,L,Wy,rfl,by simp only[E8,seval,bU,hg,c3],by simp only[E8,seval,dK,bU,hg,hh,f3]⟩,Sn,Co,hC,by show (ol w.E).length≤k+1;omega,by omega,rfl⟩
 obtain⟨r,h,hq⟩:=key
 cases hx:vU Tryz.prog true Ix st with
 | none=>rw[hx] at h;cases h
 | some y=>rw[hx] at h;simp only[cN,Option.some.injEq] at h;subst h;exact⟨y.1,y.2,rfl,hq⟩
theorem aPZ {s:aM} {v:SV} {q:Int} (h:GI s v q) (r:RG s v):∃x,aB Tryz.prog 202 [.agg (aA s)]=some x∧StR s q x:=by
 have hz:=Ir
 have hf:=h.sd.flat
 have Ff:=h.sp
 rw[cG Tryz.func202 rfl aLi (by kernel_rfl) rfl]
 by_cases g1:1099511627776≤s.now
 ·simp only[ZG,seval,Bool.false_and,Prod.mk.injEq,Aq,g1];exact⟨_,by apply dC;rfl;all_goals simp only[aE,bK,Z8,seval,hz]<;>rfl,gC,3,rfl,hz,by decide,fun h=>by cases h⟩
 have hw:IntKind.u64.wrap (s.now+1)=s.now+1:=wrap_u64 _ (by have:=r.now.1;omega) (by have:=r.now.2;omega)
 obtain⟨s1,hs1⟩:∃s1:aM,s1={ s with now:=s.now+1,iK:=dT }:=⟨_,rfl⟩
 have h1:GI s1 v q:=by
  rw[hs1];exact⟨⟨h.sd.iA,h.sd.dR,h.sd.gT,h.sd.early,h.sd.bS,h.sd.tree,h.sd.tables,h.sd.eV,h.sd.tB,h.sd.nB,h.sd.nL,h.sd.nQ,h.sd.nE,h.sd.nO,h.sd.nT,h.sd.nn⟩,h.up,h.To,h.pos,h.nl,h.SQ,h.jK,h.FQ,h.nB,h.nO,h.LN,h.nE,h.RE,h.nT,h.SR,h.nQ,h.K0,h.dS⟩
 have r1:RG s1 v:=by
  rw[hs1];exact⟨⟨by show 0≤s.now+1;have:=r.now.1;omega,by show s.now+1≤_;omega⟩,r.j,r.f,fun n hn=>⟨(r.nd n hn).1,by show n.block.slot≤s.now+1;have:=(r.nd n hn).2;omega⟩,r.or,r.rt,⟨r.fe.1,Int.le_trans r.fe.2 (show mO s s.now≤mO s (s.now+1) from MG h.jK.1 r.now.1 (by omega) (by have:=r.now.2;omega))⟩,r.ds,r.tb,r.ne⟩
 have c1:s1.cFg=s.cFg:=by rw[hs1]
 have nE:=h.nE
 have RE:=h.RE
 subst hs1;have uE:∀(S:aM) (w:SV) (a b:fB),(Gw S w a b).E=w.E:=fun S w a b=>by unfold Gw;split;rfl;split<;>rfl
 by_cases g2:(s.now+1).tmod s.cFg.jK=0
 case neg =>
  simp only[ZG,seval,Bool.false_and,Prod.mk.injEq,Aq,g1,hw,Ff,bf g2,h.sd.early];refine Iy (a:=Ix) (aBF s.cFg q) (N8 (E:=v.E) h.sd.eV r.ne.ea (by omega) (by omega) (m:=(ol v.E).length) ⟨0,{ s with now:=s.now+1,iK:=dT },{ v with E:=none },.v (.slice none 0 0),⟨by simp only[E8,seval],by simp only[E8,seval]<;>rfl,by simp only[E8,seval],by simp only[E8,seval],by simp only[E8,seval],by simp only[E8,seval]<;>rfl,by simp only[E8,seval]<;>omega,by simp only[E8,seval]<;>omega⟩,.inl ⟨rfl,rfl⟩,h1.early none (by simp[ol]) (by show ((0:Nat):Int)≤_;rw[c1];omega),⟨r1.now,r1.j,r1.f,r1.nd,r1.or,r1.rt,r1.fe,r1.ds,r1.tb,⟨r1.ne.q,nofun,r1.ne.o,r1.ne.t,(fun a ha=>by cases ha),r1.ne.tb⟩⟩,c1,by simp[ol],by omega,by omega⟩) ?rest
  rintro e st ⟨rfl,S,w,X,hI,hX,hG,nP,hC⟩
  have AP:=hG.sd.flat
  rcases hX with ⟨rfl,Wy⟩|⟨g,L,Wy,rfl,hh⟩
  ·rw[Wy] at AP hG nP;have hf1:Flat (.agg (aA (vS S (.v (.slice none 0 0))))):=AP
   simp only[ZG,seval,Bool.false_and,Prod.mk.injEq,Aq,hI];exact⟨_,by apply dC;rfl;all_goals simp only[aE,bK,Z8,seval,hI,hf1]<;>rfl,_,0,rfl,hf1,by decide,fun _=>⟨w,hG,nP,hC⟩⟩
  ·have hLf:∀x∈L,Flat x.dX:=fun x hx=>(hG.sd.eV x (by rw[Wy];exact hx)).fl
   have hex:∀st:St,st.heap 61 g=some (.row 87 67 L.length (dO L))→fV st (.agg (aA (vS S (.own 61 g))))=some (.agg (aA (vS S (ov dO (some L))))):=fun st hh=>Ww hG.sd hLf st hh
   rw[Wy] at AP hG nP;simp only[ZG,seval,Bool.false_and,Prod.mk.injEq,Aq,hI];exact⟨_,by apply dC;rfl;all_goals simp only[aE,bK,Z8,seval,hI,hh,hex]<;>rfl,_,0,rfl,AP,by decide,fun _=>⟨w,hG,nP,hC⟩⟩
 have k67':=k67 h1.sd
 have pv:=aBE fun n hn=>(r1.nd n hn).1
 have k61':=k61 h1.sd h1.up h1.sp (Jk v.ns).pj (Jk v.ns).pf
 have h2:=h1.dP (Jk v.ns).pj (Jk v.ns).pf
 have r2:=RG.dP r1 pv.1 pv.2
 have c2:=vR { s with now:=s.now+1,iK:=dT } v (Jk v.ns).pj (Jk v.ns).pf
 have e2:=h2.sd.early
 rw[uE] at e2;obtain⟨S2,N6⟩:∃S2,wO { s with now:=s.now+1,iK:=dT } v (Jk v.ns).pj (Jk v.ns).pf=S2:=⟨_,rfl⟩
 rw[N6] at k61' h2 r2 c2 e2
 have c3:S2.cFg=s.cFg:=c2
 simp only[ZG,seval,Bool.false_and,Prod.mk.injEq,Aq,g1,hw,Ff,bt g2,k67',k61',e2];refine Iy (a:=Ix) (aBF s.cFg q) (N8 (E:=v.E) h.sd.eV r.ne.ea (by omega) (by omega) (m:=(ol v.E).length) ⟨0,S2,{ Gw { s with now:=s.now+1,iK:=dT } v (Jk v.ns).pj (Jk v.ns).pf with E:=none },.v (.slice none 0 0),⟨by simp only[E8,seval],by simp only[E8,seval]<;>rfl,by simp only[E8,seval],by simp only[E8,seval],by simp only[E8,seval],by simp only[E8,seval]<;>rfl,by simp only[E8,seval]<;>omega,by simp only[E8,seval]<;>omega⟩,.inl ⟨rfl,rfl⟩,h2.early none (by simp[ol]) (by show ((0:Nat):Int)≤_;rw[c3];omega),⟨r2.now,r2.j,r2.f,r2.nd,r2.or,r2.rt,r2.fe,r2.ds,r2.tb,⟨r2.ne.q,nofun,r2.ne.o,r2.ne.t,(fun a ha=>by cases ha),r2.ne.tb⟩⟩,c3,by simp[ol],by omega,by omega⟩) ?LP
 rintro e st ⟨rfl,S,w,X,hI,hX,hG,nP,hC⟩
 have AP:=hG.sd.flat
 rcases hX with ⟨rfl,Wy⟩|⟨g,L,Wy,rfl,hh⟩
 ·rw[Wy] at AP hG nP;have hf1:Flat (.agg (aA (vS S (.v (.slice none 0 0))))):=AP
  simp only[ZG,seval,Bool.false_and,Prod.mk.injEq,Aq,hI];exact⟨_,by apply dC;rfl;all_goals simp only[aE,bK,Z8,seval,hI,hf1]<;>rfl,_,0,rfl,hf1,by decide,fun _=>⟨w,hG,nP,hC⟩⟩
 ·have hLf:∀x∈L,Flat x.dX:=fun x hx=>(hG.sd.eV x (by rw[Wy];exact hx)).fl
  have hex:∀st:St,st.heap 61 g=some (.row 87 67 L.length (dO L))→fV st (.agg (aA (vS S (.own 61 g))))=some (.agg (aA (vS S (ov dO (some L))))):=fun st hh=>Ww hG.sd hLf st hh
  rw[Wy] at AP hG nP;simp only[ZG,seval,Bool.false_and,Prod.mk.injEq,Aq,hI];exact⟨_,by apply dC;rfl;all_goals simp only[aE,bK,Z8,seval,hI,hh,hex]<;>rfl,_,0,rfl,AP,by decide,fun _=>⟨w,hG,nP,hC⟩⟩
def Cp (t:State) (X Y:AV) (tag:Int):State:={ t with iR:=X,qN:=Y,cV:=tag }
theorem aLj:aF 0 3 (some 3)=[]∧aF 1 8 (some 8)=[]∧aF 2 8 (some 14)=[]∧aF 3 5 (some 21)=[]∧aF 4 2 (some 25)=[]:=⟨rfl,rfl,rfl,rfl,rfl⟩
theorem aEs (t:State) (Y:AV) (o:Option (List Request)) (tag:Int) (hn:((ol o).length:Int)<1000000) (r:bX) (n:Int) :
 ∃G:St→St,∀st,Cm Tryz.prog 86 [.agg (aP (Cp t (ov aD o) Y tag)),.agg (aY r),.v (.int .i64 n)] st=some (.agg (aP (Cp t (.own 19 (st.aQ 19)) Y (IntKind.u64.wrap (tag+1)))),G st)∧Gj st (G st)∧(G st).heap 19 (st.aQ 19)=some (.row 63 35 (ol o++[(⟨⟨tag⟩,r,n,0⟩:Request)]).length (aD (ol o++[(⟨⟨tag⟩,r,n,0⟩:Request)])))∧st.aQ 19<(G st).aQ 19:=by
 have one:∀st,∃st',Cm Tryz.prog 86 [.agg (aP (Cp t (ov aD o) Y tag)),.agg (aY r),.v (.int .i64 n)] st=some (.agg (aP (Cp t (.own 19 (st.aQ 19)) Y (IntKind.u64.wrap (tag+1)))),st')∧Gj st (st')∧(st').heap 19 (st.aQ 19)=some (.row 63 35 (ol o++[(⟨⟨tag⟩,r,n,0⟩:Request)]).length (aD (ol o++[(⟨⟨tag⟩,r,n,0⟩:Request)])))∧st.aQ 19<(st').aQ 19:=by
  intro st;by_cases hy:True
  case neg=>exact⟨st,absurd trivial hy⟩
  suffices h:∃st',Cm Tryz.prog 86 [.agg (aP (Cp t (ov aD o) Y tag)),.agg (aY r),.v (.int .i64 n)] st=some (.agg (aP (Cp t (.own 19 (st.aQ 19)) Y (IntKind.u64.wrap (tag+1)))),st')∧Gj st (st')∧(st').heap 19 (st.aQ 19)=some (.row 63 35 (ol o++[(⟨⟨tag⟩,r,n,0⟩:Request)]).length (aD (ol o++[(⟨⟨tag⟩,r,n,0⟩:Request)])))∧st.aQ 19<(st').aQ 19 by
   obtain⟨st',h⟩:=h
   exact⟨st',h⟩
  have e1:(Cp t (ov aD o) Y tag).iR=ov aD o:=rfl
  have e2:(Cp t (ov aD o) Y tag).cV=tag:=rfl
  have zR:cP.due=0:=rfl
  rw[GB Tryz.prog Tryz.func86 rfl (by kernel_rfl)]
  simp only[ZG,seval,Bool.false_and,Prod.mk.injEq,aLj,e1,e2,zR,qJ _ hn,sP _ _ _ _ hn];refine⟨_,Ws (P:=Tryz.prog) (fn:=Tryz.f86) (r:=.cell 6 58) (x:=.agg (aP (Cp t (.own 19 (st.aQ 19)) Y (IntKind.u64.wrap (tag+1))))) (.inl rfl) rfl ?h1,⟨fun x g hg=>?h2,fun x=>?h3⟩, ?h4, ?h5⟩
  case h1 =>
   rw[Ae];simp only[bK,Z8,seval];rfl
  case h2 =>
   have n3:(x=3∧g=st.aQ 3)=False:=eq_false (by rintro⟨rfl,rfl⟩;omega)
   have n4:(x=4∧g=st.aQ 4)=False:=eq_false (by rintro⟨rfl,rfl⟩;omega)
   have n6:(x=6∧g=st.aQ 6)=False:=eq_false (by rintro⟨rfl,rfl⟩;omega)
   have n7:(x=7∧g=st.aQ 7)=False:=eq_false (by rintro⟨rfl,rfl⟩;omega)
   have n16:(x=16∧g=st.aQ 16)=False:=eq_false (by rintro⟨rfl,rfl⟩;omega)
   have n18:(x=18∧g=st.aQ 18)=False:=eq_false (by rintro⟨rfl,rfl⟩;omega)
   have n19:(x=19∧g=st.aQ 19)=False:=eq_false (by rintro⟨rfl,rfl⟩;omega)
   simp only[E8,seval,dK,bU,n3,n4,n6,n7,n16,n18,n19,if_false]
  case h3 =>
   simp only[E8,seval,dK,bU];split<;>(try split)<;>(try split)<;>(try split)<;>(try split)<;>(try split)<;>(try split)<;>subst_vars<;>omega
  case h4=>simp only[E8,seval,dK,bU]
  case h5=>simp only[E8,seval,dK,bU]<;>omega
 exact⟨fun st=>Classical.choose (one st),fun st=>Classical.choose_spec (one st)⟩
theorem N9 (t:State) (Y:AV) (g0:Nat) (L:List Request) (tag:Int) (hn:((L).length:Int)<1000000) (r:bX) (n:Int) :
 ∃G:St→St,∀st,(st.heap 19 g0=some (.row 63 35 L.length (aD L))∧g0<st.aQ 19)→Cm Tryz.prog 86 [.agg (aP (Cp t (.own 19 g0) Y tag)),.agg (aY r),.v (.int .i64 n)] st=some (.agg (aP (Cp t (.own 19 (st.aQ 19)) Y (IntKind.u64.wrap (tag+1)))),G st)∧Gj st (G st)∧(G st).heap 19 (st.aQ 19)=some (.row 63 35 (L++[(⟨⟨tag⟩,r,n,0⟩:Request)]).length (aD (L++[(⟨⟨tag⟩,r,n,0⟩:Request)])))∧st.aQ 19<(G st).aQ 19:=by
 have one:∀st,∃st',(st.heap 19 g0=some (.row 63 35 L.length (aD L))∧g0<st.aQ 19)→Cm Tryz.prog 86 [.agg (aP (Cp t (.own 19 g0) Y tag)),.agg (aY r),.v (.int .i64 n)] st=some (.agg (aP (Cp t (.own 19 (st.aQ 19)) Y (IntKind.u64.wrap (tag+1)))),st')∧Gj st (st')∧(st').heap 19 (st.aQ 19)=some (.row 63 35 (L++[(⟨⟨tag⟩,r,n,0⟩:Request)]).length (aD (L++[(⟨⟨tag⟩,r,n,0⟩:Request)])))∧st.aQ 19<(st').aQ 19:=by
  intro st;by_cases hy:(st.heap 19 g0=some (.row 63 35 L.length (aD L))∧g0<st.aQ 19)
  case neg=>exact⟨st,fun h=>absurd h hy⟩
  suffices h:∃st',Cm Tryz.prog 86 [.agg (aP (Cp t (.own 19 g0) Y tag)),.agg (aY r),.v (.int .i64 n)] st=some (.agg (aP (Cp t (.own 19 (st.aQ 19)) Y (IntKind.u64.wrap (tag+1)))),st')∧Gj st (st')∧(st').heap 19 (st.aQ 19)=some (.row 63 35 (L++[(⟨⟨tag⟩,r,n,0⟩:Request)]).length (aD (L++[(⟨⟨tag⟩,r,n,0⟩:Request)])))∧st.aQ 19<(st').aQ 19 by
   obtain⟨st',h⟩:=h
   exact⟨st',fun _=>h⟩
  have e1:(Cp t (.own 19 g0) Y tag).iR=.own 19 g0:=rfl
  have e2:(Cp t (.own 19 g0) Y tag).cV=tag:=rfl
  have zR:cP.due=0:=rfl
  have uR:(g0=st.aQ 19)=False:=eq_false (by have:=hy.2;omega)
  rw[GB Tryz.prog Tryz.func86 rfl (by kernel_rfl)]
  simp only[ZG,seval,Bool.false_and,Prod.mk.injEq,aLj,e1,e2,zR,hy.1,uR,qJ _ hn,sP _ _ _ _ hn];refine⟨_,Ws (P:=Tryz.prog) (fn:=Tryz.f86) (r:=.cell 6 58) (x:=.agg (aP (Cp t (.own 19 (st.aQ 19)) Y (IntKind.u64.wrap (tag+1))))) (.inl rfl) rfl ?h1,⟨fun x g hg=>?h2,fun x=>?h3⟩, ?h4, ?h5⟩
  case h1 =>
   rw[Ae];simp only[bK,Z8,seval];rfl
  case h2 =>
   have n3:(x=3∧g=st.aQ 3)=False:=eq_false (by rintro⟨rfl,rfl⟩;omega)
   have n4:(x=4∧g=st.aQ 4)=False:=eq_false (by rintro⟨rfl,rfl⟩;omega)
   have n6:(x=6∧g=st.aQ 6)=False:=eq_false (by rintro⟨rfl,rfl⟩;omega)
   have n7:(x=7∧g=st.aQ 7)=False:=eq_false (by rintro⟨rfl,rfl⟩;omega)
   have n16:(x=16∧g=st.aQ 16)=False:=eq_false (by rintro⟨rfl,rfl⟩;omega)
   have n18:(x=18∧g=st.aQ 18)=False:=eq_false (by rintro⟨rfl,rfl⟩;omega)
   have n19:(x=19∧g=st.aQ 19)=False:=eq_false (by rintro⟨rfl,rfl⟩;omega)
   simp only[E8,seval,dK,bU,n3,n4,n6,n7,n16,n18,n19,if_false]
  case h3 =>
   simp only[E8,seval,dK,bU];split<;>(try split)<;>(try split)<;>(try split)<;>(try split)<;>(try split)<;>(try split)<;>subst_vars<;>omega
  case h4=>simp only[E8,seval,dK,bU]
  case h5=>simp only[E8,seval,dK,bU]<;>omega
 exact⟨fun st=>Classical.choose (one st),fun st=>Classical.choose_spec (one st)⟩
noncomputable def Lg (ns:List Node) (now:Int) (a:(Option (List Request) × Int) × List Request) (r:Request):(Option (List Request) × Int) × List Request :=
 if now<r.due then (a.1,a.2++[r]) else if zQ ns r.block then ((some (ol a.1.1++[⟨⟨a.1.2⟩,r.block,r.tries,0⟩]),IntKind.u64.wrap (a.1.2+1)),a.2) else a
noncomputable def yW (ns:List Node) (now:Int) (a:(Option (List Request) × Int) × List Request) (l:List Request):(Option (List Request) × Int) × List Request:=l.foldl (Lg ns now) a
theorem u5 (ns:List Node) (now:Int) (a:(Option (List Request) × Int) × List Request) (l:List Request) (k:Nat) (h:k<l.length):yW ns now a (l.take (k+1))=Lg ns now (yW ns now a (l.take k)) (gx cP l k):=by
 unfold yW;rw[List.take_succ_eq_append_getElem h,List.foldl_append];simp[gx,h]
theorem O0 (ns:List Node) (now:Int) (a:(Option (List Request) × Int) × List Request) (r:Request):(ol (Lg ns now a r).1.1).length≤(ol a.1.1).length+1∧(Lg ns now a r).2.length≤a.2.length+1:=by
 unfold Lg;split
 ·refine⟨by dsimp only;omega, ?_⟩
  dsimp only;rw[List.length_append,List.length_cons,List.length_nil];omega
 ·split
  ·refine⟨?_,by dsimp only;omega⟩
   show (ol a.1.1++[_]).length≤_;rw[List.length_append,List.length_cons,List.length_nil];omega
  ·omega
theorem MH (ns:List Node) (now:Int) (l:List Request):∀(a:(Option (List Request) × Int) × List Request),(ol (yW ns now a l).1.1).length≤(ol a.1.1).length+l.length∧(yW ns now a l).2.length≤a.2.length+l.length:=by
 induction l with
 | nil=>intro a;exact⟨Nat.le_refl _,Nat.le_refl _⟩
 | cons r l ih =>
   intro a;have h1:=ih (Lg ns now a r)
   have h2:=O0 ns now a r
   rw[List.length_cons];show (ol (yW ns now (Lg ns now a r) l).1.1).length≤_∧(yW ns now (Lg ns now a r) l).2.length≤_
   omega
theorem pF {st:St} (o:Option (List Request)):dA st (ov aD o)=some (ov aD o):=Wo (iS o)
theorem lQ {st:St} {a g:Nat} {L:List Request} (h:st.heap a g=some (.row 63 35 L.length (aD L))):dA st (.own a g)=some (ov aD (some L)):=by
 rw[bG,h];exact oV _ _
theorem XX {t:State} {v:SV} {Q R:Option (List Request)} (h:TD t v Q R) (st:St) {X Y X' Y':AV} (hx:dA st X=some X') (hy:dA st Y=some Y') (tag:Int):fV st (.agg (aP (Cp t X Y tag)))=some (.agg (aP (Cp t X' Y' tag))):=by
 have oD:=h.fl
 unfold Cp;simp only[bM,uV,gD,hx,hy,cY,eA,oD,cN]
theorem TD.rq {t:State} {v:SV} {Q R:Option (List Request)} (h:TD t v Q R) (q z:Option (List Request)) (tag:Int) (hq:((ol q).length:Int)<900000) (hz:((ol z).length:Int)<900000):TD (Cp t (ov aD q) (ov aD z) tag) v q z:=⟨h.sd,rfl,rfl,hq,hz⟩
theorem MI {t:State} {v:SV} {Q R:Option (List Request)} (h:TD t v Q R) (q z:Option (List Request)) (tag:Int) (hq:((ol q).length:Int)<900000) (hz:((ol z).length:Int)<900000) (r:bX) (st:St) (d:Option Nat) {X Y:AV} (hx:dA st X=some (ov aD q)) (hy:dA st Y=some (ov aD z)) :
 aN (aB Tryz.prog) 85 [.agg (aP (Cp t X Y tag)),.agg (aY r)] st d=some { dst:=d,val:=.v (.bool (decide (zQ v.ns r)))}:=by
 rw[nH,List.map_cons,List.map_cons,List.map_nil,XX h st hx hy,Qm,bR,bR,gU];exact TO (c85 (h.rq q z tag hq hz) r)
theorem aBH {call:Nat→List AV→Option AV} {inl:Nat→List AV→St→Option (AV × St)} {ops:Array Oper} {st:St} {T:Nat} {pos:String} {eU:Array Edge} (x:Array Operand) (y:Array Nat) :
 gL Tryz.prog true call inl ops ⟨some 50,.call ⟨.value (.func 86),x,y⟩,T,pos,eU,none⟩ st=cH (inl 86 (x.toList.map st.ev) st) fun r=>some ((st.back r.2).put (some 50) r.1):=TN 86 x y (Wx rfl)
noncomputable def GH (t:State) (ns:List Node) (Q R:Option (List Request)):(Option (List Request) × Int) × List Request:=yW ns t.store.now ((Q,t.cV),[]) (ol R)
noncomputable def aBI (t:State) (ns:List Node) (Q R:Option (List Request)):State:=Cp t (ov aD (GH t ns Q R).1.1) (ov aD (nz (GH t ns Q R).2)) (GH t ns Q R).1.2
theorem Bi (t:State) (X Y:AV) (tag:Int):(Cp t X Y tag).iR=X:=rfl
theorem Bj (t:State) (X Y:AV) (tag:Int):(Cp t X Y tag).qN=Y:=rfl
theorem Bk (t:State) (X Y:AV) (tag:Int):(Cp t X Y tag).cV=tag:=rfl
theorem Bl (t:State) (X Y:AV) (tag:Int):(Cp t X Y tag).store=t.store:=rfl
theorem c74 {t:State} {v:SV} {Q R:Option (List Request)} (h:TD t v Q R) (hn:((ol Q).length:Int)+(ol R).length<800000):aB Tryz.prog 74 [.agg (aP t)]=some (.agg (aP (aBI t v.ns Q R))):=by
 have oD:=h.fl
 have nR:=h.nR
 have hlen:∀k:Nat,(ol (yW v.ns t.store.now ((Q,t.cV),[]) ((ol R).take k)).1.1).length≤(ol Q).length+(ol R).length∧(yW v.ns t.store.now ((Q,t.cV),[]) ((ol R).take k)).2.length≤(ol R).length:=fun k=>by
  have h1:=MH v.ns t.store.now ((ol R).take k) ((Q,t.cV),[])
  have h2:=List.length_take_le' k (ol R)
  have e:(ol ((Q,t.cV),([]:List Request)).1.1).length=(ol Q).length:=rfl
  have e2:((Q,t.cV),([]:List Request)).2.length=0:=rfl
  rw[e,e2] at h1;omega
 rw[cG Tryz.func74 rfl aP3 (by kernel_rfl) rfl]
 refine jB ?_
 simp only[ZG,seval,Bool.false_and,Prod.mk.injEq,Jl,h.ret];refine kX (fun m st=>∃(k:Nat) (X Y:AV) (p:(Option (List Request) × Int) × List Request),(st.env 1=.ptr 1 0 0∧st.heap 1 0=some (.cells (aP (Cp t X Y p.1.2)))∧st.env 2=.ptr 2 0 0∧st.heap 2 0=some (.cells (aP lH))∧st.env 3=ov aD R∧st.env 4=.v (.int .i64 k)∧0<st.aQ 1∧0<st.aQ 2)∧(X=ov aD p.1.1∨∃g L,p.1.1=some L∧X=.own 19 g∧g<st.aQ 19∧st.heap 19 g=some (.row 63 35 L.length (aD L)))∧((Y=.v (.slice none 0 0)∧p.2=[])∨∃g,p.2≠[]∧Y=.own 30 g∧g<st.aQ 30∧st.heap 30 g=some (.row 63 35 p.2.length (aD p.2)))∧p=yW v.ns t.store.now ((Q,t.cV),[]) ((ol R).take k)∧k≤(ol R).length∧m=(ol R).length-k)
  (fun e st=>e=.exit 0∧∃(X Y:AV) (p:(Option (List Request) × Int) × List Request),(st.env 1=.ptr 1 0 0∧st.heap 1 0=some (.cells (aP (Cp t X Y p.1.2)))∧st.env 2=.ptr 2 0 0∧st.heap 2 0=some (.cells (aP lH)))∧(X=ov aD p.1.1∨∃g L,p.1.1=some L∧X=.own 19 g∧st.heap 19 g=some (.row 63 35 L.length (aD L)))∧((Y=.v (.slice none 0 0)∧p.2=[])∨∃g,p.2≠[]∧Y=.own 30 g∧st.heap 30 g=some (.row 63 35 p.2.length (aD p.2)))∧p=GH t v.ns Q R) (ol R).length ?step ?start ?rest
 case step =>
  rintro m st ⟨k,X,Y,p,hI,hX,hY,hp,hk,hm⟩
  by_cases aZ:(k:Int)<(ol R).length
  case neg =>
   have Ez:k=(ol R).length:=by omega
   rw[Ez,List.take_length] at hp;have hX':(X=ov aD p.1.1∨∃g L,p.1.1=some L∧X=.own 19 g∧st.heap 19 g=some (.row 63 35 L.length (aD L))):=hX.imp id fun ⟨g,L,a,b,_,c⟩=>⟨g,L,a,b,c⟩
   have hY':((Y=.v (.slice none 0 0)∧p.2=[])∨∃g,p.2≠[]∧Y=.own 30 g∧st.heap 30 g=some (.row 63 35 p.2.length (aD p.2))):=hY.imp id fun ⟨g,a,b,_,c⟩=>⟨g,a,b,c⟩
   apply FM (.exit 0)
   ·simp only[ZG,seval,Bool.false_and,Prod.mk.injEq,Jl,hI,aZ];rfl
   ·exact⟨rfl,X,Y,p,by simp only[E8,seval,hI],by simpa only[E8,seval] using hX',by simpa only[E8,seval] using hY',hp⟩
  have q0:(0:Int)≤k:=by omega
  have hw:IntKind.i64.wrap ((k:Int)+1)=((k+1:Nat):Int):=by rw[pV _ (by omega) (by omega)];omega
  have hs:=u5 v.ns t.store.now ((Q,t.cV),[]) (ol R) k (by omega)
  have hl:=hlen k
  have Py:=hlen (k+1)
  rw[← hp] at hs hl;obtain⟨r,er⟩:∃r,gx cP (ol R) (k:Int)=r:=⟨_,rfl⟩
  rw[er] at hs;unfold Lg at hs;have H0:((ol p.1.1).length:Int)<900000:=by omega
  have nZ9:(p.2.length:Int)<900000:=by omega
  have nZ:(p.2.length:Int)<1000000:=by omega
  by_cases g1:t.store.now<r.due
  ·rw[if_pos g1] at hs;rcases hY with ⟨rfl,hz⟩|⟨g,hz,rfl,hg,hh⟩
   ·apply Bh ((ol R).length-(k+1))
    ·simp only[ZG,seval,Bool.false_and,Prod.mk.injEq,Jl,hI,aZ,q0,er,Bi,Bj,Bk,Bl,g1,hw];rfl
    ·exact⟨k+1,X,_,(p.1,p.2++[r]),by and_intros<;>(simp only[E8,seval,hI]<;>rfl),by simpa only[E8,seval] using hX,.inr ⟨_,by simp,rfl,by simp only[E8,seval]<;>omega,by rw[hz];simp only[E8,seval]<;>rfl⟩,hs.symm,by omega,rfl⟩
   ·have uR:(g=st.aQ 30)=False:=eq_false (by omega)
    apply Bh ((ol R).length-(k+1))
    ·simp only[ZG,seval,Bool.false_and,Prod.mk.injEq,Jl,hI,aZ,q0,er,Bi,Bj,Bk,Bl,hh,uR,g1,hw,sP _ _ _ _ nZ];rfl
    ·exact⟨k+1,X,_,(p.1,p.2++[r]),by and_intros<;>(simp only[E8,seval,hI]<;>rfl),by simpa only[E8,seval] using hX,.inr ⟨_,by simp,rfl,by simp only[E8,seval]<;>omega,by simp only[E8,seval]<;>rfl⟩,hs.symm,by omega,rfl⟩
  rw[if_neg g1] at hs;by_cases g2:zQ v.ns r.block
  case neg =>
   rw[if_neg g2] at hs;rcases hX with rfl|⟨g,L,hL,rfl,hg,hh⟩
   ·rcases hY with ⟨rfl,hz⟩|⟨g9,hz,rfl,hg9,MJ⟩
    ·have Lh:∀(st:St) (d:Option Nat),aN (aB Tryz.prog) 85 [.agg (aP (Cp t (ov aD p.1.1) (.v (.slice none 0 0)) p.1.2)),.agg (aY r.block)] st d=some { dst:=d,val:=.v (.bool (decide (zQ v.ns r.block)))}:=fun st d=>MI h p.1.1 none p.1.2 H0 (by show ((0:Nat):Int)<_;omega) r.block st d (pF _) (show dA st (.v (.slice none 0 0))=some (ov aD none) from pF none)
     apply Bh ((ol R).length-(k+1))
     ·simp only[ZG,seval,Bool.false_and,Prod.mk.injEq,Jl,hI,aZ,q0,er,Bi,Bj,Bk,Bl,g1,Lh,g2,hw];rfl
     ·exact⟨k+1,_,_,p,by and_intros<;>(simp only[E8,seval,hI]<;>rfl),.inl rfl,.inl ⟨rfl,hz⟩,hs.symm,by omega,rfl⟩
    ·have Lh:∀(st:St) (d:Option Nat),st.heap 30 g9=some (.row 63 35 p.2.length (aD p.2))→aN (aB Tryz.prog) 85 [.agg (aP (Cp t (ov aD p.1.1) (.own 30 g9) p.1.2)),.agg (aY r.block)] st d=some { dst:=d,val:=.v (.bool (decide (zQ v.ns r.block)))}:=fun st d h2=>MI h p.1.1 (some p.2) p.1.2 H0 nZ9 r.block st d (pF _) (show dA st (.own 30 g9)=some (ov aD (some p.2)) from lQ h2)
     apply Bh ((ol R).length-(k+1))
     ·simp only[ZG,seval,Bool.false_and,Prod.mk.injEq,Jl,hI,aZ,q0,er,Bi,Bj,Bk,Bl,g1,Lh,MJ,g2,hw];rfl
     ·exact⟨k+1,_,_,p,by and_intros<;>(simp only[E8,seval,hI]<;>rfl),.inl rfl,.inr ⟨g9,hz,rfl,by simp only[E8,seval]<;>omega,by simp only[E8,seval,MJ]⟩,hs.symm,by omega,rfl⟩
   ·rcases hY with ⟨rfl,hz⟩|⟨g9,hz,rfl,hg9,MJ⟩
    ·have Lh:∀(st:St) (d:Option Nat),st.heap 19 g=some (.row 63 35 L.length (aD L))→aN (aB Tryz.prog) 85 [.agg (aP (Cp t (.own 19 g) (.v (.slice none 0 0)) p.1.2)),.agg (aY r.block)] st d=some { dst:=d,val:=.v (.bool (decide (zQ v.ns r.block)))}:=fun st d h1=>MI h p.1.1 none p.1.2 H0 (by show ((0:Nat):Int)<_;omega) r.block st d (by rw[hL];exact lQ h1) (show dA st (.v (.slice none 0 0))=some (ov aD none) from pF none)
     apply Bh ((ol R).length-(k+1))
     ·simp only[ZG,seval,Bool.false_and,Prod.mk.injEq,Jl,hI,aZ,q0,er,Bi,Bj,Bk,Bl,g1,Lh,hh,g2,hw];rfl
     ·exact⟨k+1,_,_,p,by and_intros<;>(simp only[E8,seval,hI]<;>rfl),.inr ⟨g,L,hL,rfl,by simp only[E8,seval]<;>omega,by simp only[E8,seval,hh]⟩,.inl ⟨rfl,hz⟩,hs.symm,by omega,rfl⟩
    ·have Lh:∀(st:St) (d:Option Nat),st.heap 19 g=some (.row 63 35 L.length (aD L))→st.heap 30 g9=some (.row 63 35 p.2.length (aD p.2))→aN (aB Tryz.prog) 85 [.agg (aP (Cp t (.own 19 g) (.own 30 g9) p.1.2)),.agg (aY r.block)] st d=some { dst:=d,val:=.v (.bool (decide (zQ v.ns r.block)))}:=fun st d h1 h2=>MI h p.1.1 (some p.2) p.1.2 H0 nZ9 r.block st d (by rw[hL];exact lQ h1) (show dA st (.own 30 g9)=some (ov aD (some p.2)) from lQ h2)
     apply Bh ((ol R).length-(k+1))
     ·simp only[ZG,seval,Bool.false_and,Prod.mk.injEq,Jl,hI,aZ,q0,er,Bi,Bj,Bk,Bl,g1,Lh,hh,MJ,g2,hw];rfl
     ·exact⟨k+1,_,_,p,by and_intros<;>(simp only[E8,seval,hI]<;>rfl),.inr ⟨g,L,hL,rfl,by simp only[E8,seval]<;>omega,by simp only[E8,seval,hh]⟩,.inr ⟨g9,hz,rfl,by simp only[E8,seval]<;>omega,by simp only[E8,seval,MJ]⟩,hs.symm,by omega,rfl⟩
  rw[if_pos g2] at hs;rcases hX with rfl|⟨g,L,hL,rfl,hg,hh⟩
  ·rcases hY with ⟨rfl,hz⟩|⟨g9,hz,rfl,hg9,MJ⟩
   ·have Lh:∀(st:St) (d:Option Nat),aN (aB Tryz.prog) 85 [.agg (aP (Cp t (ov aD p.1.1) (.v (.slice none 0 0)) p.1.2)),.agg (aY r.block)] st d=some { dst:=d,val:=.v (.bool (decide (zQ v.ns r.block)))}:=fun st d=>MI h p.1.1 none p.1.2 H0 (by show ((0:Nat):Int)<_;omega) r.block st d (pF _) (show dA st (.v (.slice none 0 0))=some (ov aD none) from pF none)
    obtain⟨G,hG⟩:=aEs t (.v (.slice none 0 0)) p.1.1 p.1.2 (by omega) r.block r.tries
    have kG:=fun st=>(hG st).1
    have f1:∀st:St,0<st.aQ 1→(G st).heap 1 0=st.heap 1 0:=fun st h=>(hG st).2.1.1 1 0 h
    have f2:∀st:St,0<st.aQ 2→(G st).heap 2 0=st.heap 2 0:=fun st h=>(hG st).2.1.1 2 0 h
    have c1:∀st:St,0<st.aQ 1→(0<(G st).aQ 1)=True:=fun st h=>eq_true (Nat.lt_of_lt_of_le h ((hG st).2.1.2 1))
    have c2:∀st:St,0<st.aQ 2→(0<(G st).aQ 2)=True:=fun st h=>eq_true (Nat.lt_of_lt_of_le h ((hG st).2.1.2 2))
    have fn:∀(st:St) (c:Nat),c=st.aQ 19→(G st).heap 19 c=_:=fun st c e=>e ▸ (hG st).2.2.1
    have cn:∀(st:St) (c:Nat),c=st.aQ 19→(c<(G st).aQ 19)=True:=fun st c e=>e ▸ eq_true (hG st).2.2.2
    apply Bh ((ol R).length-(k+1))
    ·simp only[ZG,seval,Bool.false_and,Prod.mk.injEq,Jl,hI,aZ,q0,er,Bi,Bj,Bk,Bl,g1,Lh,g2,aBH,kG,f1,fC,dK,bU,hw];rfl
    ·exact⟨k+1,_,_,((some (ol p.1.1++[(⟨⟨p.1.2⟩,r.block,r.tries,0⟩:Request)]),IntKind.u64.wrap (p.1.2+1)),p.2),⟨by simp only[E8,seval,hI,fC],by simp only[E8,seval,hI,dK,bU]<;>rfl,by simp only[E8,seval,hI,fC],by simp only[E8,seval,hI,dK,bU,f2],by simp only[E8,seval,hI,fC],by simp only[E8,seval,hI,fC],by simp only[E8,seval,hI,bU,c1],by simp only[E8,seval,hI,bU,c2]⟩,.inr ⟨_,(ol p.1.1++[(⟨⟨p.1.2⟩,r.block,r.tries,0⟩:Request)]),rfl,rfl,by simp only[E8,seval,bU,cn],by simp only[E8,seval,dK,bU,fn]⟩,.inl ⟨rfl,hz⟩,hs.symm,by omega,rfl⟩
   ·have Lh:∀(st:St) (d:Option Nat),st.heap 30 g9=some (.row 63 35 p.2.length (aD p.2))→aN (aB Tryz.prog) 85 [.agg (aP (Cp t (ov aD p.1.1) (.own 30 g9) p.1.2)),.agg (aY r.block)] st d=some { dst:=d,val:=.v (.bool (decide (zQ v.ns r.block)))}:=fun st d h2=>MI h p.1.1 (some p.2) p.1.2 H0 nZ9 r.block st d (pF _) (show dA st (.own 30 g9)=some (ov aD (some p.2)) from lQ h2)
    obtain⟨G,hG⟩:=aEs t (.own 30 g9) p.1.1 p.1.2 (by omega) r.block r.tries
    have kG:=fun st=>(hG st).1
    have f1:∀st:St,0<st.aQ 1→(G st).heap 1 0=st.heap 1 0:=fun st h=>(hG st).2.1.1 1 0 h
    have f2:∀st:St,0<st.aQ 2→(G st).heap 2 0=st.heap 2 0:=fun st h=>(hG st).2.1.1 2 0 h
    have c1:∀st:St,0<st.aQ 1→(0<(G st).aQ 1)=True:=fun st h=>eq_true (Nat.lt_of_lt_of_le h ((hG st).2.1.2 1))
    have c2:∀st:St,0<st.aQ 2→(0<(G st).aQ 2)=True:=fun st h=>eq_true (Nat.lt_of_lt_of_le h ((hG st).2.1.2 2))
    have fn:∀(st:St) (c:Nat),c=st.aQ 19→(G st).heap 19 c=_:=fun st c e=>e ▸ (hG st).2.2.1
    have cn:∀(st:St) (c:Nat),c=st.aQ 19→(c<(G st).aQ 19)=True:=fun st c e=>e ▸ eq_true (hG st).2.2.2
    have f3:∀st:St,g9<st.aQ 30→(G st).heap 30 g9=st.heap 30 g9:=fun st h=>(hG st).2.1.1 30 g9 h
    have c3:∀st:St,g9<st.aQ 30→(g9<(G st).aQ 30)=True:=fun st h=>eq_true (Nat.lt_of_lt_of_le h ((hG st).2.1.2 30))
    apply Bh ((ol R).length-(k+1))
    ·simp only[ZG,seval,Bool.false_and,Prod.mk.injEq,Jl,hI,aZ,q0,er,Bi,Bj,Bk,Bl,g1,Lh,MJ,g2,aBH,kG,f1,fC,dK,bU,hw];rfl
    ·exact⟨k+1,_,_,((some (ol p.1.1++[(⟨⟨p.1.2⟩,r.block,r.tries,0⟩:Request)]),IntKind.u64.wrap (p.1.2+1)),p.2),⟨by simp only[E8,seval,hI,fC],by simp only[E8,seval,hI,dK,bU]<;>rfl,by simp only[E8,seval,hI,fC],by simp only[E8,seval,hI,dK,bU,f2],by simp only[E8,seval,hI,fC],by simp only[E8,seval,hI,fC],by simp only[E8,seval,hI,bU,c1],by simp only[E8,seval,hI,bU,c2]⟩,.inr ⟨_,(ol p.1.1++[(⟨⟨p.1.2⟩,r.block,r.tries,0⟩:Request)]),rfl,rfl,by simp only[E8,seval,bU,cn],by simp only[E8,seval,dK,bU,fn]⟩,.inr ⟨g9,hz,rfl,by simp only[E8,seval,bU,hg9,c3],by simp only[E8,seval,dK,bU,hg9,MJ,f3]⟩,hs.symm,by omega,rfl⟩
  ·rcases hY with ⟨rfl,hz⟩|⟨g9,hz,rfl,hg9,MJ⟩
   ·have Lh:∀(st:St) (d:Option Nat),st.heap 19 g=some (.row 63 35 L.length (aD L))→aN (aB Tryz.prog) 85 [.agg (aP (Cp t (.own 19 g) (.v (.slice none 0 0)) p.1.2)),.agg (aY r.block)] st d=some { dst:=d,val:=.v (.bool (decide (zQ v.ns r.block)))}:=fun st d h1=>MI h p.1.1 none p.1.2 H0 (by show ((0:Nat):Int)<_;omega) r.block st d (by rw[hL];exact lQ h1) (show dA st (.v (.slice none 0 0))=some (ov aD none) from pF none)
    have nL:(L.length:Int)<1000000:=by rw[hL] at H0;have:(L.length:Int)<900000:=H0;omega
    obtain⟨G,hG⟩:=N9 t (.v (.slice none 0 0)) g L p.1.2 nL r.block r.tries
    have kG:∀st:St,st.heap 19 g=some (.row 63 35 L.length (aD L))→g<st.aQ 19→_:=fun st a b=>(hG st ⟨a,b⟩).1
    have f1:∀st:St,st.heap 19 g=some (.row 63 35 L.length (aD L))→g<st.aQ 19→0<st.aQ 1→(G st).heap 1 0=st.heap 1 0:=fun st a b h=>(hG st ⟨a,b⟩).2.1.1 1 0 h
    have f2:∀st:St,st.heap 19 g=some (.row 63 35 L.length (aD L))→g<st.aQ 19→0<st.aQ 2→(G st).heap 2 0=st.heap 2 0:=fun st a b h=>(hG st ⟨a,b⟩).2.1.1 2 0 h
    have c1:∀st:St,st.heap 19 g=some (.row 63 35 L.length (aD L))→g<st.aQ 19→0<st.aQ 1→(0<(G st).aQ 1)=True:=fun st a b h=>eq_true (Nat.lt_of_lt_of_le h ((hG st ⟨a,b⟩).2.1.2 1))
    have c2:∀st:St,st.heap 19 g=some (.row 63 35 L.length (aD L))→g<st.aQ 19→0<st.aQ 2→(0<(G st).aQ 2)=True:=fun st a b h=>eq_true (Nat.lt_of_lt_of_le h ((hG st ⟨a,b⟩).2.1.2 2))
    have fn:∀(st:St) (c:Nat),st.heap 19 g=some (.row 63 35 L.length (aD L))→g<st.aQ 19→c=st.aQ 19→(G st).heap 19 c=_:=fun st c a b e=>e ▸ (hG st ⟨a,b⟩).2.2.1
    have cn:∀(st:St) (c:Nat),st.heap 19 g=some (.row 63 35 L.length (aD L))→g<st.aQ 19→c=st.aQ 19→(c<(G st).aQ 19)=True:=fun st c a b e=>e ▸ eq_true (hG st ⟨a,b⟩).2.2.2
    have eL:ol p.1.1=L:=by rw[hL];rfl
    rw[eL] at hs;apply Bh ((ol R).length-(k+1))
    ·simp only[ZG,seval,Bool.false_and,Prod.mk.injEq,Jl,hI,aZ,q0,er,Bi,Bj,Bk,Bl,g1,Lh,hh,hg,g2,aBH,kG,f1,fC,dK,bU,hw];rfl
    ·exact⟨k+1,_,_,((some (L++[(⟨⟨p.1.2⟩,r.block,r.tries,0⟩:Request)]),IntKind.u64.wrap (p.1.2+1)),p.2),⟨by simp only[E8,seval,hI,fC],by simp only[E8,seval,hI,dK,bU]<;>rfl,by simp only[E8,seval,hI,fC],by simp only[E8,seval,hI,hh,hg,dK,bU,f2],by simp only[E8,seval,hI,fC],by simp only[E8,seval,hI,fC],by simp only[E8,seval,hI,hh,hg,bU,c1],by simp only[E8,seval,hI,hh,hg,bU,c2]⟩,.inr ⟨_,(L++[(⟨⟨p.1.2⟩,r.block,r.tries,0⟩:Request)]),rfl,rfl,by simp only[E8,seval,bU,hh,hg,cn],by simp only[E8,seval,dK,bU,hh,hg,fn]⟩,.inl ⟨rfl,hz⟩,hs.symm,by omega,rfl⟩
   ·have Lh:∀(st:St) (d:Option Nat),st.heap 19 g=some (.row 63 35 L.length (aD L))→st.heap 30 g9=some (.row 63 35 p.2.length (aD p.2))→aN (aB Tryz.prog) 85 [.agg (aP (Cp t (.own 19 g) (.own 30 g9) p.1.2)),.agg (aY r.block)] st d=some { dst:=d,val:=.v (.bool (decide (zQ v.ns r.block)))}:=fun st d h1 h2=>MI h p.1.1 (some p.2) p.1.2 H0 nZ9 r.block st d (by rw[hL];exact lQ h1) (show dA st (.own 30 g9)=some (ov aD (some p.2)) from lQ h2)
    have nL:(L.length:Int)<1000000:=by rw[hL] at H0;have:(L.length:Int)<900000:=H0;omega
    obtain⟨G,hG⟩:=N9 t (.own 30 g9) g L p.1.2 nL r.block r.tries
    have kG:∀st:St,st.heap 19 g=some (.row 63 35 L.length (aD L))→g<st.aQ 19→_:=fun st a b=>(hG st ⟨a,b⟩).1
    have f1:∀st:St,st.heap 19 g=some (.row 63 35 L.length (aD L))→g<st.aQ 19→0<st.aQ 1→(G st).heap 1 0=st.heap 1 0:=fun st a b h=>(hG st ⟨a,b⟩).2.1.1 1 0 h
    have f2:∀st:St,st.heap 19 g=some (.row 63 35 L.length (aD L))→g<st.aQ 19→0<st.aQ 2→(G st).heap 2 0=st.heap 2 0:=fun st a b h=>(hG st ⟨a,b⟩).2.1.1 2 0 h
    have c1:∀st:St,st.heap 19 g=some (.row 63 35 L.length (aD L))→g<st.aQ 19→0<st.aQ 1→(0<(G st).aQ 1)=True:=fun st a b h=>eq_true (Nat.lt_of_lt_of_le h ((hG st ⟨a,b⟩).2.1.2 1))
    have c2:∀st:St,st.heap 19 g=some (.row 63 35 L.length (aD L))→g<st.aQ 19→0<st.aQ 2→(0<(G st).aQ 2)=True:=fun st a b h=>eq_true (Nat.lt_of_lt_of_le h ((hG st ⟨a,b⟩).2.1.2 2))
    have fn:∀(st:St) (c:Nat),st.heap 19 g=some (.row 63 35 L.length (aD L))→g<st.aQ 19→c=st.aQ 19→(G st).heap 19 c=_:=fun st c a b e=>e ▸ (hG st ⟨a,b⟩).2.2.1
    have cn:∀(st:St) (c:Nat),st.heap 19 g=some (.row 63 35 L.length (aD L))→g<st.aQ 19→c=st.aQ 19→(c<(G st).aQ 19)=True:=fun st c a b e=>e ▸ eq_true (hG st ⟨a,b⟩).2.2.2
    have f3:∀st:St,st.heap 19 g=some (.row 63 35 L.length (aD L))→g<st.aQ 19→g9<st.aQ 30→(G st).heap 30 g9=st.heap 30 g9:=fun st a b h=>(hG st ⟨a,b⟩).2.1.1 30 g9 h
    have c3:∀st:St,st.heap 19 g=some (.row 63 35 L.length (aD L))→g<st.aQ 19→g9<st.aQ 30→(g9<(G st).aQ 30)=True:=fun st a b h=>eq_true (Nat.lt_of_lt_of_le h ((hG st ⟨a,b⟩).2.1.2 30))
    have eL:ol p.1.1=L:=by rw[hL];rfl
    rw[eL] at hs;apply Bh ((ol R).length-(k+1))
    ·simp only[ZG,seval,Bool.false_and,Prod.mk.injEq,Jl,hI,aZ,q0,er,Bi,Bj,Bk,Bl,g1,Lh,hh,MJ,hg,g2,aBH,kG,f1,fC,dK,bU,hw];rfl
    ·exact⟨k+1,_,_,((some (L++[(⟨⟨p.1.2⟩,r.block,r.tries,0⟩:Request)]),IntKind.u64.wrap (p.1.2+1)),p.2),⟨by simp only[E8,seval,hI,fC],by simp only[E8,seval,hI,dK,bU]<;>rfl,by simp only[E8,seval,hI,fC],by simp only[E8,seval,hI,hh,hg,dK,bU,f2],by simp only[E8,seval,hI,fC],by simp only[E8,seval,hI,fC],by simp only[E8,seval,hI,hh,hg,bU,c1],by simp only[E8,seval,hI,hh,hg,bU,c2]⟩,.inr ⟨_,(L++[(⟨⟨p.1.2⟩,r.block,r.tries,0⟩:Request)]),rfl,rfl,by simp only[E8,seval,bU,hh,hg,cn],by simp only[E8,seval,dK,bU,hh,hg,fn]⟩,.inr ⟨g9,hz,rfl,by simp only[E8,seval,bU,hg9,hh,hg,c3],by simp only[E8,seval,dK,bU,hg9,MJ,hh,hg,f3]⟩,hs.symm,by omega,rfl⟩
 case start=>exact⟨0,ov aD Q,.v (.slice none 0 0),((Q,t.cV),[]),⟨by simp only[E8,seval],by simp only[E8,seval,h.Gf]<;>rfl,by simp only[E8,seval],by simp only[E8,seval],by simp only[E8,seval],by simp only[E8,seval]<;>rfl,by simp only[E8,seval]<;>omega,by simp only[E8,seval]<;>omega⟩,.inl rfl,.inl ⟨rfl,rfl⟩,rfl,by omega,by omega⟩
 case rest =>
  rintro e st ⟨rfl,X,Y,p,hI,hX,hY,hp⟩
  have hv:aBI t v.ns Q R=Cp t (ov aD p.1.1) (ov aD (nz p.2)) p.1.2:=by unfold aBI;rw[← hp]
  have hex:∀st:St,∀X' Y',dA st X=some X'→dA st Y=some Y'→fV st (.agg (aP (Cp t X Y p.1.2)))=some (.agg (aP (Cp t X' Y' p.1.2))):=fun st X' Y' hx hy=>XX h st hx hy p.1.2
  rcases hX with rfl|⟨g,L,hL,rfl,hh⟩
  ·rcases hY with ⟨rfl,hz⟩|⟨g9,hz,rfl,MJ⟩
   ·rw[hz,show nz ([]:List Request)=none from if_pos rfl] at hv
    simp only[ZG,seval,Bool.false_and,Prod.mk.injEq,Jl,hI];exact⟨_,eG rfl (by simp only[E8,seval,hI]<;>rfl) (by simp only[ZG,seval,hI]<;>rfl) (hex _ _ _ (pF _) (pF none)),by rw[hv]⟩
   ·rw[show nz p.2=some p.2 from if_neg hz] at hv;simp only[ZG,seval,Bool.false_and,Prod.mk.injEq,Jl,hI,MJ];exact⟨_,eG rfl (by simp only[E8,seval,hI]<;>rfl) (by simp only[ZG,seval,hI]<;>rfl) (hex _ _ _ (pF _) (lQ (by simp only[E8,seval,MJ]<;>rfl))),by rw[hv]⟩
  ·rcases hY with ⟨rfl,hz⟩|⟨g9,hz,rfl,MJ⟩
   ·rw[hz,show nz ([]:List Request)=none from if_pos rfl,hL] at hv
    simp only[ZG,seval,Bool.false_and,Prod.mk.injEq,Jl,hI,hh];exact⟨_,eG rfl (by simp only[E8,seval,hI]<;>rfl) (by simp only[ZG,seval,hI]<;>rfl) (hex _ _ _ (lQ (by simp only[E8,seval,hh]<;>rfl)) (pF none)),by rw[hv]⟩
   ·rw[show nz p.2=some p.2 from if_neg hz,hL] at hv;simp only[ZG,seval,Bool.false_and,Prod.mk.injEq,Jl,hI,hh,MJ];exact⟨_,eG rfl (by simp only[E8,seval,hI]<;>rfl) (by simp only[ZG,seval,hI]<;>rfl) (hex _ _ _ (lQ (by simp only[E8,seval,hh]<;>rfl)) (lQ (by simp only[E8,seval,MJ]<;>rfl))),by rw[hv]⟩
theorem aFI (x:Int):IntKind.i64.wrap x≤9223372036854775807:=by
 rw[IntKind.wrap_i64];omega
def vW (a b:Request):Prop:=a.due<b.due∨(a.due=b.due∧a.tagged.tag<b.tagged.tag)
noncomputable def Bm:Nat→List Request→List Request
 | 0,l=>l
 | k+1,l=>if vW (gx cP l ((k+1:Nat):Int)) (gx cP l (k:Int)) then Bm k ((l.set (k+1) (gx cP l (k:Int))).set k (gx cP l ((k+1:Nat):Int))) else l
theorem MK:∀(k:Nat) (l:List Request),(Bm k l).length=l.length
 | 0,l=>rfl
 | k+1,l=>by
   unfold Bm;split
   ·rw[MK k,List.length_set,List.length_set]
   ·rfl
noncomputable def ML (t:State) (r:Request):Request:={ r with tries:=IntKind.i64.wrap (r.tries+1),due:=IntKind.u64.wrap (t.store.now+TL (IntKind.i64.wrap (r.tries+1)) t.store.cFg.lS.qQ)}
noncomputable def u6 (t:State) (ns:List Node) (R:List Request) (r:Request):State :=
 if ¬zQ ns r.block then t else if t.store.cFg.lS.nK≤(R.length:Int) then { t with overflow:=true } else { t with qN:=ov aD (some (Bm R.length (R++[ML t r])))}
theorem c72 {t:State} {v:SV} {Q R:Option (List Request)} (h:TD t v Q R) (r:Request):aB Tryz.prog 72 [.agg (aP t),.agg (cX r)]=some (.agg (aP (u6 t v.ns (ol R) r))):=by
 have hf:=h.flat
 have oD:=h.fl
 have nR:=h.nR
 have nR1:((ol R).length:Int)<1000000:=by omega
 have r9:=k85 h r.block
 have fr:Flat (.agg (cX r)):=.agg _ (jL r)
 rw[cL Tryz.func72 rfl aP4 rfl];refine jB ?_
 by_cases g1:zQ v.ns r.block
 case neg =>
  simp only[Z8,seval,r9,g1];exact⟨_,fI rfl (by simp only[E8,seval,hf]<;>rfl) (by simp only[Z8,seval,hf]<;>rfl) (by simp only[eA,and_self,hf]),by rw[u6,if_pos g1]⟩
 by_cases g2:t.store.cFg.lS.nK≤((ol R).length:Int)
 ·have hf2:Flat (.agg (aP { t with overflow:=true })):=(tE _).2 oD
  simp only[Z8,seval,r9,g1,h.ret,g2];exact⟨_,fI rfl (by simp only[E8,seval,oD]<;>rfl) (by simp only[Z8,seval,oD]<;>rfl) (by simp only[eA,and_self,oD]),by rw[u6,if_neg (fun hh=>hh g1),if_pos g2,← h.ret]⟩
 have hv:u6 t v.ns (ol R) r=_:=(if_neg (fun hh=>hh g1)).trans (if_neg g2)
 rw[hv];have k143':=aPN (IntKind.i64.wrap (r.tries+1)) t.store.cFg.lS.qQ (aFI _)
 obtain⟨L0,O1⟩:∃L0,ol R++[ML t r]=L0:=⟨_,rfl⟩
 have hlL:L0.length=(ol R).length+1:=by rw[← O1,List.length_append,List.length_cons,List.length_nil]
 have hL0':ol R++[({ tagged:=r.tagged,block:=r.block,tries:=IntKind.i64.wrap (r.tries+1),due:=IntKind.u64.wrap (t.store.now+TL (IntKind.i64.wrap (r.tries+1)) t.store.cFg.lS.qQ)}:Request)]=L0:=O1
 rw[O1];have w1:IntKind.i64.wrap ((L0.length:Int)-1)=((ol R).length:Int):=by rw[pV _ (by omega) (by omega)];omega
 simp only[Z8,seval,r9,g1,h.ret,g2,k143',iF,iG,qJ _ nR1,sP _ _ _ _ nR1,hL0',w1];refine cJ (fun m st=>∃(k:Nat) (l:List Request),(st.env 2=.ptr 2 0 0∧st.heap 2 0=some (.cells (aP t))∧st.env 4=.ptr 4 0 0∧st.heap 4 0=some (.cells (aP lH))∧st.env 5=.own 46 0∧st.heap 46 0=some (.row 63 35 l.length (aD l))∧st.env 6=.v (.int .i64 k))∧Bm k l=Bm (ol R).length L0∧l.length=L0.length∧k≤(ol R).length∧m=k)
  (fun e st=>e=.exit 0∧∃(l:List Request),(st.env 2=.ptr 2 0 0∧st.heap 2 0=some (.cells (aP t))∧st.env 4=.ptr 4 0 0∧st.heap 4 0=some (.cells (aP lH))∧st.env 5=.own 46 0∧st.heap 46 0=some (.row 63 35 l.length (aD l)))∧l=Bm (ol R).length L0) (ol R).length ?step ?start ?rest
 case step =>
  rintro m st ⟨k,l,hI,hb,hl,hk,hm⟩
  cases k with
  | zero =>
    have z0:¬((0:Int)<((0:Nat):Int)):=by omega
    have hI':=hI
    apply oT (.exit 0)
    ·simp only[Z8,seval,hI,Int.lt_irrefl,iF,iG];rfl
    ·exact⟨rfl,l,by simp only[E8,seval,hI],by rw[← hb];rfl⟩
  | succ j =>
    obtain⟨i,hi⟩:∃i:Int,i=((j+1:Nat):Int):=⟨_,rfl⟩
    obtain⟨i',Aa⟩:∃i':Int,i'=(j:Int):=⟨_,rfl⟩
    rw[← hi] at hI;have p0:(0:Int)<i:=by omega
    have p1:(0:Int)≤i:=by omega
    have p2:i<(l.length:Int):=by omega
    have q1:(0:Int)≤i':=by omega
    have q2:i'<(l.length:Int):=by omega
    have hw:IntKind.i64.wrap (i-1)=i':=by rw[pV _ (by omega) (by omega)];omega
    have ti:i.toNat=j+1:=by omega
    have ti':i'.toNat=j:=by omega
    obtain⟨a,ea⟩:∃a,gx cP l i=a:=⟨_,rfl⟩
    obtain⟨b,eb⟩:∃b,gx cP l i'=b:=⟨_,rfl⟩
    have d1:=Eg (T:=23) (n:=l.length) (k:=1) (off:=34) p1 p2 SP (by decide) (by decide)
    have d2:=Eg (T:=23) (n:=l.length) (k:=1) (off:=34) q1 q2 SP (by decide) (by decide)
    have d3:=yX (T:=23) (n:=l.length) (k:=1) p1 p2 SP (by decide) (by decide)
    have d4:=yX (T:=23) (n:=l.length) (k:=1) q1 q2 SP (by decide) (by decide)
    have d5:=yX (T:=63) (n:=l.length) (k:=35) p1 p2 aFJ (by decide) (by decide)
    have d6:=yX (T:=63) (n:=l.length) (k:=35) q1 q2 aFJ (by decide) (by decide)
    rw[ea] at d1 d3 d5;rw[eb] at d2 d4 d6;have aBJ:∀P:Prop,(vW a b↔P)→Bm (j+1) l=if P then Bm j ((l.set (j+1) b).set j a) else l:=fun P hP=>by
     have e1:gx cP l ((j+1:Nat):Int)=a:=by rw[← hi];exact ea
     have e2:gx cP l (j:Int)=b:=by rw[← Aa];exact eb
     have e0:Bm (j+1) l=if vW (gx cP l ((j+1:Nat):Int)) (gx cP l (j:Int)) then Bm j ((l.set (j+1) (gx cP l (j:Int))).set j (gx cP l ((j+1:Nat):Int))) else l:=rfl
     rw[e0,e1,e2];by_cases hh:vW a b
     ·rw[if_pos hh,if_pos (hP.1 hh)]
     ·rw[if_neg hh,if_neg (fun x=>hh (hP.2 x))]
    have x3:i.toNat * 35+35≤l.length * 35:=by omega
    have x4:i'.toNat * 35+35≤(l.set i.toNat b).length * 35:=by rw[List.length_set];omega
    have x4':i'.toNat * 35+35≤l.length * 35:=by omega
    have u1:=Li l i b (by omega)
    have u2:=Li (l.set i.toNat b) i' a (by rw[List.length_set];omega)
    have swp:(l.set i.toNat b).set i'.toNat a=(l.set (j+1) b).set j a:=by rw[ti,ti']
    by_cases g3:a.due<b.due
    ·have nA:=aBJ True (iff_of_true (.inl g3) trivial)
     rw[if_pos trivial] at nA
     apply oN (j)
     ·simp only[Z8,seval,hI,p0,p1,p2,q1,q2,hw,d1,d2,d3,d4,d5,d6,g3,x3,x4,x4',u1,u2,List.length_set,iF,iG];rfl
     ·exact⟨j,(l.set i.toNat b).set i'.toNat a,⟨by simp only[E8,seval,hI],by simp only[E8,seval,hI],by simp only[E8,seval,hI],by simp only[E8,seval,hI],by simp only[E8,seval,hI],by rw[List.length_set,List.length_set];simp only[E8,seval,List.length_set]<;>rfl,by simp only[E8,seval,Aa]⟩,by rw[swp,← nA];exact hb,by rw[List.length_set,List.length_set];exact hl,by omega,rfl⟩
    by_cases g4:a.due=b.due
    case neg =>
     have nA:=aBJ False (iff_of_false (fun x=>x.elim g3 fun y=>g4 y.1) id)
     rw[if_neg id] at nA
     apply oT (.exit 0)
     ·simp only[Z8,seval,hI,p0,p1,p2,q1,q2,hw,d1,d2,d3,d4,d5,d6,g3,bf g4,iF,iG];rfl
     ·exact⟨rfl,l,by simp only[E8,seval,hI],by rw[← hb,nA]⟩
    by_cases g5:a.tagged.tag<b.tagged.tag
    ·have nA:=aBJ True (iff_of_true (.inr ⟨g4,g5⟩) trivial)
     rw[if_pos trivial] at nA
     apply oN (j)
     ·simp only[Z8,seval,hI,p0,p1,p2,q1,q2,hw,d1,d2,d3,d4,d5,d6,g3,bt g4,g5,x3,x4,x4',u1,u2,List.length_set,iF,iG];rfl
     ·exact⟨j,(l.set i.toNat b).set i'.toNat a,⟨by simp only[E8,seval,hI],by simp only[E8,seval,hI],by simp only[E8,seval,hI],by simp only[E8,seval,hI],by simp only[E8,seval,hI],by rw[List.length_set,List.length_set];simp only[E8,seval,List.length_set]<;>rfl,by simp only[E8,seval,Aa]⟩,by rw[swp,← nA];exact hb,by rw[List.length_set,List.length_set];exact hl,by omega,rfl⟩
    ·have nA:=aBJ False (iff_of_false (fun x=>x.elim g3 fun y=>g5 y.2) id)
     rw[if_neg id] at nA
     apply oT (.exit 0)
     ·simp only[Z8,seval,hI,p0,p1,p2,q1,q2,hw,d1,d2,d3,d4,d5,d6,g3,bt g4,g5,iF,iG];rfl
     ·exact⟨rfl,l,by simp only[E8,seval,hI],by rw[← hb,nA]⟩
 case start=>exact⟨(ol R).length,L0,by simp only[E8,seval]<;>rfl,rfl,rfl,by omega,rfl⟩
 case rest =>
  rintro e st ⟨rfl,l,hI,hl⟩
  have hex:=oV l.length l
  subst hl;simp only[Z8,seval,hI];exact⟨_,by apply eG;rfl;all_goals simp only[aE,Z8,seval,hI,hex,oD,bM,uV,gD,bG,cY,oV,eA]<;>rfl,rfl⟩
theorem aP5 {t:State} {v:SV} {Q R:Option (List Request)} {q:Int} (hT:TD t v Q R) (h:GI t.store v q) (r:RG t.store v) (hB:0<(ol v.B).length∧(ol v.B).length≤64) (hq:∀r∈ol Q,Rg r.tagged.tag) (n k:Int) (hk:0≤k) :
 ∃x,aB Tryz.prog 146 [.agg (aP t),.v (.int .i64 n),.v (.int .i64 k)]=some x∧∃y:wH,x=.agg (kI y)∧oU y∧(y.kind=2→y.block.root=mkRoot n∨∃m∈v.ns,y.block.root=m.block.root):=by
 have z:=zOk
 have hm:=Ac hk (min 4 IntKind.i64.bits)
 have hf:=hT.flat
 have XA:=h.sd.flat
 obtain⟨x1,e1,b,rfl,rb⟩:=x50 h r n (k.fdiv (2 ^ min 4 IntKind.i64.bits)) hm
 obtain⟨x2,e2,a,V,rfl,hV,nV,ra1,ra2⟩:=x37 h r hB (k.fdiv (2 ^ min 4 IntKind.i64.bits)) hm
 obtain⟨x3,e3,sl,rfl,c1,c2,s1,s2,s3,s4⟩:=aPB (ol v.B).length (k.fdiv (2 ^ min 4 IntKind.i64.bits)) (by omega) (by omega)
 obtain⟨x4,e4,tb,bl,rfl,hb,nb,rbl,rt⟩:=aPC h r hB (k.fdiv (2 ^ min 4 IntKind.i64.bits)) hm
 obtain⟨x5,e5,w,rfl,rw5⟩:=x25 hT h hq (k.fdiv (2 ^ min 4 IntKind.i64.bits)) hm
 have fA:Flat a.dX:=by rw[hV];exact bE _
 have fT:Flat tb.iA:=by rw[hb];exact dU _
 have k50:=kx e1 (mW XA (.v _) (.v _)) (tV b)
 have u7:=kx e2 (bA XA (.v _)) ((qE a).2 fA)
 have k182:=kx e3 (bA (.v _) (.v _)) ((mJ sl).2 ⟨(yL _).1 c1.fl,(yL _).1 c2.fl⟩)
 have k183:=kx e4 (bA XA (.v _)) ((jX tb).2 fT)
 have k25:=kx e5 (bA hf (.v _)) (.agg _ (jM w))
 have y1:oU { yU with kind:=1 }:=⟨z.Ft,z.c1,z.c2,z.TG,z.rb,z.ra,z.rs,z.rt,z.rv⟩
 have y2:oU { yU with kind:=2,block:=b }:=⟨z.Ft,z.c1,z.c2,z.TG,rb.toRB,z.ra,z.rs,z.rt,z.rv⟩
 have y3:oU { yU with kind:=3,Ft:=a }:=⟨⟨some V,hV,nV⟩,z.c1,z.c2,z.TG,z.rb,⟨ra1,ra2⟩,z.rs,z.rt,z.rv⟩
 have y4:oU { yU with kind:=4,oG:=sl }:=⟨z.Ft,c1,c2,z.TG,z.rb,z.ra,⟨s1,s2,s3,s4⟩,z.rt,z.rv⟩
 have y5:oU { yU with kind:=5,table:=tb }:=⟨z.Ft,z.c1,z.c2,⟨some bl,hb,nb,rbl⟩,z.rb,z.ra,z.rs,rt,z.rv⟩
 have y6:oU { yU with kind:=6,verdict:=w }:=⟨z.Ft,z.c1,z.c2,z.TG,z.rb,z.ra,z.rs,z.rt,rw5⟩
 rw[cL Tryz.func146 rfl aLl rfl];by_cases c0:((k).tmod 16)=0
 ·simp only[Z8,seval,bt c0];exact⟨_,fI rfl (by simp only[E8,seval]<;>rfl) (by simp only[Z8,seval]<;>rfl) y1.flat,_,rfl,y1,fun h=>absurd (show (1:Int)=2 from h) (by decide)⟩
 by_cases c1:((k).tmod 16)=1
 ·simp only[Z8,seval,bf c0,bt c1];exact⟨_,fI rfl (by simp only[E8,seval]<;>rfl) (by simp only[Z8,seval]<;>rfl) y1.flat,_,rfl,y1,fun h=>absurd (show (1:Int)=2 from h) (by decide)⟩
 by_cases c2:((k).tmod 16)=2
 ·simp only[Z8,seval,bf c0,bf c1,bt c2];exact⟨_,fI rfl (by simp only[E8,seval]<;>rfl) (by simp only[Z8,seval]<;>rfl) y1.flat,_,rfl,y1,fun h=>absurd (show (1:Int)=2 from h) (by decide)⟩
 by_cases c3:((k).tmod 16)=3
 ·simp only[Z8,seval,bf c0,bf c1,bf c2,bt c3,k50];exact⟨_,fI rfl (by simp only[E8,seval]<;>rfl) (by simp only[Z8,seval]<;>rfl) y2.flat,_,rfl,y2,fun _=>rb.rt⟩
 by_cases c4:((k).tmod 16)=4
 ·simp only[Z8,seval,bf c0,bf c1,bf c2,bf c3,bt c4,k50];exact⟨_,fI rfl (by simp only[E8,seval]<;>rfl) (by simp only[Z8,seval]<;>rfl) y2.flat,_,rfl,y2,fun _=>rb.rt⟩
 by_cases c5:((k).tmod 16)=5
 ·simp only[Z8,seval,bf c0,bf c1,bf c2,bf c3,bf c4,bt c5,k50];exact⟨_,fI rfl (by simp only[E8,seval]<;>rfl) (by simp only[Z8,seval]<;>rfl) y2.flat,_,rfl,y2,fun _=>rb.rt⟩
 by_cases c6:((k).tmod 16)=6
 ·simp only[Z8,seval,bf c0,bf c1,bf c2,bf c3,bf c4,bf c5,bt c6,k50];exact⟨_,fI rfl (by simp only[E8,seval]<;>rfl) (by simp only[Z8,seval]<;>rfl) y2.flat,_,rfl,y2,fun _=>rb.rt⟩
 by_cases c7:((k).tmod 16)=7
 ·simp only[Z8,seval,bf c0,bf c1,bf c2,bf c3,bf c4,bf c5,bf c6,bt c7,k50];exact⟨_,fI rfl (by simp only[E8,seval]<;>rfl) (by simp only[Z8,seval]<;>rfl) y2.flat,_,rfl,y2,fun _=>rb.rt⟩
 by_cases c8:((k).tmod 16)=8
 ·simp only[Z8,seval,bf c0,bf c1,bf c2,bf c3,bf c4,bf c5,bf c6,bf c7,bt c8,u7];exact⟨_,fI rfl (by simp only[E8,seval]<;>rfl) (by simp only[Z8,seval]<;>rfl) y3.flat,_,rfl,y3,fun h=>absurd (show (3:Int)=2 from h) (by decide)⟩
 by_cases c9:((k).tmod 16)=9
 ·simp only[Z8,seval,bf c0,bf c1,bf c2,bf c3,bf c4,bf c5,bf c6,bf c7,bf c8,bt c9,u7];exact⟨_,fI rfl (by simp only[E8,seval]<;>rfl) (by simp only[Z8,seval]<;>rfl) y3.flat,_,rfl,y3,fun h=>absurd (show (3:Int)=2 from h) (by decide)⟩
 by_cases c10:((k).tmod 16)=10
 ·simp only[Z8,seval,bf c0,bf c1,bf c2,bf c3,bf c4,bf c5,bf c6,bf c7,bf c8,bf c9,bt c10,u7];exact⟨_,fI rfl (by simp only[E8,seval]<;>rfl) (by simp only[Z8,seval]<;>rfl) y3.flat,_,rfl,y3,fun h=>absurd (show (3:Int)=2 from h) (by decide)⟩
 by_cases c11:((k).tmod 16)=11
 ·simp only[Z8,seval,bf c0,bf c1,bf c2,bf c3,bf c4,bf c5,bf c6,bf c7,bf c8,bf c9,bf c10,bt c11,h.sd.iA,k182];exact⟨_,fI rfl (by simp only[E8,seval]<;>rfl) (by simp only[Z8,seval]<;>rfl) y4.flat,_,rfl,y4,fun h=>absurd (show (4:Int)=2 from h) (by decide)⟩
 by_cases c12:((k).tmod 16)=12
 ·simp only[Z8,seval,bf c0,bf c1,bf c2,bf c3,bf c4,bf c5,bf c6,bf c7,bf c8,bf c9,bf c10,bf c11,bt c12,k183];exact⟨_,fI rfl (by simp only[E8,seval]<;>rfl) (by simp only[Z8,seval]<;>rfl) y5.flat,_,rfl,y5,fun h=>absurd (show (5:Int)=2 from h) (by decide)⟩
 simp only[Z8,seval,bf c0,bf c1,bf c2,bf c3,bf c4,bf c5,bf c6,bf c7,bf c8,bf c9,bf c10,bf c11,bf c12,k25];exact⟨_,fI rfl (by simp only[E8,seval]<;>rfl) (by simp only[Z8,seval]<;>rfl) y6.flat,_,rfl,y6,fun h=>absurd (show (6:Int)=2 from h) (by decide)⟩
theorem aLm (l:List Int) (hl:(l.length:Int)≤9223372036854775807):∃x,aB Tryz.prog 101 [.sl l.length (aH l)]=some x∧∃(c:Config) (b:List Int),x=.agg (bQ c)∧Fe c b:=by
 have k0:=Mq l hl 0 (by omega) (by omega)
 obtain⟨a0,b0⟩:=eC (n:=8) (Mp l hl 0 (by omega) (by omega)).2.1 (by omega)
 obtain⟨x0,h0⟩:∃x,(FD l 0).tmod 8=x:=⟨_,rfl⟩
 rw[h0] at a0 b0;have k1:=Mq l hl 1 (by omega) (by omega)
 obtain⟨a1,b1⟩:=eC (n:=4) (Mp l hl 1 (by omega) (by omega)).2.1 (by omega)
 obtain⟨x1,h1⟩:∃x,(FD l 1).tmod 4=x:=⟨_,rfl⟩
 rw[h1] at a1 b1;have k2:=Mq l hl 2 (by omega) (by omega)
 obtain⟨a2,b2⟩:=eC (n:=4) (Mp l hl 2 (by omega) (by omega)).2.1 (by omega)
 obtain⟨x2,h2⟩:∃x,(FD l 2).tmod 4=x:=⟨_,rfl⟩
 rw[h2] at a2 b2;have k3:=Mq l hl 3 (by omega) (by omega)
 obtain⟨a3,b3⟩:=eC (n:=4) (Mp l hl 3 (by omega) (by omega)).2.1 (by omega)
 obtain⟨x3,h3⟩:∃x,(FD l 3).tmod 4=x:=⟨_,rfl⟩
 rw[h3] at a3 b3;have k4:=Mq l hl 4 (by omega) (by omega)
 obtain⟨a4,b4⟩:=eC (n:=4) (Mp l hl 4 (by omega) (by omega)).2.1 (by omega)
 obtain⟨x4,h4⟩:∃x,(FD l 4).tmod 4=x:=⟨_,rfl⟩
 rw[h4] at a4 b4;have k5:=Mq l hl 5 (by omega) (by omega)
 obtain⟨a5,b5⟩:=eC (n:=5) (Mp l hl 5 (by omega) (by omega)).2.1 (by omega)
 obtain⟨x5,h5⟩:∃x,(FD l 5).tmod 5=x:=⟨_,rfl⟩
 rw[h5] at a5 b5;have k6:=Mq l hl 6 (by omega) (by omega)
 obtain⟨a6,b6⟩:=eC (n:=4) (Mp l hl 6 (by omega) (by omega)).2.1 (by omega)
 obtain⟨x6,h6⟩:∃x,(FD l 6).tmod 4=x:=⟨_,rfl⟩
 rw[h6] at a6 b6;have k7:=Mq l hl 7 (by omega) (by omega)
 obtain⟨a7,b7⟩:=eC (n:=3) (Mp l hl 7 (by omega) (by omega)).2.1 (by omega)
 obtain⟨x7,h7⟩:∃x,(FD l 7).tmod 3=x:=⟨_,rfl⟩
 rw[h7] at a7 b7;have k8:=Mq l hl 8 (by omega) (by omega)
 obtain⟨a8,b8⟩:=eC (n:=2) (Mp l hl 8 (by omega) (by omega)).2.1 (by omega)
 obtain⟨x8,h8⟩:∃x,(FD l 8).tmod 2=x:=⟨_,rfl⟩
 rw[h8] at a8 b8;have k9:=Mq l hl 9 (by omega) (by omega)
 obtain⟨a9,b9⟩:=eC (n:=5) (Mp l hl 9 (by omega) (by omega)).2.1 (by omega)
 obtain⟨x9,h9⟩:∃x,(FD l 9).tmod 5=x:=⟨_,rfl⟩
 rw[h9] at a9 b9;have w0:IntKind.i64.wrap (6+x0)=6+x0:=pV _ (by omega) (by omega)
 have w3:IntKind.i64.wrap (1+x3)=1+x3:=pV _ (by omega) (by omega)
 have w5:IntKind.i64.wrap (1+x5)=1+x5:=pV _ (by omega) (by omega)
 have w5':IntKind.u64.wrap (1+x5)=1+x5:=wrap_u64 _ (by omega) (by omega)
 have w6:IntKind.i64.wrap (1+x6)=1+x6:=pV _ (by omega) (by omega)
 have w6':IntKind.u64.wrap (1+x6)=1+x6:=wrap_u64 _ (by omega) (by omega)
 have w9:IntKind.i64.wrap (2+x9)=2+x9:=pV _ (by omega) (by omega)
 have g7:=oS (l:=[0,40,100]) a7 (by show x7<((3:Nat):Int);omega)
 obtain⟨bp,hbp⟩:∃y,it [0,40,100] x7=y:=⟨_,rfl⟩
 have hbp1:0≤bp∧bp≤100:=by
  rcases (by omega:x7=0∨x7=1∨x7=2) with e|e|e<;>(rw[e] at hbp;rw[← hbp];decide)
 have w7:IntKind.u64.wrap bp=bp:=wrap_u64 _ (by omega) (by omega)
 rw[cL Tryz.func101 rfl aLn rfl];simp only[Z8,seval,iF,iG,k0,k1,k2,k3,k4,k5,k6,k7,k8,h0,h1,h2,h3,h4,h5,h6,h7,h8,w0,w3,w5,w5',w6,w6',a7,b7,g7,hbp,w7,qI,Nat.reduceLT,Tn];have n9:(2+x9).toNat≤6:=by omega
 refine cJ (fun m st=>∃(j:Nat) (lS:lI) (sp bq:Int) (tt:qP) (X:AV) (b:List Int),(st.env 0=.sl l.length (aH l)∧st.env 2=.ptr 2 0 0∧st.heap 2 0=some (.cells (bQ nC))∧st.env 3=.ptr 3 0 0∧st.heap 3 0=some (.cells (bQ ⟨lS,sp,bq,tt,mkRoot 1,X⟩))∧st.env 4=.v (.int .i64 j))∧(lS=⟨6+x0,x1,x2,1+x3,x4,1+x5⟩∧sp=1+x6∧bq=bp)∧((X=.v (.slice none 0 0)∧b=[])∨∃g,X=.own 64 g∧g<st.aQ 64∧st.heap 64 g=some (.row 23 1 b.length (bH b)))∧(∀y∈b,0≤y∧y≤1000)∧b.length=j∧j≤(2+x9).toNat∧m=(2+x9).toNat-j)
  (fun e st=>e=.exit 0∧∃(lS:lI) (sp bq:Int) (tt:qP) (g:Nat) (b:List Int),(st.env 2=.ptr 2 0 0∧st.heap 2 0=some (.cells (bQ nC))∧st.env 3=.ptr 3 0 0∧st.heap 3 0=some (.cells (bQ ⟨lS,sp,bq,tt,mkRoot 1,.own 64 g⟩))∧st.heap 64 g=some (.row 23 1 b.length (bH b)))∧(lS=⟨6+x0,x1,x2,1+x3,x4,1+x5⟩∧sp=1+x6∧bq=bp)∧(∀y∈b,0≤y∧y≤1000)∧1≤b.length∧b.length≤6) (2+x9).toNat ?step ?start ?rest
 case step =>
  rintro m st ⟨j,lS,sp,bq,tt,X,b,hI,hC,hX,hb,hj,hjn,hm⟩
  by_cases aZ:(j:Int)<2+x9
  ·have q0:(0:Int)≤j:=by omega
   have hw:IntKind.i64.wrap ((j:Int)+1)=((j+1:Nat):Int):=by rw[pV _ (by omega) (by omega)];omega
   obtain⟨jj,hjj⟩:∃jj:Int,jj=10+(j:Int):=⟨_,rfl⟩
   have DA:IntKind.i64.wrap (10+(j:Int))=jj:=by rw[pV _ (by omega) (by omega),hjj]
   have kj:=Mq l hl jj (by omega) (by omega)
   obtain⟨aj,bj⟩:=eC (n:=40) (Mp l hl jj (by omega) (by omega)).2.1 (by omega)
   obtain⟨y,hy⟩:∃y,(FD l jj).tmod 40=y:=⟨_,rfl⟩
   rw[hy] at aj bj;have wy:IntKind.u64.wrap y=y:=wrap_u64 _ (by omega) (by omega)
   have nL:(b.length:Int)<1000000:=by omega
   have FO:∀z∈b++[y],0≤z∧z≤1000:=fun z hz=>(List.mem_append.1 hz).elim (hb z) fun e=>by rw[List.mem_singleton] at e;rw[e];omega
   have Py:(b++[y]).length=j+1:=by rw[List.length_append,List.length_cons,List.length_nil];omega
   rcases hX with ⟨rfl,rfl⟩|⟨g,rfl,hg,hh⟩
   ·apply oN ((2+x9).toNat-(j+1))
    ·simp only[Z8,seval,hI,k9,h9,w9,aZ,DA,kj,hy,wy,hw];rfl
    ·exact⟨j+1,_,_,_,_,_,[]++[y],⟨by simp only[E8,seval,hI],by simp only[E8,seval,hI],by simp only[E8,seval,hI],by simp only[E8,seval,hI],by simp only[E8,seval,hI]<;>rfl,by simp only[E8,seval]⟩,hC,.inr ⟨_,rfl,by simp only[E8,seval]<;>omega,by simp only[E8,seval]<;>rfl⟩,FO,Py,by omega,rfl⟩
   ·have uR:(g=st.aQ 64)=False:=eq_false (by omega)
    apply oN ((2+x9).toNat-(j+1))
    ·simp only[Z8,seval,hI,hh,uR,k9,h9,w9,aZ,DA,kj,hy,wy,hw,xF _ _ _ _ nL];rfl
    ·exact⟨j+1,_,_,_,_,_,b++[y],⟨by simp only[E8,seval,hI],by simp only[E8,seval,hI],by simp only[E8,seval,hI],by simp only[E8,seval,hI],by simp only[E8,seval,hI]<;>rfl,by simp only[E8,seval]⟩,hC,.inr ⟨_,rfl,by simp only[E8,seval]<;>omega,by simp only[E8,seval]<;>rfl⟩,FO,Py,by omega,rfl⟩
  ·rcases hX with ⟨rfl,rfl⟩|⟨g,rfl,hg,hh⟩
   ·simp at hj;omega
   ·apply oT (.exit 0)
    ·simp only[Z8,seval,hI,k9,h9,w9,aZ];rfl
    ·exact⟨rfl,_,_,_,_,g,b,⟨by simp only[E8,seval,hI],by simp only[E8,seval,hI],by simp only[E8,seval,hI],by simp only[E8,seval,hI]<;>rfl,by simp only[E8,seval,hh]⟩,hC,hb,by omega,by omega⟩
 case start=>exact⟨0,_,_,_,_,_,[],by and_intros<;>(simp only[E8,seval]<;>rfl),⟨rfl,rfl,rfl⟩,.inl ⟨rfl,rfl⟩,by simp,rfl,by omega,by omega⟩
 case rest =>
  rintro e st ⟨rfl,lS,sp,bq,tt,g,b,hI,⟨rfl,rfl,rfl⟩,hb,Py,RT⟩
  simp only[Z8,seval,hI];exact⟨_,by apply eG;rfl;all_goals simp only[aE,Z8,seval,hI,bM,Wz,bG,uP,eA]<;>rfl,⟨⟨6+x0,x1,x2,1+x3,x4,1+x5⟩,1+x6,bq,tt,mkRoot 1,ov bH (some b)⟩,b,rfl,⟨rfl,by omega,hb,by dsimp only;omega,by dsimp only;omega,by dsimp only;omega,by dsimp only;omega,by dsimp only;omega,by dsimp only;omega,by dsimp only;omega,by dsimp only;omega,rfl,by dsimp only;omega⟩⟩
structure SB (a r:List Node):Prop where
 FC:r.map (·.block)=a.map (·.block)
 up:r.map (·.up)=a.map (·.up)
theorem SB.refl (a:List Node):SB a a:=⟨rfl,rfl⟩
theorem SB.trans {a b c:List Node} (h:SB a b) (g:SB b c):SB a c:=⟨g.FC.trans h.FC,g.up.trans h.up⟩
theorem SB.len {a r:List Node} (h:SB a r):r.length=a.length:=by have:=congrArg List.length h.FC;simpa using this
theorem SB.block {a r:List Node} (h:SB a r) {j:Int} (j1:j.toNat<a.length):(nd r j).block=(nd a j).block:=by
 have h2:j.toNat<r.length:=by rw[h.len];exact j1
 have:=congrArg (fun l:List Block=>l[j.toNat]?) h.FC
 simpa [nd,j1,h2] using this
theorem SB.upE {a r:List Node} (h:SB a r) {j:Int} (j1:j.toNat<a.length):(nd r j).up=(nd a j).up:=by
 have h2:j.toNat<r.length:=by rw[h.len];exact j1
 have:=congrArg (fun l:List Int=>l[j.toNat]?) h.up
 simpa [nd,j1,h2] using this
theorem DV (l:List Node) (x:bX):aJ l x=match (l.map (·.block)).findIdx? (fun b=>decide (b.root=x)) with
 | some k=>(k:Int)
 | none=>-1:=by
 unfold aJ;rw[List.findIdx?_map];rfl
theorem SB.aJ {a r:List Node} (h:SB a r) (x:bX):aJ r x=aJ a x:=by rw[DV,DV,h.FC]
theorem O2 (ns:List Node) (i to:Int):SB ns (setAt ns i to):=by
 have key:∀ {β:Type} (f:Node→β),(∀n s,f (Vu n s)=f n)→(setAt ns i to).map f=ns.map f:=by
  intro β f hf;unfold setAt;rw[List.map_set];apply List.ext_getElem (by simp)
  intro j h1 h2;rw[List.getElem_set];split
  ·rename_i e;have h3:j<ns.length:=by simpa using h2
   subst e;simp[hf,nd,h3]
  ·rfl
 exact⟨key _ fun _ _=>rfl,key _ fun _ _=>rfl⟩
theorem GJ {to never:Int}:∀(l:List Int) (ns r:List Node),CZ to never l ns=some r→SB ns r
 | [],ns,r,h=>by simp only[CZ,Option.some.injEq] at h;rw[h];exact SB.refl _
 | i :: l,ns,r,h=>by
   simp only[CZ] at h;split at h
   ·cases h
   ·exact (O2 ns i to).trans (GJ l _ _ h)
def MM (ns:List Node) (x:AV):Prop:=(∃e:Int,e≠0∧x=.eE [.agg [.v (.slice none 0 0)],.v (.int .i64 e)])∨∃r,SB ns r∧x=.eE [.agg (cD ⟨r⟩),.v (.int .i64 0)]
theorem MM.err (ns:List Node) {e:Int} (h:e≠0):MM ns (AJ e):=.inl ⟨e,h,rfl⟩
theorem aFK (ns:List Node) (i:Int):MM ns (G5 ns i):=by
 unfold G5;split
 ·unfold stA;split
  ·exact .err _ (by decide)
  ·rename_i r hr;exact .inr ⟨r,GJ _ _ _ hr,rfl⟩
 ·exact .err _ (by decide)
theorem O3 (ns:List Node) (i:Int):MM ns (G6 ns i):=by
 unfold G6;split
 ·unfold stA;split
  ·exact .err _ (by decide)
  ·rename_i r hr;exact .inr ⟨r,GJ _ _ _ hr,rfl⟩
 ·exact .err _ (by decide)
theorem MM.of {a b:List Node} (h:SB a b) {x:AV} (g:MM b x):MM a x:=g.imp id fun ⟨r,h1,h2⟩=>⟨r,h.trans h1,h2⟩
theorem aFL (ns:List Node) (i:Int) (v:gN) (l:List Int):MM ns (SI ns i v l):=by
 unfold SI;split
 ·exact .err _ (by decide)
 split
 ·exact aFK ns i
 split
 ·unfold J3;split
  ·exact .err _ (by decide)
  split
  ·split
   ·exact .err _ (by decide)
   ·rename_i r hr;exact .of (GJ _ _ _ hr) (O3 _ _)
  ·exact O3 _ _
 split
 ·exact .inr ⟨ns,SB.refl ns,rfl⟩
 ·exact .err _ (by decide)
theorem GI.tree {s:aM} {v:SV} {q:Int} (h:GI s v q) {r:List Node} (hs:SB v.ns r):GI { s with tree:=⟨.sl r.length (cF r)⟩} { v with ns:=r } q:=by
 have hl:=hs.len
 have hp:=h.pos
 refine⟨⟨h.sd.iA,h.sd.dR,h.sd.gT,h.sd.early,h.sd.bS,rfl,h.sd.tables,h.sd.eV,h.sd.tB,h.sd.nB,h.sd.nL,h.sd.nQ,h.sd.nE,h.sd.nO,h.sd.nT,by rw[hl];exact h.sd.nn⟩,fun i i0 i1=>?_, ?_,by show 0<r.length;omega,by rw[hl];exact h.nl,h.SQ,h.jK,h.FQ,h.nB,h.nO,h.LN,h.nE,h.RE,h.nT,h.SR,h.nQ,h.K0, ?_⟩
 ·have i1:i<(r.length:Int):=i1
  show 0≤(nd r i).up∧(nd r i).up<i
  rw[hs.upE (by omega)];exact h.up i i0 (by omega)
 ·show (nd r 0).up=-1
  rw[hs.upE (by show (0:Nat)<_;omega)];exact h.To
 ·show 0≤aJ r s.aG.dS.root
  rw[hs.aJ];exact h.dS
theorem RG.tree {s:aM} {v:SV} (h:RG s v) {r:List Node} (hs:SB v.ns r) (x:Fc):RG { s with tree:=x } { v with ns:=r } :=
 ⟨h.now,h.j,h.f,fun n hn=>by
  have:n.block∈r.map (·.block):=List.mem_map.2 ⟨n,hn,rfl⟩
  rw[hs.FC] at this;obtain⟨a,ha,e⟩:=List.mem_map.1 this
  rw[← e];exact h.nd a ha,h.or,fun n hn=>by
  have:n.block∈r.map (·.block):=List.mem_map.2 ⟨n,hn,rfl⟩
  rw[hs.FC] at this;obtain⟨a,ha,e⟩:=List.mem_map.1 this
  rw[← e];exact h.rt a ha,h.fe,by
  have e:=congrArg (List.map fun b:Block=>b.root) hs.FC
  rw[List.map_map,List.map_map] at e;show (r.map ((fun b:Block=>b.root) ∘ fun n=>n.block)).Nodup
  rw[e];exact h.ds,h.tb,⟨h.ne.q,h.ne.e,h.ne.o,h.ne.t,h.ne.ea,h.ne.tb⟩⟩
structure TQ (Q:List Request) (tag:Int):Prop where
 pos:1≤tag
 all:∀r∈Q,1≤r.tagged.tag∧r.tagged.tag<tag∧r.due=0
 asc:Q.Pairwise fun a b=>a.tagged.tag<b.tagged.tag
structure TR (R:List Request) (tag:Int):Prop where
 all:∀r∈R,r.tagged.tag<tag
 asc:R.Pairwise fun a b=>¬vW b a
def TP (ns:List Node) (l:List Request):Prop:=∀r∈l,0≤aJ ns r.block
theorem TQ.sub {P Q:List Request} {tag:Int} (h:TQ Q tag) (s:P.Sublist Q):TQ P tag:=⟨h.pos,fun r hr=>h.all r (s.subset hr),h.asc.sublist s⟩
theorem TR.sub {P Q:List Request} {tag:Int} (h:TR Q tag) (s:P.Sublist Q):TR P tag:=⟨fun r hr=>h.all r (s.subset hr),h.asc.sublist s⟩
theorem TR.mono {Q:List Request} {t t':Int} (h:TR Q t) (l:t≤t'):TR Q t':=⟨fun r hr=>by have:=h.all r hr;omega,h.asc⟩
theorem TP.sub {ns:List Node} {P Q:List Request} (h:TP ns Q) (s:P.Sublist Q):TP ns P:=fun r hr=>h r (s.subset hr)
theorem TQ.app {Q:List Request} {tag:Int} (h:TQ Q tag) (b:bX) (n:Int):TQ (Q++[⟨⟨tag⟩,b,n,0⟩]) (tag+1):=by
 refine⟨by have:=h.pos;omega,fun r hr=>?_,List.pairwise_append.2 ⟨h.asc,List.pairwise_singleton ..,fun a ha b hb=>?_⟩⟩
 ·rcases List.mem_append.1 hr with hr|hr
  ·obtain⟨h1,h2,h3⟩:=h.all r hr;exact⟨h1,by omega,h3⟩
  ·rw[List.mem_singleton] at hr;subst hr;exact⟨h.pos,by show tag<tag+1;omega,rfl⟩
 ·rw[List.mem_singleton] at hb;subst hb;exact (h.all a ha).2.1
theorem TP.app {ns:List Node} {Q:List Request} (h:TP ns Q) {x:Request} (hx:0≤aJ ns x.block):TP ns (Q++[x]):=fun r hr=>by
 rcases List.mem_append.1 hr with hr|hr
 ·exact h r hr
 ·rw[List.mem_singleton] at hr;subst hr;exact hx
theorem aLo {x:Int} (h1:1≤x) (h2:x≤1000000):IntKind.u64.wrap (x+1)=x+1:=wrap_u64 _ (by omega) (by omega)
theorem Np (ns:List Node) (now:Int):∀(l:List Request) (a:(Option (List Request) × Int) × List Request),TQ (ol a.1.1) a.1.2→TP ns (ol a.1.1)→a.1.2+l.length≤1000000 →
 TQ (ol (yW ns now a l).1.1) (yW ns now a l).1.2∧TP ns (ol (yW ns now a l).1.1)∧a.1.2≤(yW ns now a l).1.2∧(yW ns now a l).1.2≤a.1.2+l.length∧(yW ns now a l).2=a.2++l.filter fun r=>decide (now<r.due)
 | [],a,h,hi,hb=>⟨h,hi,by show a.1.2≤a.1.2;omega,by show a.1.2≤a.1.2+((0:Nat):Int);omega,(List.append_nil _).symm⟩
 | r :: l,a,h,hi,hb=>by
   have hp:=h.pos
   rw[List.length_cons] at hb;have hw:=aLo hp (by omega)
   have e0:yW ns now a (r :: l)=yW ns now (Lg ns now a r) l:=rfl
   rw[e0,List.length_cons];by_cases g1:now<r.due
   ·have e1:Lg ns now a r=(a.1,a.2++[r]):=if_pos g1
    rw[e1];obtain⟨h1,h2,h3,h4,h5⟩:=Np ns now l (a.1,a.2++[r]) h hi (by dsimp only;omega)
    refine⟨h1,h2,h3,by dsimp only at h4;omega, ?_⟩
    rw[h5,List.filter_cons,if_pos (decide_eq_true g1)];simp
   ·rw[List.filter_cons,if_neg (by simpa using g1)]
    by_cases g2:zQ ns r.block
    ·have e1:Lg ns now a r=((some (ol a.1.1++[⟨⟨a.1.2⟩,r.block,r.tries,0⟩]),IntKind.u64.wrap (a.1.2+1)),a.2):=(if_neg g1).trans (if_pos g2)
     rw[e1,hw];obtain⟨h1,h2,h3,h4,h5⟩:=Np ns now l ((some (ol a.1.1++[(⟨⟨a.1.2⟩,r.block,r.tries,0⟩:Request)]),a.1.2+1),a.2) (h.app _ _) (hi.app g2.1) (by dsimp only;omega)
     exact⟨h1,h2,by dsimp only at h3;omega,by dsimp only at h4;omega,h5⟩
    ·have e1:Lg ns now a r=a:=(if_neg g1).trans (if_neg g2)
     rw[e1];obtain⟨h1,h2,h3,h4,h5⟩:=Np ns now l a h hi (by omega)
     exact⟨h1,h2,h3,by omega,h5⟩
theorem GK (ns:List Node):∀(l:List bX) (a:Option (List Request) × Int),TQ (ol a.1) a.2→TP ns (ol a.1)→a.2+l.length≤1000000 →
 TQ (ol (Mf ns a l).1) (Mf ns a l).2∧TP ns (ol (Mf ns a l).1)∧a.2≤(Mf ns a l).2∧(Mf ns a l).2≤a.2+l.length
 | [],a,h,hi,hb=>⟨h,hi,by show a.2≤a.2;omega,by show a.2≤a.2+((0:Nat):Int);omega⟩
 | r :: l,a,h,hi,hb=>by
   have hp:=h.pos
   rw[List.length_cons] at hb;have hw:=aLo hp (by omega)
   have e0:Mf ns a (r :: l)=Mf ns (XV ns a r) l:=rfl
   rw[e0,List.length_cons];by_cases g2:zQ ns r
   ·have e1:XV ns a r=(some (ol a.1++[⟨⟨a.2⟩,r,0,0⟩]),IntKind.u64.wrap (a.2+1)):=if_pos g2
    rw[e1,hw];obtain⟨h1,h2,h3,h4⟩:=GK ns l (some (ol a.1++[(⟨⟨a.2⟩,r,0,0⟩:Request)]),a.2+1) (h.app _ _) (hi.app g2.1) (by dsimp only;omega)
    exact⟨h1,h2,by dsimp only at h3;omega,by dsimp only at h4;omega⟩
   ·have e1:XV ns a r=a:=if_neg g2
    rw[e1];obtain⟨h1,h2,h3,h4⟩:=GK ns l a h hi (by omega)
    exact⟨h1,h2,h3,by omega⟩
theorem XY (ns:List Node) (now:Int):∀(l:List Request) (a:(Option (List Request) × Int) × List Request),a.1.1≠some []→(yW ns now a l).1.1≠some []
 | [],a,h=>h
 | r :: l,a,h=>by
   have e0:yW ns now a (r :: l)=yW ns now (Lg ns now a r) l:=rfl
   rw[e0];refine XY ns now l _ ?_
   unfold Lg;split
   ·exact h
   split
   ·simp
   ·exact h
theorem O4 (ns:List Node):∀(l:List bX) (a:Option (List Request) × Int),a.1≠some []→(Mf ns a l).1≠some []
 | [],a,h=>h
 | r :: l,a,h=>by
   have e0:Mf ns a (r :: l)=Mf ns (XV ns a r) l:=rfl
   rw[e0];refine O4 ns l _ ?_
   unfold XV;split
   ·simp
   ·exact h
noncomputable def GL:List Request→Request→List Request→List Request
 | [],x,B=>x :: B
 | y :: A,x,B=>if vW x y then GL A x (y :: B) else (y :: A).reverse++x :: B
theorem DW:∀(A:List Request) (x:Request) (B:List Request),Bm A.length (A.reverse++x :: B)=GL A x B
 | [],x,B=>rfl
 | y :: A,x,B=>by
   have e1:gx cP ((y :: A).reverse++x :: B) ((A.length+1:Nat):Int)=x:=by
    unfold gx;rw[Int.toNat_natCast,List.reverse_cons,List.append_assoc,List.getD_eq_getElem?_getD,List.getElem?_append_right (by simp),List.length_reverse]
    simp
   have e2:gx cP ((y :: A).reverse++x :: B) (A.length:Int)=y:=by
    unfold gx;rw[Int.toNat_natCast,List.reverse_cons,List.append_assoc,List.getD_eq_getElem?_getD,List.getElem?_append_right (by simp),List.length_reverse]
    simp
   have e3:(((y :: A).reverse++x :: B).set (A.length+1) y).set A.length x=A.reverse++x :: y :: B:=by
    rw[List.reverse_cons,List.append_assoc,List.set_append_right _ _ (by simp),List.length_reverse,List.set_append_right _ _ (by simp),List.length_reverse]
    simp
   rw[List.length_cons];have e0:∀l,Bm (A.length+1) l=if vW (gx cP l ((A.length+1:Nat):Int)) (gx cP l (A.length:Int)) then Bm A.length ((l.set (A.length+1) (gx cP l (A.length:Int))).set A.length (gx cP l ((A.length+1:Nat):Int))) else l:=fun l=>rfl
   rw[e0,e1,e2,e3];unfold GL;split
   ·exact DW A x (y :: B)
   ·rfl
theorem Xa {r:Request}:∀(A:List Request) (x:Request) (B:List Request),r∈GL A x B↔r∈A∨r=x∨r∈B
 | [],x,B=>by simp[GL]
 | y :: A,x,B=>by
   unfold GL;split
   ·rw[Xa A x (y :: B)];simp only[List.mem_cons];constructor
    ·rintro (h|h|h|h)
     ·exact .inl (.inr h)
     ·exact .inr (.inl h)
     ·exact .inl (.inl h)
     ·exact .inr (.inr h)
    ·rintro ((h|h)|h|h)
     ·exact .inr (.inr (.inl h))
     ·exact .inl h
     ·exact .inr (.inl h)
     ·exact .inr (.inr (.inr h))
   ·simp[or_assoc,or_left_comm]
theorem So {a b:Request} (h:vW a b):¬vW b a:=by unfold vW at *;omega
theorem O5 {a b c:Request} (h1:¬vW b a) (h2:¬vW c b):¬vW c a:=by unfold vW at *;omega
theorem MN:∀(A:List Request) (x:Request) (B:List Request),(A.reverse++B).Pairwise (fun a b=>¬vW b a)→(∀b∈B,vW x b)→(GL A x B).Pairwise fun a b=>¬vW b a
 | [],x,B,h,hb=>List.pairwise_cons.2 ⟨fun b m=>So (hb b m),h⟩
 | y :: A,x,B,h,hb=>by
   unfold GL;have h0:=h
   rw[List.reverse_cons,List.append_assoc] at h;split
   ·rename_i g;exact MN A x (y :: B) h fun b m=>(List.mem_cons.1 m).elim (fun e=>by rw[e];exact g) (hb b)
   ·rename_i g;obtain⟨p1,p2,p3⟩:=List.pairwise_append.1 h0
    refine List.pairwise_append.2 ⟨p1,List.pairwise_cons.2 ⟨fun b m=>So (hb b m),p2⟩,fun a ha b m=>?_⟩
    rcases List.mem_cons.1 m with rfl|m
    ·rw[List.reverse_cons,List.mem_append,List.mem_singleton] at ha;rcases ha with ha|rfl
     ·have:=(List.pairwise_append.1 h).2.2 a ha y (by simp)
      exact O5 this g
     ·exact g
    ·exact p3 a ha b m
theorem O6 (R:List Request) (x:Request):Bm R.length (R++[x])=GL R.reverse x []:=by
 have:=DW R.reverse x []
 rwa [List.reverse_reverse,List.length_reverse] at this
theorem TR.bub {R:List Request} {tag:Int} (h:TR R tag) {x:Request} (hx:x.tagged.tag<tag):TR (Bm R.length (R++[x])) tag:=by
 rw[O6];refine⟨fun r hr=>?_,MN _ _ _ (by rw[List.reverse_reverse,List.append_nil];exact h.asc) (by simp)⟩
 rcases (Xa _ _ _).1 hr with hr|rfl|hr
 ·exact h.all r (List.mem_reverse.1 hr)
 ·exact hx
 ·cases hr
theorem TP.bub {ns:List Node} {R:List Request} (h:TP ns R) {x:Request} (hx:0≤aJ ns x.block):TP ns (Bm R.length (R++[x])):=by
 rw[O6];intro r hr;rcases (Xa _ _ _).1 hr with hr|rfl|hr
 ·exact h r (List.mem_reverse.1 hr)
 ·exact hx
 ·cases hr
structure TI0 (t:State) (v:SV) (Q R:Option (List Request)) (q m:Int):Prop where
 td:TD t v Q R
 gi:GI t.store v q
 rg:RG t.store v
 cfg:∃b,Fe t.store.cFg b
 tq:TQ (ol Q) t.cV
 tr:TR (ol R) t.cV
 nt:t.cV≤1+m
 lq:((ol Q).length:Int)≤m
 lr:((ol R).length:Int)≤t.store.cFg.lS.nK
 mB:m≤100000
 qn:Q≠some []
 rn:R≠some []
structure TI (t:State) (v:SV) (Q R:Option (List Request)) (q m:Int):Prop extends TI0 t v Q R q m where
 H2:TP v.ns (ol Q)
 H3:TP v.ns (ol R)
theorem TI0.mono {t:State} {v:SV} {Q R:Option (List Request)} {q m q' m':Int} (h:TI0 t v Q R q m) (h1:q≤q') (h2:q'≤900000) (h3:m≤m') (h4:m'≤100000):TI0 t v Q R q' m' :=
 ⟨h.td,h.gi.mono h1 h2,h.rg,h.cfg,h.tq,h.tr,by have:=h.nt;omega,by have:=h.lq;omega,h.lr,h4,h.qn,h.rn⟩
theorem TI.mono {t:State} {v:SV} {Q R:Option (List Request)} {q m q' m':Int} (h:TI t v Q R q m) (h1:q≤q') (h2:q'≤900000) (h3:m≤m') (h4:m'≤100000):TI t v Q R q' m':=⟨h.toTI0.mono h1 h2 h3 h4,h.H2,h.H3⟩
theorem TI0.store {t:State} {v:SV} {Q R:Option (List Request)} {q m:Int} (h:TI0 t v Q R q m) {s':aM} {v':SV} {q':Int} (g:GI s' v' q') (r:RG s' v') (c:s'.cFg=t.store.cFg):TI0 { t with store:=s' } v' Q R q' m :=
 ⟨⟨g.sd,h.td.Gf,h.td.ret,h.td.nQ,h.td.nR⟩,g,r,by show ∃b,Fe s'.cFg b;rw[c];exact h.cfg,h.tq,h.tr,h.nt,h.lq,by show _≤s'.cFg.lS.nK;rw[c];exact h.lr,h.mB,h.qn,h.rn⟩
theorem TI.emit {t:State} {v:SV} {Q R:Option (List Request)} {q m:Int} (h:TI t v Q R q m) (b:Bool) (c:Command):TI { t with Lb:=b,last:=c } v Q R q m :=
 ⟨⟨⟨h.td.sd,h.td.Gf,h.td.ret,h.td.nQ,h.td.nR⟩,h.gi,h.rg,h.cfg,h.tq,h.tr,h.nt,h.lq,h.lr,h.mB,h.qn,h.rn⟩,h.H2,h.H3⟩
theorem TI.halt {t:State} {v:SV} {Q R:Option (List Request)} {q m:Int} (h:TI t v Q R q m) (b:Bool):TI { t with halted:=b } v Q R q m :=
 ⟨⟨⟨h.td.sd,h.td.Gf,h.td.ret,h.td.nQ,h.td.nR⟩,h.gi,h.rg,h.cfg,h.tq,h.tr,h.nt,h.lq,h.lr,h.mB,h.qn,h.rn⟩,h.H2,h.H3⟩
theorem TI.over {t:State} {v:SV} {Q R:Option (List Request)} {q m:Int} (h:TI t v Q R q m) (b:Bool):TI { t with overflow:=b } v Q R q m :=
 ⟨⟨⟨h.td.sd,h.td.Gf,h.td.ret,h.td.nQ,h.td.nR⟩,h.gi,h.rg,h.cfg,h.tq,h.tr,h.nt,h.lq,h.lr,h.mB,h.qn,h.rn⟩,h.H2,h.H3⟩
theorem TI0.aBK {t:State} {v:SV} {Q R:Option (List Request)} {q m:Int} (h:TI0 t v Q R q m):t.store.cFg.lS.nK≤256:=by obtain⟨b,hb⟩:=h.cfg;exact hb.nK.2
theorem TI0.iA {t:State} {v:SV} {Q R:Option (List Request)} {q m:Int} (h:TI0 t v Q R q m):0<(ol v.B).length∧(ol v.B).length≤64:=by
 obtain⟨b,hb⟩:=h.cfg
 have e:=h.gi.sd.iA.symm.trans hb.iA
 have n:=hb.nb
 cases hB:v.B with
 | none=>rw[hB] at e;cases e
 | some l =>
   rw[hB] at e;have e:AV.sl l.length (bH l)=AV.sl b.length (bH b):=e
   injection e with e1 e2
   show 0<l.length∧l.length≤64
   omega
theorem TI0.drop {t:State} {v:SV} {Q R:Option (List Request)} {q m:Int} (h:TI0 t v Q R q m):TI (TJ t v Q R) v (nz (oW v.ns (ol Q))) (nz (oW v.ns (ol R))) q m:=by
 have s1:(oW v.ns (ol Q)).Sublist (ol Q):=List.filter_sublist
 have s2:(oW v.ns (ol R)).Sublist (ol R):=List.filter_sublist
 have l1:=s1.length_le
 have l2:=s2.length_le
 have a1:=h.lq
 have a2:=h.lr
 refine⟨⟨h.td.drp,h.gi,h.rg,h.cfg, ?_, ?_,h.nt, ?_, ?_,h.mB,Wk _,Wk _⟩, ?_, ?_⟩
 ·rw[oH];exact h.tq.sub s1
 ·rw[oH];exact h.tr.sub s2
 ·rw[oH];omega
 ·rw[oH];show _≤t.store.cFg.lS.nK;omega
 ·rw[oH];intro r hr;exact of_decide_eq_true (List.mem_filter.1 hr).2
 ·rw[oH];intro r hr;exact of_decide_eq_true (List.mem_filter.1 hr).2
theorem TI.due {t:State} {v:SV} {Q R:Option (List Request)} {q m:Int} (h:TI t v Q R q m) (hm:m+256≤100000):TI (aBI t v.ns Q R) v (GH t v.ns Q R).1.1 (nz (GH t v.ns Q R).2) q (m+256):=by
 have a1:=h.lq
 have a2:=h.lr
 have a3:=h.aBK
 have a4:=h.nt
 obtain⟨h1,h2,h3,h4,h5⟩:=Np v.ns t.store.now (ol R) ((Q,t.cV),[]) h.tq h.H2 (by dsimp only;omega)
 have hl:=MH v.ns t.store.now (ol R) ((Q,t.cV),[])
 rw[List.nil_append] at h5;have e1:yW v.ns t.store.now ((Q,t.cV),[]) (ol R)=GH t v.ns Q R:=rfl
 rw[e1] at h1 h2 h3 h4 h5 hl;dsimp only at h3 h4 hl
 have s2:(GH t v.ns Q R).2.Sublist (ol R):=by rw[h5];exact List.filter_sublist
 have l2:=s2.length_le
 have Py:=hl.1
 have:=h.mB
 refine⟨⟨⟨h.td.sd,rfl,rfl,by omega,by rw[oH];omega⟩,h.gi,h.rg,h.cfg,h1, ?_, ?_,by omega, ?_,hm,XY v.ns t.store.now (ol R) ((Q,t.cV),[]) h.qn,Wk _⟩,h2, ?_⟩
 ·rw[oH];exact (h.tr.sub s2).mono h3
 ·show (GH t v.ns Q R).1.2≤_;omega
 ·rw[oH];show _≤t.store.cFg.lS.nK;omega
 ·rw[oH];exact h.H3.sub s2
theorem TI.open {t:State} {v:SV} {Q R:Option (List Request)} {q m:Int} (h:TI t v Q R q m) (L:List bX) (hL:(L.length:Int)≤100) (hm:m+256≤100000):TI (TK t (Mf v.ns (Q,t.cV) L)) v (Mf v.ns (Q,t.cV) L).1 R q (m+256):=by
 have a1:=h.lq
 have a4:=h.nt
 obtain⟨h1,h2,h3,h4⟩:=GK v.ns L (Q,t.cV) h.tq h.H2 (by dsimp only;omega)
 have hl:=XW v.ns (Q,t.cV) L
 dsimp only at h3 h4 hl
 refine⟨⟨h.td.TK _ (by omega),h.gi,h.rg,h.cfg,h1,h.tr.mono h3, ?_,by omega,h.lr,hm,O4 v.ns L (Q,t.cV) h.qn,h.rn⟩,h2,h.H3⟩
 show (Mf v.ns (Q,t.cV) L).2≤_;omega
theorem TI.O7 {t:State} {v:SV} {Q R:Option (List Request)} {q m:Int} (h:TI t v Q R q m) {r:Request} (hr:r.tagged.tag<t.cV):∃R',TI (u6 t v.ns (ol R) r) v Q R' q m:=by
 unfold u6;split
 ·exact⟨R,h⟩
 split
 ·exact⟨R,h.over true⟩
 ·rename_i g1 g2;have g1:=Classical.not_not.1 g1
  have hl:(Bm (ol R).length (ol R++[ML t r])).length=(ol R).length+1:=by rw[MK,List.length_append,List.length_cons,List.length_nil]
  have a3:=h.aBK
  refine⟨some (Bm (ol R).length (ol R++[ML t r])),⟨⟨h.td.sd,h.td.Gf,rfl,h.td.nQ, ?_⟩,h.gi,h.rg,h.cfg,h.tq,h.tr.bub (x:=ML t r) hr,h.nt,h.lq, ?_,h.mB,h.qn,fun e=>by injection e with e;rw[e] at hl;simp at hl⟩,h.H2,h.H3.bub (x:=ML t r) g1.1⟩
  ·show ((Bm (ol R).length (ol R++[ML t r])).length:Int)<_;omega
  ·show ((Bm (ol R).length (ol R++[ML t r])).length:Int)≤t.store.cFg.lS.nK;omega
theorem TI.less {t:State} {v:SV} {Q R:Option (List Request)} {q m:Int} (h:TI t v Q R q m) (k:Nat):TI { t with iR:=ov aD (nz ((ol Q).take k++(ol Q).drop (k+1)))} v (nz ((ol Q).take k++(ol Q).drop (k+1))) R q m:=by
 have s:((ol Q).take k++(ol Q).drop (k+1)).Sublist (ol Q):=by rw[← List.eraseIdx_eq_take_drop_succ];exact List.eraseIdx_sublist ..
 have l1:=s.length_le
 have a1:=h.lq
 have:=h.td.nQ
 exact⟨⟨⟨h.td.sd,rfl,h.td.ret,by rw[oH];omega,h.td.nR⟩,h.gi,h.rg,h.cfg,by rw[oH];exact h.tq.sub s,h.tr,h.nt,by rw[oH];omega,h.lr,h.mB,Wk _,h.rn⟩,by rw[oH];exact h.H2.sub s,h.H3⟩
theorem TI.tree {t:State} {v:SV} {Q R:Option (List Request)} {q m:Int} (h:TI t v Q R q m) {r:List Node} (hs:SB v.ns r) (b:bX):TI { t with store:={ t.store with tree:=⟨.sl r.length (cF r)⟩,iK:=b }} { v with ns:=r } Q R q m:=by
 have g:=(h.gi.tree hs).iK b
 have e:=(h.rg.tree hs ⟨.sl r.length (cF r)⟩).iK b
 exact⟨h.toTI0.store g e rfl,fun x hx=>by show 0≤aJ r x.block;rw[hs.aJ];exact h.H2 x hx,fun x hx=>by show 0≤aJ r x.block;rw[hs.aJ];exact h.H3 x hx⟩
def MO (Q:List Request) (tag:Int) (k:Nat):Prop:=(gx cP Q (k:Int)).tagged.tag=tag
theorem x27 {t:State} {v:SV} {Q R:Option (List Request)} (h:TD t v Q R) (w:gN):∃x,aB Tryz.prog 27 [.agg (aP t),.agg (dG w)]=some x ∧
 (((∀j:Nat,j<(ol Q).length→¬MO (ol Q) w.tagged.tag j)∧x=.eE [.agg (cX cP),.agg (aP lH),.v (.int .i64 23)]) ∨
  ∃k:Nat,k<(ol Q).length∧MO (ol Q) w.tagged.tag k∧(∀j:Nat,j<k→¬MO (ol Q) w.tagged.tag j)∧x=.eE [.agg (cX (gx cP (ol Q) (k:Int))),.agg (aP { t with iR:=ov aD (nz ((ol Q).take k++(ol Q).drop (k+1)))}),.v (.int .i64 0)]):=by
 have oD:=h.fl
 have nQ:=h.nQ
 have nQ1:((ol Q).length:Int)<1000000:=by omega
 have AA:Flat (.agg (aP lH)):=by simp only[eA,lH,gC,nC,Kz,Ea,Qj,and_self]
 rw[cG Tryz.func27 rfl aP8 (by kernel_rfl) rfl]
 simp only[ZG,seval,Bool.false_and,Prod.mk.injEq,GM];refine kX (fun m st=>∃k:Nat,(st.env 2=.ptr 2 0 0∧st.heap 2 0=some (.cells (aP t))∧st.env 3=.ptr 3 0 0∧st.heap 3 0=some (.cells (dG w))∧st.env 4=.ptr 4 0 0∧st.heap 4 0=some (.cells (cX cP))∧st.env 5=.ptr 5 0 0∧st.heap 5 0=some (.cells (aP lH))∧st.env 7=.v (.int .i64 k))∧(∀j:Nat,j<k→¬MO (ol Q) w.tagged.tag j)∧k≤(ol Q).length∧m=(ol Q).length-k)
  (fun e st=>(e=.ret∧∃(k:Nat) (X:AV),(st.env 4=.ptr 4 0 0∧st.heap 4 0=some (.cells (cX (gx cP (ol Q) (k:Int))))∧st.env 5=.ptr 5 0 0∧st.heap 5 0=some (.cells (aP { t with iR:=X }))∧st.env 6=.v (.int .i64 0))∧((X=.v (.slice none 0 0)∧(ol Q).take k++(ol Q).drop (k+1)=[])∨∃g,X=.own 42 g∧(ol Q).take k++(ol Q).drop (k+1)≠[]∧st.heap 42 g=some (.row 63 35 ((ol Q).take k++(ol Q).drop (k+1)).length (aD ((ol Q).take k++(ol Q).drop (k+1)))))∧k<(ol Q).length∧MO (ol Q) w.tagged.tag k∧(∀j:Nat,j<k→¬MO (ol Q) w.tagged.tag j)) ∨
   (e=.exit 0∧(st.env 4=.ptr 4 0 0∧st.heap 4 0=some (.cells (cX cP))∧st.env 5=.ptr 5 0 0∧st.heap 5 0=some (.cells (aP lH)))∧∀j:Nat,j<(ol Q).length→¬MO (ol Q) w.tagged.tag j)) (ol Q).length ?step ?start ?rest
 case step =>
  rintro m st ⟨k,hI,hj,hk,hm⟩
  by_cases aZ:(k:Int)<(ol Q).length
  case neg =>
   apply FM (.exit 0)
   ·simp only[ZG,seval,Bool.false_and,Prod.mk.injEq,GM,hI,h.Gf,aZ];rfl
   ·exact .inr ⟨rfl,by simp only[E8,seval,hI],fun j hj'=>hj j (by omega)⟩
  have q0:(0:Int)≤k:=by omega
  have q2:(k:Int)≤((ol Q).length:Int):=by omega
  have q3:(0:Int)≤((k+1:Nat):Int):=by omega
  have q4:((k+1:Nat):Int)≤((ol Q).length:Int):=by omega
  have hw:IntKind.i64.wrap ((k:Int)+1)=((k+1:Nat):Int):=by rw[pV _ (by omega) (by omega)];omega
  have n1:((((ol Q).take k).length:Nat):Int)<1000000:=by rw[List.length_take];omega
  have n2:((((ol Q).drop (k+1)).length:Nat):Int)<1000000:=by rw[List.length_drop];omega
  have e1:ol (Q.map (·.take k))=(ol Q).take k:=by cases Q<;>simp[ol]
  have e2:ol (Q.map (·.drop (k+1)))=(ol Q).drop (k+1):=by cases Q<;>simp[ol]
  by_cases hh:MO (ol Q) w.tagged.tag k
  ·have hh':(gx cP (ol Q) (k:Int)).tagged.tag=w.tagged.tag:=hh
   obtain⟨LL,AD⟩:∃LL,(ol Q).take k++(ol Q).drop (k+1)=LL:=⟨_,rfl⟩
   by_cases hz:LL=[]
   ·have hT:((ol Q).take k).length=0:=by have:=congrArg List.length AD;rw[hz,List.length_append] at this;simp only[List.length_nil] at this;omega
    have hD:((ol Q).drop (k+1)).length=0:=by have:=congrArg List.length AD;rw[hz,List.length_append] at this;simp only[List.length_nil] at this;omega
    apply FM (.ret)
    ·simp only[ZG,seval,Bool.false_and,Prod.mk.injEq,GM,hI,h.Gf,aZ,q0,q2,q3,q4,hw,bt hh',Int.toNat_natCast,gY,gZ,Qq,Option.isSome_some,Option.map_some,Option.some.injEq,hT,hD,e1,e2];rfl
    ·exact .inl ⟨rfl,k,.v (.slice none 0 0),by simp only[E8,seval,hI]<;>rfl,.inl ⟨rfl,AD.trans hz⟩,by omega,hh,hj⟩
   have AN:(LL.length=0)=False:=eq_false fun h=>hz (List.length_eq_zero_iff.1 h)
   have n3:((LL.length:Nat):Int)<1000000:=by rw[← AD,List.length_append,List.length_take,List.length_drop];omega
   by_cases vM:k=0
   ·have hT:((ol Q).take k).length=0:=by rw[vM];rfl
    have hD:(ol Q).drop (k+1)=LL:=by rw[← AD,vM];rfl
    apply FM (.ret)
    ·simp only[ZG,seval,Bool.false_and,Prod.mk.injEq,GM,hI,h.Gf,aZ,q0,q2,q3,q4,hw,bt hh',Int.toNat_natCast,gY,gZ,Qq,Option.isSome_some,Option.map_some,Option.some.injEq,hT,hD,AN,qJ _ n3,e1,e2];rfl
    ·exact .inl ⟨rfl,k,_,by simp only[E8,seval,hI]<;>rfl,.inr ⟨_,rfl,by rw[AD];exact hz,by rw[AD];simp only[E8,seval]<;>rfl⟩,by omega,hh,hj⟩
   ·have hT:(((ol Q).take k).length=0)=False:=eq_false (by rw[List.length_take];omega)
    apply FM (.ret)
    ·simp only[ZG,seval,Bool.false_and,Prod.mk.injEq,GM,hI,h.Gf,aZ,q0,q2,q3,q4,hw,bt hh',Int.toNat_natCast,gY,gZ,Qq,Option.isSome_some,Option.map_some,Option.some.injEq,hT,qJ _ n1,Sp _ _ _ _ n1 n2,e1,e2];rfl
    ·exact .inl ⟨rfl,k,_,by simp only[E8,seval,hI]<;>rfl,.inr ⟨_,rfl,by rw[AD];exact hz,by simp only[E8,seval]<;>rfl⟩,by omega,hh,hj⟩
  ·have hh':¬(gx cP (ol Q) (k:Int)).tagged.tag=w.tagged.tag:=hh
   apply Bh ((ol Q).length-(k+1))
   ·simp only[ZG,seval,Bool.false_and,Prod.mk.injEq,GM,hI,h.Gf,aZ,q0,hw,bf hh'];rfl
   ·exact⟨k+1,by simp only[E8,seval,hI],fun j hj'=>(Nat.lt_succ_iff_lt_or_eq.1 hj').elim (hj j) fun e=>by subst e;exact hh,by omega,rfl⟩
 case start=>exact⟨0,by simp only[E8,seval]<;>rfl,fun j hj=>by omega,by omega,by omega⟩
 case rest =>
  rintro e st (⟨rfl,k,X,hI,hX,hk,hh,hj⟩|⟨rfl,hI,hj⟩)
  ·rcases hX with ⟨rfl,hz⟩|⟨g,rfl,hz,hg⟩
   ·have hfz:Flat (.agg (aP { t with iR:=.v (.slice none 0 0)})):=(tE _).2 ⟨oD.1,oD.2.1,oD.2.2.1,oD.2.2.2.1,oD.2.2.2.2.1,oD.2.2.2.2.2.1,oD.2.2.2.2.2.2.1,.v _,oD.2.2.2.2.2.2.2.2⟩
    simp only[ZG,seval,Bool.false_and,Prod.mk.injEq,GM,hI];exact⟨_,cW rfl (by simp only[bK,Z8,seval,hI]<;>rfl) (by simp only[bK,Z8,seval,hI]<;>rfl) (by simp only[bK,E8,seval,hI]<;>rfl) (eB (.agg _ (jL _))) (eB hfz) (by simp only[Z8,seval]<;>rfl),.inr ⟨k,hk,hh,hj,by rw[hz,show nz ([]:List Request)=none from if_pos rfl];rfl⟩⟩
   ·simp only[ZG,seval,Bool.false_and,Prod.mk.injEq,GM,hI,hg];exact⟨_,cW rfl (by simp only[bK,Z8,seval,hI]<;>rfl) (by simp only[bK,Z8,seval,hI]<;>rfl) (by simp only[bK,E8,seval,hI]<;>rfl) (eB (.agg _ (jL _))) (by simp only[Z8,seval,hI,hg,bM,uV,gD,bG,oV,cY,eA,oD]<;>rfl) (by simp only[Z8,seval]<;>rfl),.inr ⟨k,hk,hh,hj,by rw[show nz ((ol Q).take k++(ol Q).drop (k+1))=some _ from if_neg hz];rfl⟩⟩
  ·simp only[ZG,seval,Bool.false_and,Prod.mk.injEq,GM,hI];exact⟨_,by apply cW;rfl;all_goals simp only[aE,bK,Z8,seval,hI,AA]<;>rfl,.inl ⟨hj,rfl⟩⟩
theorem aP9 (ns:List Node) (hu:fZ ns) (hr:(nd ns 0).up=-1) (hn:(ns.length:Int)<1000000) (i:Int) (w:gN) (l:List Int) (hl:(l.length:Int)<1000000) (st:St) (a g:Nat) (d:Option Nat) (hh:st.heap a g=some (.row 3 1 l.length (aH l))) :
 eQ (aB Tryz.prog) 222 [.agg (cD ⟨ns⟩),.v (.int .i64 i),.agg (dG w),.own a g] st d=some { dst:=d,val:=SI ns i w l,dP:=some (a,g,none)}:=by
 rw[It (s:=a) (k:=g) (by rw[List.flatMap_cons,List.flatMap_cons,List.flatMap_cons,xS (lN _),xS (.v _),xS (.agg _ (jM w))];rfl) (by intro y hy;simp only[List.mem_cons,List.not_mem_nil,or_false] at hy;rcases hy with rfl|rfl|rfl|rfl;exact .inl (lN _);exact .inl (.v _);exact .inl (.agg _ (jM w));exact .inr (.inl ⟨a,g,rfl⟩)),
  List.map_cons,List.map_cons,List.map_cons,List.map_cons,List.map_nil,eB (lN _),eB (.v _),eB (.agg _ (jM w)),Iu hh,bR,bR,bR,bR,gU]
 exact DR (aOh ns hu hr hn i w l hl (.inl rfl)) (l7 ns i w l)
theorem aQa {t:State} {v:SV} {Q R:Option (List Request)} {q m:Int} (h:TI t v Q R q m) (w:gN) :
 ∃x,aB Tryz.prog 206 [.agg (aP t),.agg (dG w)]=some x∧∃(t':State) (e:Int) (v':SV) (Q' R':Option (List Request)),x=.eE [.agg (aP t'),.v (.int .i64 e)]∧TI t' v' Q' R' q m:=by
 have hf:=h.td.flat
 have oD:=h.td.fl
 have fw:Flat (.agg (dG w)):=.agg _ (jM w)
 have AA:Flat (.agg (aP lH)):=by simp only[eA,lH,gC,nC,Kz,Ea,Qj,and_self]
 obtain⟨y,hy,⟨hj,rfl⟩|⟨k,hk,hh,hj,rfl⟩⟩:=x27 h.td w
 ·have k27:=kx hy (bA hf fw) (.eE _ (mW (.agg _ (jL _)) AA (.v _)))
  rw[cL Tryz.func206 rfl aEu rfl];simp only[Z8,seval,k27,dM];exact⟨_,by apply dC;rfl;all_goals simp only[aE,bK,Z8,seval,hf]<;>rfl,t,23,v,Q,R,rfl,h⟩
 obtain⟨r,er⟩:∃r,gx cP (ol Q) (k:Int)=r:=⟨_,rfl⟩
 obtain⟨t1,et⟩:∃t1,({ t with iR:=ov aD (nz ((ol Q).take k++(ol Q).drop (k+1)))}:State)=t1:=⟨_,rfl⟩
 have hr:r.tagged.tag<t.cV:=by rw[← er];exact (h.tq.all _ (tI (by omega) (by omega))).2.1
 have h1:=h.less k
 rw[et] at h1;rw[er,et] at hy;have nt1:t1.cV=t.cV:=by rw[← et]
 have hf1:=h1.td.flat
 have MP:=h1.td.fl
 have k27:=kx hy (bA hf fw) (.eE _ (mW (.agg _ (jL _)) hf1 (.v _)))
 have hn:=h1.gi.sd.nn
 rw[cL Tryz.func206 rfl aEu rfl];by_cases g3:w.kind=3
 ·obtain⟨R',hR'⟩:=h1.O7 (r:=r) (by rw[nt1];exact hr)
  have ff:=hR'.td.flat
  have k72:=kx (c72 h1.td r) (bA hf1 (.agg _ (jL _))) ff
  simp only[Z8,seval,k27,dM,bt g3,k72];exact⟨_,by apply dC;rfl;all_goals simp only[aE,bK,Z8,seval,ff]<;>rfl,_,0,v,_,R',rfl,hR'⟩
 by_cases g4:w.kind=4
 ·obtain⟨R',hR'⟩:=h1.O7 (r:=r) (by rw[nt1];exact hr)
  have ff:=hR'.td.flat
  have k72:=kx (c72 h1.td r) (bA hf1 (.agg _ (jL _))) ff
  simp only[Z8,seval,k27,dM,bf g3,bt g4,k72];exact⟨_,by apply dC;rfl;all_goals simp only[aE,bK,Z8,seval,ff]<;>rfl,_,0,v,_,R',rfl,hR'⟩
 have DX:∀(st:St) (a g:Nat) (d:Option Nat),st.heap a g=some (.row 3 1 2 (aH [aJ v.ns t1.store.aG.dS.root,aJ v.ns t1.store.aG.fin.root]))→_:=fun st a g d hh=>aP9 v.ns h1.gi.up h1.gi.To hn (aJ v.ns r.block) w [aJ v.ns t1.store.aG.dS.root,aJ v.ns t1.store.aG.fin.root] (by show ((2:Nat):Int)<_;omega) st a g d hh
 rcases aFL v.ns (aJ v.ns r.block) w [aJ v.ns t1.store.aG.dS.root,aJ v.ns t1.store.aG.fin.root] with ⟨e,he,ej⟩|⟨Wg,hs,ej⟩
 ·rw[ej] at DX
  have hH:=h.halt true
  have fH:=hH.td.flat
  simp only[Z8,seval,k27,dM,bf g3,bf g4,Dr,h1.gi.sd.tree,iY _ _ hn,DX,bf he];exact⟨_,by apply dC;rfl;all_goals simp only[aE,bK,Z8,seval,fH]<;>rfl,_,21,v,Q,R,rfl,hH⟩
 rw[ej] at DX
 have Gd:(Wg.length:Int)<1000000:=by rw[hs.len];exact hn
 have fr:=dJ Wg t1.store.iK
 by_cases b0:0≤aJ Wg t1.store.iK
 case neg =>
  have T:=h1.tree hs t1.store.iK
  have ft:=T.td.flat
  simp only[Z8,seval,k27,dM,bf g3,bf g4,Dr,h1.gi.sd.tree,iY _ _ hn,iY _ _ Gd,DX,b0];exact⟨_,by apply dC;rfl;all_goals simp only[aE,bK,Z8,seval,ft]<;>rfl,_,0,_,_,R,rfl,T⟩
 by_cases b1:(nd Wg (aJ Wg t1.store.iK)).status=2
 case neg =>
  have T:=h1.tree hs t1.store.iK
  have ft:=T.td.flat
  simp only[Z8,seval,k27,dM,bf g3,bf g4,Dr,h1.gi.sd.tree,iY _ _ hn,iY _ _ Gd,DX,b0,fr.2,bf b1];exact⟨_,by apply dC;rfl;all_goals simp only[aE,bK,Z8,seval,ft]<;>rfl,_,0,_,_,R,rfl,T⟩
 have T:=h1.tree hs dT
 have ft:=T.td.flat
 simp only[Z8,seval,k27,dM,bf g3,bf g4,Dr,h1.gi.sd.tree,iY _ _ hn,iY _ _ Gd,DX,b0,fr.2,bt b1];exact⟨_,by apply dC;rfl;all_goals simp only[aE,bK,Z8,seval,ft]<;>rfl,_,0,_,_,R,rfl,T⟩
end Go.Ab.Tryz
