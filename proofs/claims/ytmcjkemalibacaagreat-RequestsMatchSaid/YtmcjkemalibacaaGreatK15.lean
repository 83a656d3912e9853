/-
  Part 15 of the proof: an evaluator of programs, its soundness, and what functions of this program compute.
-/
import Derived.Test.YtmcjkemalibacaaGreatK14
import Derived.Test.YtmcjkemalibacaaGreatK10
import Derived.Test.YtmcjkemalibacaaGreatK12
set_option linter.all false
set_option maxRecDepth 20000
set_option maxHeartbeats 40000000
namespace Go.Ab.Tryz
open Classical Go.Proofs Go.Ab
theorem LU {s:aP} (h:1≤s.cFg.qK) {x y:Int} (hx:0≤x) (hxy:x≤y) (hy:y<18446744073709551616):Bi s x≤Bi s y:=by
 have e:∀z:Int,0≤z→z<18446744073709551616→Bi s z=z / s.cFg.qK:=fun z h0 h1=>by
  unfold Bi;rw[Int.tdiv_eq_ediv_of_nonneg h0];have:=Int.ediv_le_self s.cFg.qK h0
  exact wrap_u64 _ (Int.ediv_nonneg h0 (by omega)) (by omega)
 rw[e x hx (by omega),e y (by omega) hy]
 exact Int.ediv_le_ediv (by omega) hxy
theorem aBq {acc:Bool × fR × fR} {n:Node} (h1:Rg acc.2.1.aL) (h2:Rg acc.2.2.aL) (hn:RB n.block):Rg (KU acc n).2.1.aL∧Rg (KU acc n).2.2.aL:=by
 unfold KU;split
 ·exact⟨h1,h2⟩
 ·refine⟨?_, ?_⟩
  ·dsimp only;split
   ·exact hn.pj
   ·exact h1
  ·dsimp only;split
   ·exact hn.pf
   ·exact h2
theorem aBr {ns:List Node} (h:∀n∈ns,RB n.block):Rg (Iz ns).pj.aL∧Rg (Iz ns).pf.aL:=by
 have key:∀(l:List Node) (acc:Bool × fR × fR),(∀n∈l,RB n.block)→Rg acc.2.1.aL→Rg acc.2.2.aL→Rg (l.foldl KU acc).2.1.aL∧Rg (l.foldl KU acc).2.2.aL:=by
  intro l;induction l with
  | nil=>intro acc _ h1 h2;exact⟨h1,h2⟩
  | cons n l ih =>
    intro acc hl h1 h2;have hs:=aBq h1 h2 (hl n (List.mem_cons_self ..))
    exact ih _ (fun x hx=>hl x (List.mem_cons_of_mem _ hx)) hs.1 hs.2
 exact key ns _ h ⟨by show (0:Int)≤0;omega,by show (0:Int)<_;omega⟩ ⟨by show (0:Int)≤0;omega,by show (0:Int)<_;omega⟩
theorem Im (s:aP) (X:AV):(vZ s X).now=s.now:=rfl
theorem xZ (s:aP) (X:AV):(vZ s X).dM.early=X:=rfl
theorem Wk {s:aP} {v:SV} (h:SD s v) {L:List rQ} (hL:∀x∈L,Flat x.eU) (st:St) {g:Nat} (hh:st.heap 61 g=some (.row 87 67 L.length (dE L))):fO st (.agg (aB (vZ s (.own 61 g))))=some (.agg (aB (vZ s (ov dE (some L))))):=by
 have jJ:=h.fl
 have hx:=M1 L.length L hL
 unfold vZ;simp only[bP,gI,bG,hh,hx,cX,dY,jJ,cU];rfl
theorem aKO {call:Nat→List AV→Option AV} {inl:Nat→List AV→St→Option (AV × St)} {ops:Array Oper} {st:St} {T:Nat} {pos:String} {eN:Array Edge} (x:Array Operand) (y:Array Nat) :
 gN Tryz.prog true call inl ops ⟨some 80,.call ⟨.value (.func 44),x,y⟩,T,pos,eN,none⟩ st=cD (inl 44 (x.toList.map st.ev) st) fun r=>some ((st.back r.2).put (some 80) r.1):=SY 44 x y (Wl rfl)
noncomputable def Io:Code:=kJ (Tryz.f202.body.getD .skip)
def aPx (c0:Config) (E:Option (List rQ)) (q:Int) (m:Nat) (st:St):Prop:=∃(k:Nat) (S:aP) (w:SV) (X:AV),(st.env 1=.ptr 1 0 0∧st.heap 1 0=some (.cells (aB (vZ S X)))∧st.env 2=.ptr 2 0 0∧st.heap 2 0=some (.cells (aB eF))∧st.env 5=ov dE E∧st.env 6=.v (.int .i64 k)∧0<st.aQ 1∧0<st.aQ 2)∧((X=.v (.slice none 0 0)∧w.E=none)∨∃g L,w.E=some L∧X=.own 61 g∧g<st.aQ 61∧st.heap 61 g=some (.row 87 67 L.length (dE L)))∧GI (vZ S (ov dE w.E)) w q∧RG (vZ S (ov dE w.E)) w∧S.cFg=c0∧(ol w.E).length≤k∧k≤(ol E).length∧m=(ol E).length-k
def aBs (c0:Config) (q:Int) (e:Ex) (st:St):Prop:=e=.exit 0∧∃(S:aP) (w:SV) (X:AV),(st.env 1=.ptr 1 0 0∧st.heap 1 0=some (.cells (aB (vZ S X)))∧st.env 2=.ptr 2 0 0∧st.heap 2 0=some (.cells (aB eF)))∧((X=.v (.slice none 0 0)∧w.E=none)∨∃g L,w.E=some L∧X=.own 61 g∧st.heap 61 g=some (.row 87 67 L.length (dE L)))∧GI (vZ S (ov dE w.E)) w q∧RG (vZ S (ov dE w.E)) w∧S.cFg=c0
theorem M3 {c0:Config} {E:Option (List rQ)} {q:Int} (hE:∀a∈ol E,Cj a) (hEa:∀a∈ol E,∃V,a.eU=ov aK (some V)∧V≠[]) (nE:((ol E).length:Int)≤c0.mA.pR) (nE':((ol E).length:Int)<900000) {m:Nat} {st:St} (hs:aPx c0 E q m st):∃e st',wA Tryz.prog true Io st=some (e,st')∧aBs c0 q e st':=by
 have key:∃r,cD (wA Tryz.prog true Io st) some=some r∧aBs c0 q r.1 r.2:=by
  unfold Io;simp only[Tryz.f202,Option.getD_some,kJ];refine mC (fun m st=>∃(k:Nat) (S:aP) (w:SV) (X:AV),(st.env 1=.ptr 1 0 0∧st.heap 1 0=some (.cells (aB (vZ S X)))∧st.env 2=.ptr 2 0 0∧st.heap 2 0=some (.cells (aB eF))∧st.env 5=ov dE E∧st.env 6=.v (.int .i64 k)∧0<st.aQ 1∧0<st.aQ 2)∧((X=.v (.slice none 0 0)∧w.E=none)∨∃g L,w.E=some L∧X=.own 61 g∧g<st.aQ 61∧st.heap 61 g=some (.row 87 67 L.length (dE L)))∧GI (vZ S (ov dE w.E)) w q∧RG (vZ S (ov dE w.E)) w∧S.cFg=c0∧(ol w.E).length≤k∧k≤(ol E).length∧m=(ol E).length-k) (fun e st=>e=.exit 0∧∃(S:aP) (w:SV) (X:AV),(st.env 1=.ptr 1 0 0∧st.heap 1 0=some (.cells (aB (vZ S X)))∧st.env 2=.ptr 2 0 0∧st.heap 2 0=some (.cells (aB eF)))∧((X=.v (.slice none 0 0)∧w.E=none)∨∃g L,w.E=some L∧X=.own 61 g∧st.heap 61 g=some (.row 87 67 L.length (dE L)))∧GI (vZ S (ov dE w.E)) w q∧RG (vZ S (ov dE w.E)) w∧S.cFg=c0) m ?step ?start ?rest
  case start=>exact hs
  case rest=>exact fun e st h=>⟨_,rfl,h⟩
  case step =>
   clear hs
   rintro m st ⟨k,S,w,X,hI,hX,hG,oD,hC,hF,hk,hm⟩
   by_cases bB:(k:Int)<(ol E).length
   case neg =>
    have hX':(X=.v (.slice none 0 0)∧w.E=none)∨∃g L,w.E=some L∧X=.own 61 g∧st.heap 61 g=some (.row 87 67 L.length (dE L)):=hX.imp id fun ⟨g,L,h1,h2,_,h4⟩=>⟨g,L,h1,h2,h4⟩
    apply JK (.exit 0)
    ·simp only[ZG,seval,Bool.false_and,Prod.mk.injEq,As,hI,bB];rfl
    ·exact⟨rfl,S,w,X,by simp only[E8,seval,hI],by simpa only[E8,seval] using hX',hG,oD,hC⟩
   have q0:(0:Int)≤k:=by omega
   have hw:IntKind.i64.wrap ((k:Int)+1)=((k+1:Nat):Int):=by rw[qA _ (by omega) (by omega)];omega
   obtain⟨a,ea⟩:∃a,gx Jb (ol E) (k:Int)=a:=⟨_,rfl⟩
   have ha:Cj a:=by rw[← ea];exact hE _ (uY q0 bB)
   have hEa':∃V,a.eU=ov aK (some V)∧V≠[]:=by rw[← ea];exact hEa _ (uY q0 bB)
   obtain⟨V,hV,nV⟩:=id ha
   have fa:Flat (.agg (gV a)):=(yN a).2 ha.fl
   have fl9:=hG.sd.flat
   by_cases g1:S.now≤a.slot
   · -- kept
    rcases hX with ⟨rfl,Wm⟩|⟨g,L,Wm,rfl,hg,hh⟩
    ·have Nf:=hG.early (some [a]) (by intro b hb;rw[show b=a by simpa [ol] using hb];exact ha) (by show ((1:Nat):Int)≤S.cFg.mA.pR;rw[hC];omega)
     have Cp:RG (vZ S (ov dE (some [a]))) { w with E:=some [a]}:=⟨oD.now,oD.j,oD.f,oD.nd,oD.or,oD.rt,oD.fe,oD.ds,oD.tb,⟨oD.ne.q,by simp,oD.ne.o,oD.ne.t,fun b hb=>by rw[show b=a by simpa [ol] using hb];exact hEa' ,oD.ne.tb⟩⟩
     have an1:=FO a
     apply Ea ((ol E).length-(k+1))
     ·simp only[ZG,seval,Bool.false_and,Prod.mk.injEq,As,hI,bB,q0,ea,Im,xZ,g1,fa,an1,hw];rfl
     ·exact⟨k+1,S,{ w with E:=some [a]},_,by and_intros<;>(simp only[E8,seval,hI]<;>rfl),.inr ⟨_,[a],rfl,rfl,by simp only[E8,seval]<;>omega,by simp only[E8,seval]<;>rfl⟩,Nf,Cp,hC,by show 1≤k+1;omega,by omega,rfl⟩
    ·have hlL:L.length≤k:=by rw[Wm] at hF;exact hF
     have nL:(L.length:Int)<1000000:=by omega
     have vC:(g=st.aQ 61)=False:=eq_false (by omega)
     have Nf:=hG.early (some (L++[a])) (by
      intro b hb;rcases List.mem_append.1 (show b∈L++[a] from hb) with hb|hb
      ·exact hG.sd.eV b (by rw[Wm];exact hb)
      ·rw[List.mem_singleton] at hb;rw[hb];exact ha) (by show (((L++[a]).length:Nat):Int)≤S.cFg.mA.pR;rw[hC,List.length_append,List.length_cons,List.length_nil];omega)
     have Cp:RG (vZ S (ov dE (some (L++[a])))) { w with E:=some (L++[a])}:=⟨oD.now,oD.j,oD.f,oD.nd,oD.or,oD.rt,oD.fe,oD.ds,oD.tb,⟨oD.ne.q,by simp,oD.ne.o,oD.ne.t,fun b hb=>by rcases List.mem_append.1 (show b∈L++[a] from hb) with hb|hb;exact oD.ne.ea b (by rw[Wm];exact hb);rw[List.mem_singleton] at hb;rw[hb];exact hEa',oD.ne.tb⟩⟩
     apply Ea ((ol E).length-(k+1))
     ·simp only[ZG,seval,Bool.false_and,Prod.mk.injEq,As,hI,hh,vC,bB,q0,ea,Im,xZ,g1,fa,Uh _ _ _ _ nL,hw];rfl
     ·exact⟨k+1,S,{ w with E:=some (L++[a])},_,by and_intros<;>(simp only[E8,seval,hI]<;>rfl),.inr ⟨_,L++[a],rfl,rfl,by simp only[E8,seval]<;>omega,by simp only[E8,seval]<;>rfl⟩,Nf,Cp,hC,by show (L++[a]).length≤k+1;rw[List.length_append,List.length_cons,List.length_nil];omega,by omega,rfl⟩
   ·have c39':=c39 hG.sd hG.up hG.sp a V hV (by omega)
    have k39:∀(st:St) (d:Option Nat),fO st (.agg (aB (vZ S X)))=some (.agg (aB (vZ S (ov dE w.E))))→aN (aC Tryz.prog) 39 [.agg (aB (vZ S X)),.agg (gV a)] st d=some { dst:=d,val:=.eE [.v (.bool (Ga (vZ S (ov dE w.E)) w a (ol V)).1),.v (.int .i64 (Ga (vZ S (ov dE w.E)) w a (ol V)).2)]}:=by
     intro st d hx;rw[mU,List.map_cons,List.map_cons,List.map_nil,hx,dX fa,bR,bR,gR];exact ZI c39' (by intro x hx;simp only[List.mem_cons,List.not_mem_nil,or_false] at hx;rcases hx with rfl|rfl<;>exact .v _) (.eE _ (bE (.v _) (.v _)))
    have Sb:GI (vZ (Pz S w a (ol V)) (ov dE w.E)) { w with L:=some (tV (ol w.L) a.target.aL a.root (ol V)).1 } q:=hG.cast a (ol V)
    have Cq:RG (vZ (Pz S w a (ol V)) (ov dE w.E)) { w with L:=some (tV (ol w.L) a.target.aL a.root (ol V)).1 }:=⟨oD.now,oD.j,oD.f,oD.nd,oD.or,oD.rt,oD.fe,oD.ds,oD.tb,⟨oD.ne.q,oD.ne.e,oD.ne.o,oD.ne.t,oD.ne.ea,oD.ne.tb⟩⟩
    rcases hX with ⟨rfl,Wm⟩|⟨g,L,Wm,rfl,hg,hh⟩
    ·have e0:ov dE w.E=.v (.slice none 0 0):=by rw[Wm];rfl
     have k39n:=fun st d=>k39 st d (by rw[e0];rw[e0] at fl9;exact dX fl9)
     by_cases g2:(Ga (vZ S (ov dE w.E)) w a (ol V)).2=0
     case neg =>
      apply Ea ((ol E).length-(k+1))
      ·simp only[ZG,seval,Bool.false_and,Prod.mk.injEq,As,hI,bB,q0,ea,Im,xZ,g1,k39n,eA,bf g2,hw];rfl
      ·exact⟨k+1,S,w,_,by and_intros<;>(simp only[E8,seval,hI]<;>rfl),.inl ⟨rfl,Wm⟩,hG,oD,hC,by omega,by omega,rfl⟩
     have hr:∀x∈ol V,0≤x∧x<(ol w.L).length:=by rw[hG.KY];exact SJ (FE g2)
     obtain⟨G,Qe⟩:=aD9 hG.sd (.v (.slice none 0 0)) a V hV (by omega) hr
     have kG:∀st,Co Tryz.prog 44 [.agg (aB (vZ S (.v (.slice none 0 0)))),.agg (gV a)] st=some (.agg (aB (vZ (Pz S w a (ol V)) (.v (.slice none 0 0)))),G st):=fun st=>(Qe st).1
     have f1:∀st:St,0<st.aQ 1→(G st).heap 1 0=st.heap 1 0:=fun st h=>(Qe st).2.1 1 0 h
     have f2:∀st:St,0<st.aQ 2→(G st).heap 2 0=st.heap 2 0:=fun st h=>(Qe st).2.1 2 0 h
     have c1:∀st:St,0<st.aQ 1→(0<(G st).aQ 1)=True:=fun st h=>eq_true (Nat.lt_of_lt_of_le h ((Qe st).2.2 1))
     have c2:∀st:St,0<st.aQ 2→(0<(G st).aQ 2)=True:=fun st h=>eq_true (Nat.lt_of_lt_of_le h ((Qe st).2.2 2))
     apply Ea ((ol E).length-(k+1))
     ·simp only[ZG,seval,Bool.false_and,Prod.mk.injEq,As,hI,bB,q0,ea,Im,xZ,g1,k39n,eA,bt g2,aKO,kG,f1,fG,dH,bX,hw];rfl
     ·exact⟨k+1,Pz S w a (ol V),{ w with L:=some (tV (ol w.L) a.target.aL a.root (ol V)).1 },_,⟨by simp only[E8,seval,hI,fG],by simp only[E8,seval,hI,dH,bX]<;>rfl,by simp only[E8,seval,hI,fG],by simp only[E8,seval,hI,dH,bX,f2],by simp only[E8,seval,hI,fG],by simp only[E8,seval,hI,fG],by simp only[E8,seval,hI,bX,c1],by simp only[E8,seval,hI,bX,c2]⟩,.inl ⟨rfl,Wm⟩,Sb,Cq,hC,by show (ol w.E).length≤k+1;omega,by omega,rfl⟩
    ·have hLf:∀x∈L,Flat x.eU:=fun x hx=>(hG.sd.eV x (by rw[Wm];exact hx)).fl
     have k39o:∀(st:St) (d:Option Nat),st.heap 61 g=some (.row 87 67 L.length (dE L))→_:=fun st d h61=>k39 st d (by rw[Wm];exact Wk hG.sd hLf st h61)
     by_cases g2:(Ga (vZ S (ov dE w.E)) w a (ol V)).2=0
     case neg =>
      apply Ea ((ol E).length-(k+1))
      ·simp only[ZG,seval,Bool.false_and,Prod.mk.injEq,As,hI,hh,bB,q0,ea,Im,xZ,g1,k39o,eA,bf g2,hw];rfl
      ·exact⟨k+1,S,w,_,by and_intros<;>(simp only[E8,seval,hI]<;>rfl),.inr ⟨g,L,Wm,rfl,by simp only[E8,seval]<;>omega,by simp only[E8,seval,hh]⟩,hG,oD,hC,by omega,by omega,rfl⟩
     have hr:∀x∈ol V,0≤x∧x<(ol w.L).length:=by rw[hG.KY];exact SJ (FE g2)
     obtain⟨G,Qe⟩:=aD9 hG.sd (.own 61 g) a V hV (by omega) hr
     have kG:∀st,Co Tryz.prog 44 [.agg (aB (vZ S (.own 61 g))),.agg (gV a)] st=some (.agg (aB (vZ (Pz S w a (ol V)) (.own 61 g))),G st):=fun st=>(Qe st).1
     have f1:∀st:St,0<st.aQ 1→(G st).heap 1 0=st.heap 1 0:=fun st h=>(Qe st).2.1 1 0 h
     have f2:∀st:St,0<st.aQ 2→(G st).heap 2 0=st.heap 2 0:=fun st h=>(Qe st).2.1 2 0 h
     have f3:∀st:St,g<st.aQ 61→(G st).heap 61 g=st.heap 61 g:=fun st h=>(Qe st).2.1 61 g h
     have c1:∀st:St,0<st.aQ 1→(0<(G st).aQ 1)=True:=fun st h=>eq_true (Nat.lt_of_lt_of_le h ((Qe st).2.2 1))
     have c2:∀st:St,0<st.aQ 2→(0<(G st).aQ 2)=True:=fun st h=>eq_true (Nat.lt_of_lt_of_le h ((Qe st).2.2 2))
     have c3:∀st:St,g<st.aQ 61→(g<(G st).aQ 61)=True:=fun st h=>eq_true (Nat.lt_of_lt_of_le h ((Qe st).2.2 61))
     apply Ea ((ol E).length-(k+1))
     ·simp only[ZG,seval,Bool.false_and,Prod.mk.injEq,As,hI,hh,bB,q0,ea,Im,xZ,g1,k39o,eA,bt g2,aKO,kG,f1,fG,dH,bX,hw];rfl
     ·exact⟨k+1,Pz S w a (ol V),{ w with L:=some (tV (ol w.L) a.target.aL a.root (ol V)).1 },_,⟨by simp only[E8,seval,hI,fG],by simp only[E8,seval,hI,dH,bX]<;>rfl,by simp only[E8,seval,hI,fG],by simp only[E8,seval,hI,dH,bX,f2],by simp only[E8,seval,hI,fG],by simp only[E8,seval,hI,fG],by simp only[E8,seval,hI,bX,c1],by simp only[E8,seval,hI,bX,c2]⟩,.inr ⟨g,L,Wm,rfl,by simp only[E8,seval,bX,hg,c3],by simp only[E8,seval,dH,bX,hg,hh,f3]⟩,Sb,Cq,hC,by show (ol w.E).length≤k+1;omega,by omega,rfl⟩
 obtain⟨r,h,hq⟩:=key
 cases hx:wA Tryz.prog true Io st with
 | none=>rw[hx] at h;cases h
 | some y=>rw[hx] at h;simp only[cU,Option.some.injEq] at h;subst h;exact⟨y.1,y.2,rfl,hq⟩
theorem aPy {s:aP} {v:SV} {q:Int} (h:GI s v q) (r:RG s v):∃x,aC Tryz.prog 202 [.agg (aB s)]=some x∧StR s q x:=by
 have hz:=Ig
 have hf:=h.sd.flat
 have Ma:=h.sp
 rw[cG Tryz.func202 rfl aKQ (by kernel_rfl) rfl]
 by_cases g1:1099511627776≤s.now
 ·simp only[ZG,seval,Bool.false_and,Prod.mk.injEq,As,g1];exact⟨_,by apply dO;rfl;all_goals simp only[aE,bJ,Z8,seval,hz]<;>rfl,eF,3,rfl,hz,by decide,fun h=>by cases h⟩
 have hw:IntKind.u64.wrap (s.now+1)=s.now+1:=wrap_u64 _ (by have:=r.now.1;omega) (by have:=r.now.2;omega)
 obtain⟨s1,hs1⟩:∃s1:aP,s1={ s with now:=s.now+1,iD:=dK }:=⟨_,rfl⟩
 have h1:GI s1 v q:=by
  rw[hs1];exact⟨⟨h.sd.jI,h.sd.dV,h.sd.gU,h.sd.early,h.sd.bU,h.sd.tree,h.sd.tables,h.sd.eV,h.sd.tB,h.sd.nB,h.sd.nL,h.sd.nQ,h.sd.nE,h.sd.nO,h.sd.nT,h.sd.nn⟩,h.up,h.KC,h.pos,h.nl,h.SA,h.qK,h.KY,h.nB,h.nO,h.KZ,h.nE,h.QQ,h.nT,h.SC,h.nQ,h.I8,h.dN⟩
 have r1:RG s1 v:=by
  rw[hs1];exact⟨⟨by show 0≤s.now+1;have:=r.now.1;omega,by show s.now+1≤_;omega⟩,r.j,r.f,fun n hn=>⟨(r.nd n hn).1,by show n.block.slot≤s.now+1;have:=(r.nd n hn).2;omega⟩,r.or,r.rt,⟨r.fe.1,Int.le_trans r.fe.2 (show Bi s s.now≤Bi s (s.now+1) from LU h.qK.1 r.now.1 (by omega) (by have:=r.now.2;omega))⟩,r.ds,r.tb,r.ne⟩
 have c1:s1.cFg=s.cFg:=by rw[hs1]
 have nE:=h.nE
 have QQ:=h.QQ
 subst hs1;have uE:∀(S:aP) (w:SV) (a b:fR),(Gp S w a b).E=w.E:=fun S w a b=>by unfold Gp;split;rfl;split<;>rfl
 by_cases g2:(s.now+1).tmod s.cFg.qK=0
 case neg =>
  simp only[ZG,seval,Bool.false_and,Prod.mk.injEq,As,g1,hw,Ma,bf g2,h.sd.early];refine Ip (a:=Io) (aBs s.cFg q) (M3 (E:=v.E) h.sd.eV r.ne.ea (by omega) (by omega) (m:=(ol v.E).length) ⟨0,{ s with now:=s.now+1,iD:=dK },{ v with E:=none },.v (.slice none 0 0),⟨by simp only[E8,seval],by simp only[E8,seval]<;>rfl,by simp only[E8,seval],by simp only[E8,seval],by simp only[E8,seval],by simp only[E8,seval]<;>rfl,by simp only[E8,seval]<;>omega,by simp only[E8,seval]<;>omega⟩,.inl ⟨rfl,rfl⟩,h1.early none (by simp[ol]) (by show ((0:Nat):Int)≤_;rw[c1];omega),⟨r1.now,r1.j,r1.f,r1.nd,r1.or,r1.rt,r1.fe,r1.ds,r1.tb,⟨r1.ne.q,nofun,r1.ne.o,r1.ne.t,(fun a ha=>by cases ha),r1.ne.tb⟩⟩,c1,by simp[ol],by omega,by omega⟩) ?rest
  rintro e st ⟨rfl,S,w,X,hI,hX,hG,oD,hC⟩
  have AF:=hG.sd.flat
  rcases hX with ⟨rfl,Wm⟩|⟨g,L,Wm,rfl,hh⟩
  ·rw[Wm] at AF hG oD;have hf1:Flat (.agg (aB (vZ S (.v (.slice none 0 0))))):=AF
   simp only[ZG,seval,Bool.false_and,Prod.mk.injEq,As,hI];exact⟨_,by apply dO;rfl;all_goals simp only[aE,bJ,Z8,seval,hI,hf1]<;>rfl,_,0,rfl,hf1,by decide,fun _=>⟨w,hG,oD,hC⟩⟩
  ·have hLf:∀x∈L,Flat x.eU:=fun x hx=>(hG.sd.eV x (by rw[Wm];exact hx)).fl
   have hex:∀st:St,st.heap 61 g=some (.row 87 67 L.length (dE L))→fO st (.agg (aB (vZ S (.own 61 g))))=some (.agg (aB (vZ S (ov dE (some L))))):=fun st hh=>Wk hG.sd hLf st hh
   rw[Wm] at AF hG oD;simp only[ZG,seval,Bool.false_and,Prod.mk.injEq,As,hI];exact⟨_,by apply dO;rfl;all_goals simp only[aE,bJ,Z8,seval,hI,hh,hex]<;>rfl,_,0,rfl,AF,by decide,fun _=>⟨w,hG,oD,hC⟩⟩
 have k67':=k67 h1.sd
 have pv:=aBr fun n hn=>(r1.nd n hn).1
 have k61':=k61 h1.sd h1.up h1.sp (Iz v.ns).pj (Iz v.ns).pf
 have h2:=h1.dJ (Iz v.ns).pj (Iz v.ns).pf
 have r2:=RG.dJ r1 pv.1 pv.2
 have c2:=vY { s with now:=s.now+1,iD:=dK } v (Iz v.ns).pj (Iz v.ns).pf
 have e2:=h2.sd.early
 rw[uE] at e2;obtain⟨S2,hS2⟩:∃S2,wR { s with now:=s.now+1,iD:=dK } v (Iz v.ns).pj (Iz v.ns).pf=S2:=⟨_,rfl⟩
 rw[hS2] at k61' h2 r2 c2 e2
 have c3:S2.cFg=s.cFg:=c2
 simp only[ZG,seval,Bool.false_and,Prod.mk.injEq,As,g1,hw,Ma,bt g2,k67',k61',e2];refine Ip (a:=Io) (aBs s.cFg q) (M3 (E:=v.E) h.sd.eV r.ne.ea (by omega) (by omega) (m:=(ol v.E).length) ⟨0,S2,{ Gp { s with now:=s.now+1,iD:=dK } v (Iz v.ns).pj (Iz v.ns).pf with E:=none },.v (.slice none 0 0),⟨by simp only[E8,seval],by simp only[E8,seval]<;>rfl,by simp only[E8,seval],by simp only[E8,seval],by simp only[E8,seval],by simp only[E8,seval]<;>rfl,by simp only[E8,seval]<;>omega,by simp only[E8,seval]<;>omega⟩,.inl ⟨rfl,rfl⟩,h2.early none (by simp[ol]) (by show ((0:Nat):Int)≤_;rw[c3];omega),⟨r2.now,r2.j,r2.f,r2.nd,r2.or,r2.rt,r2.fe,r2.ds,r2.tb,⟨r2.ne.q,nofun,r2.ne.o,r2.ne.t,(fun a ha=>by cases ha),r2.ne.tb⟩⟩,c3,by simp[ol],by omega,by omega⟩) ?LA
 rintro e st ⟨rfl,S,w,X,hI,hX,hG,oD,hC⟩
 have AF:=hG.sd.flat
 rcases hX with ⟨rfl,Wm⟩|⟨g,L,Wm,rfl,hh⟩
 ·rw[Wm] at AF hG oD;have hf1:Flat (.agg (aB (vZ S (.v (.slice none 0 0))))):=AF
  simp only[ZG,seval,Bool.false_and,Prod.mk.injEq,As,hI];exact⟨_,by apply dO;rfl;all_goals simp only[aE,bJ,Z8,seval,hI,hf1]<;>rfl,_,0,rfl,hf1,by decide,fun _=>⟨w,hG,oD,hC⟩⟩
 ·have hLf:∀x∈L,Flat x.eU:=fun x hx=>(hG.sd.eV x (by rw[Wm];exact hx)).fl
  have hex:∀st:St,st.heap 61 g=some (.row 87 67 L.length (dE L))→fO st (.agg (aB (vZ S (.own 61 g))))=some (.agg (aB (vZ S (ov dE (some L))))):=fun st hh=>Wk hG.sd hLf st hh
  rw[Wm] at AF hG oD;simp only[ZG,seval,Bool.false_and,Prod.mk.injEq,As,hI];exact⟨_,by apply dO;rfl;all_goals simp only[aE,bJ,Z8,seval,hI,hh,hex]<;>rfl,_,0,rfl,AF,by decide,fun _=>⟨w,hG,oD,hC⟩⟩
def Cr (t:State) (X Y:AV) (tag:Int):State:={ t with dQ:=X,mV:=Y,cJ:=tag }
theorem aKR:aF 0 3 (some 3)=[]∧aF 1 8 (some 8)=[]∧aF 2 8 (some 14)=[]∧aF 3 5 (some 21)=[]∧aF 4 2 (some 25)=[]:=⟨rfl,rfl,rfl,rfl,rfl⟩
theorem aEc (t:State) (Y:AV) (o:Option (List Request)) (tag:Int) (hn:((ol o).length:Int)<1000000) (r:cM) (n:Int) :
 ∃G:St→St,∀st,Co Tryz.prog 86 [.agg (aI (Cr t (ov aA o) Y tag)),.agg (aZ r),.v (.int .i64 n)] st=some (.agg (aI (Cr t (.own 19 (st.aQ 19)) Y (IntKind.u64.wrap (tag+1)))),G st)∧Gf st (G st)∧(G st).heap 19 (st.aQ 19)=some (.row 63 35 (ol o++[(⟨⟨tag⟩,r,n,0⟩:Request)]).length (aA (ol o++[(⟨⟨tag⟩,r,n,0⟩:Request)])))∧st.aQ 19<(G st).aQ 19:=by
 have one:∀st,∃st',Co Tryz.prog 86 [.agg (aI (Cr t (ov aA o) Y tag)),.agg (aZ r),.v (.int .i64 n)] st=some (.agg (aI (Cr t (.own 19 (st.aQ 19)) Y (IntKind.u64.wrap (tag+1)))),st')∧Gf st (st')∧(st').heap 19 (st.aQ 19)=some (.row 63 35 (ol o++[(⟨⟨tag⟩,r,n,0⟩:Request)]).length (aA (ol o++[(⟨⟨tag⟩,r,n,0⟩:Request)])))∧st.aQ 19<(st').aQ 19:=by
  intro st;by_cases hy:True
  case neg=>exact⟨st,absurd trivial hy⟩
  suffices h:∃st',Co Tryz.prog 86 [.agg (aI (Cr t (ov aA o) Y tag)),.agg (aZ r),.v (.int .i64 n)] st=some (.agg (aI (Cr t (.own 19 (st.aQ 19)) Y (IntKind.u64.wrap (tag+1)))),st')∧Gf st (st')∧(st').heap 19 (st.aQ 19)=some (.row 63 35 (ol o++[(⟨⟨tag⟩,r,n,0⟩:Request)]).length (aA (ol o++[(⟨⟨tag⟩,r,n,0⟩:Request)])))∧st.aQ 19<(st').aQ 19 by
   obtain⟨st',h⟩:=h
   exact⟨st',h⟩
  have e1:(Cr t (ov aA o) Y tag).dQ=ov aA o:=rfl
  have e2:(Cr t (ov aA o) Y tag).cJ=tag:=rfl
  have zR:bW.due=0:=rfl
  rw[FK Tryz.prog Tryz.func86 rfl (by kernel_rfl)]
  simp only[ZG,seval,Bool.false_and,Prod.mk.injEq,aKR,e1,e2,zR,qN _ hn,sX _ _ _ _ hn];refine⟨_,Wg (P:=Tryz.prog) (fn:=Tryz.f86) (r:=.cell 6 58) (x:=.agg (aI (Cr t (.own 19 (st.aQ 19)) Y (IntKind.u64.wrap (tag+1))))) (.inl rfl) rfl ?h1,⟨fun x g hg=>?h2,fun x=>?h3⟩, ?h4, ?h5⟩
  case h1 =>
   rw[Ah];simp only[bJ,Z8,seval];rfl
  case h2 =>
   have n3:(x=3∧g=st.aQ 3)=False:=eq_false (by rintro⟨rfl,rfl⟩;omega)
   have n4:(x=4∧g=st.aQ 4)=False:=eq_false (by rintro⟨rfl,rfl⟩;omega)
   have n6:(x=6∧g=st.aQ 6)=False:=eq_false (by rintro⟨rfl,rfl⟩;omega)
   have n7:(x=7∧g=st.aQ 7)=False:=eq_false (by rintro⟨rfl,rfl⟩;omega)
   have n16:(x=16∧g=st.aQ 16)=False:=eq_false (by rintro⟨rfl,rfl⟩;omega)
   have n18:(x=18∧g=st.aQ 18)=False:=eq_false (by rintro⟨rfl,rfl⟩;omega)
   have n19:(x=19∧g=st.aQ 19)=False:=eq_false (by rintro⟨rfl,rfl⟩;omega)
   simp only[E8,seval,dH,bX,n3,n4,n6,n7,n16,n18,n19,if_false]
  case h3 =>
   simp only[E8,seval,dH,bX];split<;>(try split)<;>(try split)<;>(try split)<;>(try split)<;>(try split)<;>(try split)<;>subst_vars<;>omega
  case h4=>simp only[E8,seval,dH,bX]
  case h5=>simp only[E8,seval,dH,bX]<;>omega
 exact⟨fun st=>Classical.choose (one st),fun st=>Classical.choose_spec (one st)⟩
theorem M4 (t:State) (Y:AV) (g0:Nat) (L:List Request) (tag:Int) (hn:((L).length:Int)<1000000) (r:cM) (n:Int) :
 ∃G:St→St,∀st,(st.heap 19 g0=some (.row 63 35 L.length (aA L))∧g0<st.aQ 19)→Co Tryz.prog 86 [.agg (aI (Cr t (.own 19 g0) Y tag)),.agg (aZ r),.v (.int .i64 n)] st=some (.agg (aI (Cr t (.own 19 (st.aQ 19)) Y (IntKind.u64.wrap (tag+1)))),G st)∧Gf st (G st)∧(G st).heap 19 (st.aQ 19)=some (.row 63 35 (L++[(⟨⟨tag⟩,r,n,0⟩:Request)]).length (aA (L++[(⟨⟨tag⟩,r,n,0⟩:Request)])))∧st.aQ 19<(G st).aQ 19:=by
 have one:∀st,∃st',(st.heap 19 g0=some (.row 63 35 L.length (aA L))∧g0<st.aQ 19)→Co Tryz.prog 86 [.agg (aI (Cr t (.own 19 g0) Y tag)),.agg (aZ r),.v (.int .i64 n)] st=some (.agg (aI (Cr t (.own 19 (st.aQ 19)) Y (IntKind.u64.wrap (tag+1)))),st')∧Gf st (st')∧(st').heap 19 (st.aQ 19)=some (.row 63 35 (L++[(⟨⟨tag⟩,r,n,0⟩:Request)]).length (aA (L++[(⟨⟨tag⟩,r,n,0⟩:Request)])))∧st.aQ 19<(st').aQ 19:=by
  intro st;by_cases hy:(st.heap 19 g0=some (.row 63 35 L.length (aA L))∧g0<st.aQ 19)
  case neg=>exact⟨st,fun h=>absurd h hy⟩
  suffices h:∃st',Co Tryz.prog 86 [.agg (aI (Cr t (.own 19 g0) Y tag)),.agg (aZ r),.v (.int .i64 n)] st=some (.agg (aI (Cr t (.own 19 (st.aQ 19)) Y (IntKind.u64.wrap (tag+1)))),st')∧Gf st (st')∧(st').heap 19 (st.aQ 19)=some (.row 63 35 (L++[(⟨⟨tag⟩,r,n,0⟩:Request)]).length (aA (L++[(⟨⟨tag⟩,r,n,0⟩:Request)])))∧st.aQ 19<(st').aQ 19 by
   obtain⟨st',h⟩:=h
   exact⟨st',fun _=>h⟩
  have e1:(Cr t (.own 19 g0) Y tag).dQ=.own 19 g0:=rfl
  have e2:(Cr t (.own 19 g0) Y tag).cJ=tag:=rfl
  have zR:bW.due=0:=rfl
  have vC:(g0=st.aQ 19)=False:=eq_false (by have:=hy.2;omega)
  rw[FK Tryz.prog Tryz.func86 rfl (by kernel_rfl)]
  simp only[ZG,seval,Bool.false_and,Prod.mk.injEq,aKR,e1,e2,zR,hy.1,vC,qN _ hn,sX _ _ _ _ hn];refine⟨_,Wg (P:=Tryz.prog) (fn:=Tryz.f86) (r:=.cell 6 58) (x:=.agg (aI (Cr t (.own 19 (st.aQ 19)) Y (IntKind.u64.wrap (tag+1))))) (.inl rfl) rfl ?h1,⟨fun x g hg=>?h2,fun x=>?h3⟩, ?h4, ?h5⟩
  case h1 =>
   rw[Ah];simp only[bJ,Z8,seval];rfl
  case h2 =>
   have n3:(x=3∧g=st.aQ 3)=False:=eq_false (by rintro⟨rfl,rfl⟩;omega)
   have n4:(x=4∧g=st.aQ 4)=False:=eq_false (by rintro⟨rfl,rfl⟩;omega)
   have n6:(x=6∧g=st.aQ 6)=False:=eq_false (by rintro⟨rfl,rfl⟩;omega)
   have n7:(x=7∧g=st.aQ 7)=False:=eq_false (by rintro⟨rfl,rfl⟩;omega)
   have n16:(x=16∧g=st.aQ 16)=False:=eq_false (by rintro⟨rfl,rfl⟩;omega)
   have n18:(x=18∧g=st.aQ 18)=False:=eq_false (by rintro⟨rfl,rfl⟩;omega)
   have n19:(x=19∧g=st.aQ 19)=False:=eq_false (by rintro⟨rfl,rfl⟩;omega)
   simp only[E8,seval,dH,bX,n3,n4,n6,n7,n16,n18,n19,if_false]
  case h3 =>
   simp only[E8,seval,dH,bX];split<;>(try split)<;>(try split)<;>(try split)<;>(try split)<;>(try split)<;>(try split)<;>subst_vars<;>omega
  case h4=>simp only[E8,seval,dH,bX]
  case h5=>simp only[E8,seval,dH,bX]<;>omega
 exact⟨fun st=>Classical.choose (one st),fun st=>Classical.choose_spec (one st)⟩
noncomputable def Kw (ns:List Node) (now:Int) (a:(Option (List Request) × Int) × List Request) (r:Request):(Option (List Request) × Int) × List Request :=
 if now<r.due then (a.1,a.2++[r]) else if xK ns r.block then ((some (ol a.1.1++[⟨⟨a.1.2⟩,r.block,r.tries,0⟩]),IntKind.u64.wrap (a.1.2+1)),a.2) else a
noncomputable def yZ (ns:List Node) (now:Int) (a:(Option (List Request) × Int) × List Request) (l:List Request):(Option (List Request) × Int) × List Request:=l.foldl (Kw ns now) a
theorem o8 (ns:List Node) (now:Int) (a:(Option (List Request) × Int) × List Request) (l:List Request) (k:Nat) (h:k<l.length):yZ ns now a (l.take (k+1))=Kw ns now (yZ ns now a (l.take k)) (gx bW l k):=by
 unfold yZ;rw[List.take_succ_eq_append_getElem h,List.foldl_append];simp[gx,h]
theorem M5 (ns:List Node) (now:Int) (a:(Option (List Request) × Int) × List Request) (r:Request):(ol (Kw ns now a r).1.1).length≤(ol a.1.1).length+1∧(Kw ns now a r).2.length≤a.2.length+1:=by
 unfold Kw;split
 ·refine⟨by dsimp only;omega, ?_⟩
  dsimp only;rw[List.length_append,List.length_cons,List.length_nil];omega
 ·split
  ·refine⟨?_,by dsimp only;omega⟩
   show (ol a.1.1++[_]).length≤_;rw[List.length_append,List.length_cons,List.length_nil];omega
  ·omega
theorem LV (ns:List Node) (now:Int) (l:List Request):∀(a:(Option (List Request) × Int) × List Request),(ol (yZ ns now a l).1.1).length≤(ol a.1.1).length+l.length∧(yZ ns now a l).2.length≤a.2.length+l.length:=by
 induction l with
 | nil=>intro a;exact⟨Nat.le_refl _,Nat.le_refl _⟩
 | cons r l ih =>
   intro a;have h1:=ih (Kw ns now a r)
   have h2:=M5 ns now a r
   rw[List.length_cons];show (ol (yZ ns now (Kw ns now a r) l).1.1).length≤_∧(yZ ns now (Kw ns now a r) l).2.length≤_
   omega
theorem pJ {st:St} (o:Option (List Request)):cY st (ov aA o)=some (ov aA o):=Wd (dF o)
theorem kK {st:St} {a g:Nat} {L:List Request} (h:st.heap a g=some (.row 63 35 L.length (aA L))):cY st (.own a g)=some (ov aA (some L)):=by
 rw[bG,h];exact pB _ _
theorem XK {t:State} {v:SV} {Q R:Option (List Request)} (h:TD t v Q R) (st:St) {X Y X' Y':AV} (hx:cY st X=some X') (hy:cY st Y=some Y') (tag:Int):fO st (.agg (aI (Cr t X Y tag)))=some (.agg (aI (Cr t X' Y' tag))):=by
 have jJ:=h.fl
 unfold Cr;simp only[bP,vF,gI,hx,hy,cX,dY,jJ,cU]
theorem TD.rq {t:State} {v:SV} {Q R:Option (List Request)} (h:TD t v Q R) (q z:Option (List Request)) (tag:Int) (hq:((ol q).length:Int)<900000) (hz:((ol z).length:Int)<900000):TD (Cr t (ov aA q) (ov aA z) tag) v q z:=⟨h.sd,rfl,rfl,hq,hz⟩
theorem LW {t:State} {v:SV} {Q R:Option (List Request)} (h:TD t v Q R) (q z:Option (List Request)) (tag:Int) (hq:((ol q).length:Int)<900000) (hz:((ol z).length:Int)<900000) (r:cM) (st:St) (d:Option Nat) {X Y:AV} (hx:cY st X=some (ov aA q)) (hy:cY st Y=some (ov aA z)) :
 aN (aC Tryz.prog) 85 [.agg (aI (Cr t X Y tag)),.agg (aZ r)] st d=some { dst:=d,val:=.v (.bool (decide (xK v.ns r)))}:=by
 rw[mU,List.map_cons,List.map_cons,List.map_nil,XK h st hx hy,Qb,bR,bR,gR];exact SZ (c85 (h.rq q z tag hq hz) r)
theorem aBu {call:Nat→List AV→Option AV} {inl:Nat→List AV→St→Option (AV × St)} {ops:Array Oper} {st:St} {T:Nat} {pos:String} {eN:Array Edge} (x:Array Operand) (y:Array Nat) :
 gN Tryz.prog true call inl ops ⟨some 50,.call ⟨.value (.func 86),x,y⟩,T,pos,eN,none⟩ st=cD (inl 86 (x.toList.map st.ev) st) fun r=>some ((st.back r.2).put (some 50) r.1):=SY 86 x y (Wl rfl)
noncomputable def FP (t:State) (ns:List Node) (Q R:Option (List Request)):(Option (List Request) × Int) × List Request:=yZ ns t.store.now ((Q,t.cJ),[]) (ol R)
noncomputable def aBv (t:State) (ns:List Node) (Q R:Option (List Request)):State:=Cr t (ov aA (FP t ns Q R).1.1) (ov aA (nz (FP t ns Q R).2)) (FP t ns Q R).1.2
theorem Bl (t:State) (X Y:AV) (tag:Int):(Cr t X Y tag).dQ=X:=rfl
theorem Bm (t:State) (X Y:AV) (tag:Int):(Cr t X Y tag).mV=Y:=rfl
theorem Bn (t:State) (X Y:AV) (tag:Int):(Cr t X Y tag).cJ=tag:=rfl
theorem Bo (t:State) (X Y:AV) (tag:Int):(Cr t X Y tag).store=t.store:=rfl
theorem c74 {t:State} {v:SV} {Q R:Option (List Request)} (h:TD t v Q R) (hn:((ol Q).length:Int)+(ol R).length<800000):aC Tryz.prog 74 [.agg (aI t)]=some (.agg (aI (aBv t v.ns Q R))):=by
 have jJ:=h.fl
 have nR:=h.nR
 have hlen:∀k:Nat,(ol (yZ v.ns t.store.now ((Q,t.cJ),[]) ((ol R).take k)).1.1).length≤(ol Q).length+(ol R).length∧(yZ v.ns t.store.now ((Q,t.cJ),[]) ((ol R).take k)).2.length≤(ol R).length:=fun k=>by
  have h1:=LV v.ns t.store.now ((ol R).take k) ((Q,t.cJ),[])
  have h2:=List.length_take_le' k (ol R)
  have e:(ol ((Q,t.cJ),([]:List Request)).1.1).length=(ol Q).length:=rfl
  have e2:((Q,t.cJ),([]:List Request)).2.length=0:=rfl
  rw[e,e2] at h1;omega
 rw[cG Tryz.func74 rfl aPC (by kernel_rfl) rfl]
 refine jR ?_
 simp only[ZG,seval,Bool.false_and,Prod.mk.injEq,Jc,h.ret];refine mC (fun m st=>∃(k:Nat) (X Y:AV) (p:(Option (List Request) × Int) × List Request),(st.env 1=.ptr 1 0 0∧st.heap 1 0=some (.cells (aI (Cr t X Y p.1.2)))∧st.env 2=.ptr 2 0 0∧st.heap 2 0=some (.cells (aI gP))∧st.env 3=ov aA R∧st.env 4=.v (.int .i64 k)∧0<st.aQ 1∧0<st.aQ 2)∧(X=ov aA p.1.1∨∃g L,p.1.1=some L∧X=.own 19 g∧g<st.aQ 19∧st.heap 19 g=some (.row 63 35 L.length (aA L)))∧((Y=.v (.slice none 0 0)∧p.2=[])∨∃g,p.2≠[]∧Y=.own 30 g∧g<st.aQ 30∧st.heap 30 g=some (.row 63 35 p.2.length (aA p.2)))∧p=yZ v.ns t.store.now ((Q,t.cJ),[]) ((ol R).take k)∧k≤(ol R).length∧m=(ol R).length-k)
  (fun e st=>e=.exit 0∧∃(X Y:AV) (p:(Option (List Request) × Int) × List Request),(st.env 1=.ptr 1 0 0∧st.heap 1 0=some (.cells (aI (Cr t X Y p.1.2)))∧st.env 2=.ptr 2 0 0∧st.heap 2 0=some (.cells (aI gP)))∧(X=ov aA p.1.1∨∃g L,p.1.1=some L∧X=.own 19 g∧st.heap 19 g=some (.row 63 35 L.length (aA L)))∧((Y=.v (.slice none 0 0)∧p.2=[])∨∃g,p.2≠[]∧Y=.own 30 g∧st.heap 30 g=some (.row 63 35 p.2.length (aA p.2)))∧p=FP t v.ns Q R) (ol R).length ?step ?start ?rest
 case step =>
  rintro m st ⟨k,X,Y,p,hI,hX,hY,hp,hk,hm⟩
  by_cases bB:(k:Int)<(ol R).length
  case neg =>
   have Fy:k=(ol R).length:=by omega
   rw[Fy,List.take_length] at hp;have hX':(X=ov aA p.1.1∨∃g L,p.1.1=some L∧X=.own 19 g∧st.heap 19 g=some (.row 63 35 L.length (aA L))):=hX.imp id fun ⟨g,L,a,b,_,c⟩=>⟨g,L,a,b,c⟩
   have hY':((Y=.v (.slice none 0 0)∧p.2=[])∨∃g,p.2≠[]∧Y=.own 30 g∧st.heap 30 g=some (.row 63 35 p.2.length (aA p.2))):=hY.imp id fun ⟨g,a,b,_,c⟩=>⟨g,a,b,c⟩
   apply JK (.exit 0)
   ·simp only[ZG,seval,Bool.false_and,Prod.mk.injEq,Jc,hI,bB];rfl
   ·exact⟨rfl,X,Y,p,by simp only[E8,seval,hI],by simpa only[E8,seval] using hX',by simpa only[E8,seval] using hY',hp⟩
  have q0:(0:Int)≤k:=by omega
  have hw:IntKind.i64.wrap ((k:Int)+1)=((k+1:Nat):Int):=by rw[qA _ (by omega) (by omega)];omega
  have hs:=o8 v.ns t.store.now ((Q,t.cJ),[]) (ol R) k (by omega)
  have hl:=hlen k
  have Pl:=hlen (k+1)
  rw[← hp] at hs hl;obtain⟨r,er⟩:∃r,gx bW (ol R) (k:Int)=r:=⟨_,rfl⟩
  rw[er] at hs;unfold Kw at hs;have F9:((ol p.1.1).length:Int)<900000:=by omega
  have nZ9:(p.2.length:Int)<900000:=by omega
  have nZ:(p.2.length:Int)<1000000:=by omega
  by_cases g1:t.store.now<r.due
  ·rw[if_pos g1] at hs;rcases hY with ⟨rfl,hz⟩|⟨g,hz,rfl,hg,hh⟩
   ·apply Ea ((ol R).length-(k+1))
    ·simp only[ZG,seval,Bool.false_and,Prod.mk.injEq,Jc,hI,bB,q0,er,Bl,Bm,Bn,Bo,g1,hw];rfl
    ·exact⟨k+1,X,_,(p.1,p.2++[r]),by and_intros<;>(simp only[E8,seval,hI]<;>rfl),by simpa only[E8,seval] using hX,.inr ⟨_,by simp,rfl,by simp only[E8,seval]<;>omega,by rw[hz];simp only[E8,seval]<;>rfl⟩,hs.symm,by omega,rfl⟩
   ·have vC:(g=st.aQ 30)=False:=eq_false (by omega)
    apply Ea ((ol R).length-(k+1))
    ·simp only[ZG,seval,Bool.false_and,Prod.mk.injEq,Jc,hI,bB,q0,er,Bl,Bm,Bn,Bo,hh,vC,g1,hw,sX _ _ _ _ nZ];rfl
    ·exact⟨k+1,X,_,(p.1,p.2++[r]),by and_intros<;>(simp only[E8,seval,hI]<;>rfl),by simpa only[E8,seval] using hX,.inr ⟨_,by simp,rfl,by simp only[E8,seval]<;>omega,by simp only[E8,seval]<;>rfl⟩,hs.symm,by omega,rfl⟩
  rw[if_neg g1] at hs;by_cases g2:xK v.ns r.block
  case neg =>
   rw[if_neg g2] at hs;rcases hX with rfl|⟨g,L,hL,rfl,hg,hh⟩
   ·rcases hY with ⟨rfl,hz⟩|⟨g9,hz,rfl,hg9,LX⟩
    ·have Kx:∀(st:St) (d:Option Nat),aN (aC Tryz.prog) 85 [.agg (aI (Cr t (ov aA p.1.1) (.v (.slice none 0 0)) p.1.2)),.agg (aZ r.block)] st d=some { dst:=d,val:=.v (.bool (decide (xK v.ns r.block)))}:=fun st d=>LW h p.1.1 none p.1.2 F9 (by show ((0:Nat):Int)<_;omega) r.block st d (pJ _) (show cY st (.v (.slice none 0 0))=some (ov aA none) from pJ none)
     apply Ea ((ol R).length-(k+1))
     ·simp only[ZG,seval,Bool.false_and,Prod.mk.injEq,Jc,hI,bB,q0,er,Bl,Bm,Bn,Bo,g1,Kx,g2,hw];rfl
     ·exact⟨k+1,_,_,p,by and_intros<;>(simp only[E8,seval,hI]<;>rfl),.inl rfl,.inl ⟨rfl,hz⟩,hs.symm,by omega,rfl⟩
    ·have Kx:∀(st:St) (d:Option Nat),st.heap 30 g9=some (.row 63 35 p.2.length (aA p.2))→aN (aC Tryz.prog) 85 [.agg (aI (Cr t (ov aA p.1.1) (.own 30 g9) p.1.2)),.agg (aZ r.block)] st d=some { dst:=d,val:=.v (.bool (decide (xK v.ns r.block)))}:=fun st d h2=>LW h p.1.1 (some p.2) p.1.2 F9 nZ9 r.block st d (pJ _) (show cY st (.own 30 g9)=some (ov aA (some p.2)) from kK h2)
     apply Ea ((ol R).length-(k+1))
     ·simp only[ZG,seval,Bool.false_and,Prod.mk.injEq,Jc,hI,bB,q0,er,Bl,Bm,Bn,Bo,g1,Kx,LX,g2,hw];rfl
     ·exact⟨k+1,_,_,p,by and_intros<;>(simp only[E8,seval,hI]<;>rfl),.inl rfl,.inr ⟨g9,hz,rfl,by simp only[E8,seval]<;>omega,by simp only[E8,seval,LX]⟩,hs.symm,by omega,rfl⟩
   ·rcases hY with ⟨rfl,hz⟩|⟨g9,hz,rfl,hg9,LX⟩
    ·have Kx:∀(st:St) (d:Option Nat),st.heap 19 g=some (.row 63 35 L.length (aA L))→aN (aC Tryz.prog) 85 [.agg (aI (Cr t (.own 19 g) (.v (.slice none 0 0)) p.1.2)),.agg (aZ r.block)] st d=some { dst:=d,val:=.v (.bool (decide (xK v.ns r.block)))}:=fun st d h1=>LW h p.1.1 none p.1.2 F9 (by show ((0:Nat):Int)<_;omega) r.block st d (by rw[hL];exact kK h1) (show cY st (.v (.slice none 0 0))=some (ov aA none) from pJ none)
     apply Ea ((ol R).length-(k+1))
     ·simp only[ZG,seval,Bool.false_and,Prod.mk.injEq,Jc,hI,bB,q0,er,Bl,Bm,Bn,Bo,g1,Kx,hh,g2,hw];rfl
     ·exact⟨k+1,_,_,p,by and_intros<;>(simp only[E8,seval,hI]<;>rfl),.inr ⟨g,L,hL,rfl,by simp only[E8,seval]<;>omega,by simp only[E8,seval,hh]⟩,.inl ⟨rfl,hz⟩,hs.symm,by omega,rfl⟩
    ·have Kx:∀(st:St) (d:Option Nat),st.heap 19 g=some (.row 63 35 L.length (aA L))→st.heap 30 g9=some (.row 63 35 p.2.length (aA p.2))→aN (aC Tryz.prog) 85 [.agg (aI (Cr t (.own 19 g) (.own 30 g9) p.1.2)),.agg (aZ r.block)] st d=some { dst:=d,val:=.v (.bool (decide (xK v.ns r.block)))}:=fun st d h1 h2=>LW h p.1.1 (some p.2) p.1.2 F9 nZ9 r.block st d (by rw[hL];exact kK h1) (show cY st (.own 30 g9)=some (ov aA (some p.2)) from kK h2)
     apply Ea ((ol R).length-(k+1))
     ·simp only[ZG,seval,Bool.false_and,Prod.mk.injEq,Jc,hI,bB,q0,er,Bl,Bm,Bn,Bo,g1,Kx,hh,LX,g2,hw];rfl
     ·exact⟨k+1,_,_,p,by and_intros<;>(simp only[E8,seval,hI]<;>rfl),.inr ⟨g,L,hL,rfl,by simp only[E8,seval]<;>omega,by simp only[E8,seval,hh]⟩,.inr ⟨g9,hz,rfl,by simp only[E8,seval]<;>omega,by simp only[E8,seval,LX]⟩,hs.symm,by omega,rfl⟩
  rw[if_pos g2] at hs;rcases hX with rfl|⟨g,L,hL,rfl,hg,hh⟩
  ·rcases hY with ⟨rfl,hz⟩|⟨g9,hz,rfl,hg9,LX⟩
   ·have Kx:∀(st:St) (d:Option Nat),aN (aC Tryz.prog) 85 [.agg (aI (Cr t (ov aA p.1.1) (.v (.slice none 0 0)) p.1.2)),.agg (aZ r.block)] st d=some { dst:=d,val:=.v (.bool (decide (xK v.ns r.block)))}:=fun st d=>LW h p.1.1 none p.1.2 F9 (by show ((0:Nat):Int)<_;omega) r.block st d (pJ _) (show cY st (.v (.slice none 0 0))=some (ov aA none) from pJ none)
    obtain⟨G,hG⟩:=aEc t (.v (.slice none 0 0)) p.1.1 p.1.2 (by omega) r.block r.tries
    have kG:=fun st=>(hG st).1
    have f1:∀st:St,0<st.aQ 1→(G st).heap 1 0=st.heap 1 0:=fun st h=>(hG st).2.1.1 1 0 h
    have f2:∀st:St,0<st.aQ 2→(G st).heap 2 0=st.heap 2 0:=fun st h=>(hG st).2.1.1 2 0 h
    have c1:∀st:St,0<st.aQ 1→(0<(G st).aQ 1)=True:=fun st h=>eq_true (Nat.lt_of_lt_of_le h ((hG st).2.1.2 1))
    have c2:∀st:St,0<st.aQ 2→(0<(G st).aQ 2)=True:=fun st h=>eq_true (Nat.lt_of_lt_of_le h ((hG st).2.1.2 2))
    have fn:∀(st:St) (c:Nat),c=st.aQ 19→(G st).heap 19 c=_:=fun st c e=>e ▸ (hG st).2.2.1
    have cn:∀(st:St) (c:Nat),c=st.aQ 19→(c<(G st).aQ 19)=True:=fun st c e=>e ▸ eq_true (hG st).2.2.2
    apply Ea ((ol R).length-(k+1))
    ·simp only[ZG,seval,Bool.false_and,Prod.mk.injEq,Jc,hI,bB,q0,er,Bl,Bm,Bn,Bo,g1,Kx,g2,aBu,kG,f1,fG,dH,bX,hw];rfl
    ·exact⟨k+1,_,_,((some (ol p.1.1++[(⟨⟨p.1.2⟩,r.block,r.tries,0⟩:Request)]),IntKind.u64.wrap (p.1.2+1)),p.2),⟨by simp only[E8,seval,hI,fG],by simp only[E8,seval,hI,dH,bX]<;>rfl,by simp only[E8,seval,hI,fG],by simp only[E8,seval,hI,dH,bX,f2],by simp only[E8,seval,hI,fG],by simp only[E8,seval,hI,fG],by simp only[E8,seval,hI,bX,c1],by simp only[E8,seval,hI,bX,c2]⟩,.inr ⟨_,(ol p.1.1++[(⟨⟨p.1.2⟩,r.block,r.tries,0⟩:Request)]),rfl,rfl,by simp only[E8,seval,bX,cn],by simp only[E8,seval,dH,bX,fn]⟩,.inl ⟨rfl,hz⟩,hs.symm,by omega,rfl⟩
   ·have Kx:∀(st:St) (d:Option Nat),st.heap 30 g9=some (.row 63 35 p.2.length (aA p.2))→aN (aC Tryz.prog) 85 [.agg (aI (Cr t (ov aA p.1.1) (.own 30 g9) p.1.2)),.agg (aZ r.block)] st d=some { dst:=d,val:=.v (.bool (decide (xK v.ns r.block)))}:=fun st d h2=>LW h p.1.1 (some p.2) p.1.2 F9 nZ9 r.block st d (pJ _) (show cY st (.own 30 g9)=some (ov aA (some p.2)) from kK h2)
    obtain⟨G,hG⟩:=aEc t (.own 30 g9) p.1.1 p.1.2 (by omega) r.block r.tries
    have kG:=fun st=>(hG st).1
    have f1:∀st:St,0<st.aQ 1→(G st).heap 1 0=st.heap 1 0:=fun st h=>(hG st).2.1.1 1 0 h
    have f2:∀st:St,0<st.aQ 2→(G st).heap 2 0=st.heap 2 0:=fun st h=>(hG st).2.1.1 2 0 h
    have c1:∀st:St,0<st.aQ 1→(0<(G st).aQ 1)=True:=fun st h=>eq_true (Nat.lt_of_lt_of_le h ((hG st).2.1.2 1))
    have c2:∀st:St,0<st.aQ 2→(0<(G st).aQ 2)=True:=fun st h=>eq_true (Nat.lt_of_lt_of_le h ((hG st).2.1.2 2))
    have fn:∀(st:St) (c:Nat),c=st.aQ 19→(G st).heap 19 c=_:=fun st c e=>e ▸ (hG st).2.2.1
    have cn:∀(st:St) (c:Nat),c=st.aQ 19→(c<(G st).aQ 19)=True:=fun st c e=>e ▸ eq_true (hG st).2.2.2
    have f3:∀st:St,g9<st.aQ 30→(G st).heap 30 g9=st.heap 30 g9:=fun st h=>(hG st).2.1.1 30 g9 h
    have c3:∀st:St,g9<st.aQ 30→(g9<(G st).aQ 30)=True:=fun st h=>eq_true (Nat.lt_of_lt_of_le h ((hG st).2.1.2 30))
    apply Ea ((ol R).length-(k+1))
    ·simp only[ZG,seval,Bool.false_and,Prod.mk.injEq,Jc,hI,bB,q0,er,Bl,Bm,Bn,Bo,g1,Kx,LX,g2,aBu,kG,f1,fG,dH,bX,hw];rfl
    ·exact⟨k+1,_,_,((some (ol p.1.1++[(⟨⟨p.1.2⟩,r.block,r.tries,0⟩:Request)]),IntKind.u64.wrap (p.1.2+1)),p.2),⟨by simp only[E8,seval,hI,fG],by simp only[E8,seval,hI,dH,bX]<;>rfl,by simp only[E8,seval,hI,fG],by simp only[E8,seval,hI,dH,bX,f2],by simp only[E8,seval,hI,fG],by simp only[E8,seval,hI,fG],by simp only[E8,seval,hI,bX,c1],by simp only[E8,seval,hI,bX,c2]⟩,.inr ⟨_,(ol p.1.1++[(⟨⟨p.1.2⟩,r.block,r.tries,0⟩:Request)]),rfl,rfl,by simp only[E8,seval,bX,cn],by simp only[E8,seval,dH,bX,fn]⟩,.inr ⟨g9,hz,rfl,by simp only[E8,seval,bX,hg9,c3],by simp only[E8,seval,dH,bX,hg9,LX,f3]⟩,hs.symm,by omega,rfl⟩
  ·rcases hY with ⟨rfl,hz⟩|⟨g9,hz,rfl,hg9,LX⟩
   ·have Kx:∀(st:St) (d:Option Nat),st.heap 19 g=some (.row 63 35 L.length (aA L))→aN (aC Tryz.prog) 85 [.agg (aI (Cr t (.own 19 g) (.v (.slice none 0 0)) p.1.2)),.agg (aZ r.block)] st d=some { dst:=d,val:=.v (.bool (decide (xK v.ns r.block)))}:=fun st d h1=>LW h p.1.1 none p.1.2 F9 (by show ((0:Nat):Int)<_;omega) r.block st d (by rw[hL];exact kK h1) (show cY st (.v (.slice none 0 0))=some (ov aA none) from pJ none)
    have nL:(L.length:Int)<1000000:=by rw[hL] at F9;have:(L.length:Int)<900000:=F9;omega
    obtain⟨G,hG⟩:=M4 t (.v (.slice none 0 0)) g L p.1.2 nL r.block r.tries
    have kG:∀st:St,st.heap 19 g=some (.row 63 35 L.length (aA L))→g<st.aQ 19→_:=fun st a b=>(hG st ⟨a,b⟩).1
    have f1:∀st:St,st.heap 19 g=some (.row 63 35 L.length (aA L))→g<st.aQ 19→0<st.aQ 1→(G st).heap 1 0=st.heap 1 0:=fun st a b h=>(hG st ⟨a,b⟩).2.1.1 1 0 h
    have f2:∀st:St,st.heap 19 g=some (.row 63 35 L.length (aA L))→g<st.aQ 19→0<st.aQ 2→(G st).heap 2 0=st.heap 2 0:=fun st a b h=>(hG st ⟨a,b⟩).2.1.1 2 0 h
    have c1:∀st:St,st.heap 19 g=some (.row 63 35 L.length (aA L))→g<st.aQ 19→0<st.aQ 1→(0<(G st).aQ 1)=True:=fun st a b h=>eq_true (Nat.lt_of_lt_of_le h ((hG st ⟨a,b⟩).2.1.2 1))
    have c2:∀st:St,st.heap 19 g=some (.row 63 35 L.length (aA L))→g<st.aQ 19→0<st.aQ 2→(0<(G st).aQ 2)=True:=fun st a b h=>eq_true (Nat.lt_of_lt_of_le h ((hG st ⟨a,b⟩).2.1.2 2))
    have fn:∀(st:St) (c:Nat),st.heap 19 g=some (.row 63 35 L.length (aA L))→g<st.aQ 19→c=st.aQ 19→(G st).heap 19 c=_:=fun st c a b e=>e ▸ (hG st ⟨a,b⟩).2.2.1
    have cn:∀(st:St) (c:Nat),st.heap 19 g=some (.row 63 35 L.length (aA L))→g<st.aQ 19→c=st.aQ 19→(c<(G st).aQ 19)=True:=fun st c a b e=>e ▸ eq_true (hG st ⟨a,b⟩).2.2.2
    have eL:ol p.1.1=L:=by rw[hL];rfl
    rw[eL] at hs;apply Ea ((ol R).length-(k+1))
    ·simp only[ZG,seval,Bool.false_and,Prod.mk.injEq,Jc,hI,bB,q0,er,Bl,Bm,Bn,Bo,g1,Kx,hh,hg,g2,aBu,kG,f1,fG,dH,bX,hw];rfl
    ·exact⟨k+1,_,_,((some (L++[(⟨⟨p.1.2⟩,r.block,r.tries,0⟩:Request)]),IntKind.u64.wrap (p.1.2+1)),p.2),⟨by simp only[E8,seval,hI,fG],by simp only[E8,seval,hI,dH,bX]<;>rfl,by simp only[E8,seval,hI,fG],by simp only[E8,seval,hI,hh,hg,dH,bX,f2],by simp only[E8,seval,hI,fG],by simp only[E8,seval,hI,fG],by simp only[E8,seval,hI,hh,hg,bX,c1],by simp only[E8,seval,hI,hh,hg,bX,c2]⟩,.inr ⟨_,(L++[(⟨⟨p.1.2⟩,r.block,r.tries,0⟩:Request)]),rfl,rfl,by simp only[E8,seval,bX,hh,hg,cn],by simp only[E8,seval,dH,bX,hh,hg,fn]⟩,.inl ⟨rfl,hz⟩,hs.symm,by omega,rfl⟩
   ·have Kx:∀(st:St) (d:Option Nat),st.heap 19 g=some (.row 63 35 L.length (aA L))→st.heap 30 g9=some (.row 63 35 p.2.length (aA p.2))→aN (aC Tryz.prog) 85 [.agg (aI (Cr t (.own 19 g) (.own 30 g9) p.1.2)),.agg (aZ r.block)] st d=some { dst:=d,val:=.v (.bool (decide (xK v.ns r.block)))}:=fun st d h1 h2=>LW h p.1.1 (some p.2) p.1.2 F9 nZ9 r.block st d (by rw[hL];exact kK h1) (show cY st (.own 30 g9)=some (ov aA (some p.2)) from kK h2)
    have nL:(L.length:Int)<1000000:=by rw[hL] at F9;have:(L.length:Int)<900000:=F9;omega
    obtain⟨G,hG⟩:=M4 t (.own 30 g9) g L p.1.2 nL r.block r.tries
    have kG:∀st:St,st.heap 19 g=some (.row 63 35 L.length (aA L))→g<st.aQ 19→_:=fun st a b=>(hG st ⟨a,b⟩).1
    have f1:∀st:St,st.heap 19 g=some (.row 63 35 L.length (aA L))→g<st.aQ 19→0<st.aQ 1→(G st).heap 1 0=st.heap 1 0:=fun st a b h=>(hG st ⟨a,b⟩).2.1.1 1 0 h
    have f2:∀st:St,st.heap 19 g=some (.row 63 35 L.length (aA L))→g<st.aQ 19→0<st.aQ 2→(G st).heap 2 0=st.heap 2 0:=fun st a b h=>(hG st ⟨a,b⟩).2.1.1 2 0 h
    have c1:∀st:St,st.heap 19 g=some (.row 63 35 L.length (aA L))→g<st.aQ 19→0<st.aQ 1→(0<(G st).aQ 1)=True:=fun st a b h=>eq_true (Nat.lt_of_lt_of_le h ((hG st ⟨a,b⟩).2.1.2 1))
    have c2:∀st:St,st.heap 19 g=some (.row 63 35 L.length (aA L))→g<st.aQ 19→0<st.aQ 2→(0<(G st).aQ 2)=True:=fun st a b h=>eq_true (Nat.lt_of_lt_of_le h ((hG st ⟨a,b⟩).2.1.2 2))
    have fn:∀(st:St) (c:Nat),st.heap 19 g=some (.row 63 35 L.length (aA L))→g<st.aQ 19→c=st.aQ 19→(G st).heap 19 c=_:=fun st c a b e=>e ▸ (hG st ⟨a,b⟩).2.2.1
    have cn:∀(st:St) (c:Nat),st.heap 19 g=some (.row 63 35 L.length (aA L))→g<st.aQ 19→c=st.aQ 19→(c<(G st).aQ 19)=True:=fun st c a b e=>e ▸ eq_true (hG st ⟨a,b⟩).2.2.2
    have f3:∀st:St,st.heap 19 g=some (.row 63 35 L.length (aA L))→g<st.aQ 19→g9<st.aQ 30→(G st).heap 30 g9=st.heap 30 g9:=fun st a b h=>(hG st ⟨a,b⟩).2.1.1 30 g9 h
    have c3:∀st:St,st.heap 19 g=some (.row 63 35 L.length (aA L))→g<st.aQ 19→g9<st.aQ 30→(g9<(G st).aQ 30)=True:=fun st a b h=>eq_true (Nat.lt_of_lt_of_le h ((hG st ⟨a,b⟩).2.1.2 30))
    have eL:ol p.1.1=L:=by rw[hL];rfl
    rw[eL] at hs;apply Ea ((ol R).length-(k+1))
    ·simp only[ZG,seval,Bool.false_and,Prod.mk.injEq,Jc,hI,bB,q0,er,Bl,Bm,Bn,Bo,g1,Kx,hh,LX,hg,g2,aBu,kG,f1,fG,dH,bX,hw];rfl
    ·exact⟨k+1,_,_,((some (L++[(⟨⟨p.1.2⟩,r.block,r.tries,0⟩:Request)]),IntKind.u64.wrap (p.1.2+1)),p.2),⟨by simp only[E8,seval,hI,fG],by simp only[E8,seval,hI,dH,bX]<;>rfl,by simp only[E8,seval,hI,fG],by simp only[E8,seval,hI,hh,hg,dH,bX,f2],by simp only[E8,seval,hI,fG],by simp only[E8,seval,hI,fG],by simp only[E8,seval,hI,hh,hg,bX,c1],by simp only[E8,seval,hI,hh,hg,bX,c2]⟩,.inr ⟨_,(L++[(⟨⟨p.1.2⟩,r.block,r.tries,0⟩:Request)]),rfl,rfl,by simp only[E8,seval,bX,hh,hg,cn],by simp only[E8,seval,dH,bX,hh,hg,fn]⟩,.inr ⟨g9,hz,rfl,by simp only[E8,seval,bX,hg9,hh,hg,c3],by simp only[E8,seval,dH,bX,hg9,LX,hh,hg,f3]⟩,hs.symm,by omega,rfl⟩
 case start=>exact⟨0,ov aA Q,.v (.slice none 0 0),((Q,t.cJ),[]),⟨by simp only[E8,seval],by simp only[E8,seval,h.Bx]<;>rfl,by simp only[E8,seval],by simp only[E8,seval],by simp only[E8,seval],by simp only[E8,seval]<;>rfl,by simp only[E8,seval]<;>omega,by simp only[E8,seval]<;>omega⟩,.inl rfl,.inl ⟨rfl,rfl⟩,rfl,by omega,by omega⟩
 case rest =>
  rintro e st ⟨rfl,X,Y,p,hI,hX,hY,hp⟩
  have hv:aBv t v.ns Q R=Cr t (ov aA p.1.1) (ov aA (nz p.2)) p.1.2:=by unfold aBv;rw[← hp]
  have hex:∀st:St,∀X' Y',cY st X=some X'→cY st Y=some Y'→fO st (.agg (aI (Cr t X Y p.1.2)))=some (.agg (aI (Cr t X' Y' p.1.2))):=fun st X' Y' hx hy=>XK h st hx hy p.1.2
  rcases hX with rfl|⟨g,L,hL,rfl,hh⟩
  ·rcases hY with ⟨rfl,hz⟩|⟨g9,hz,rfl,LX⟩
   ·rw[hz,show nz ([]:List Request)=none from if_pos rfl] at hv
    simp only[ZG,seval,Bool.false_and,Prod.mk.injEq,Jc,hI];exact⟨_,eK rfl (by simp only[E8,seval,hI]<;>rfl) (by simp only[ZG,seval,hI]<;>rfl) (hex _ _ _ (pJ _) (pJ none)),by rw[hv]⟩
   ·rw[show nz p.2=some p.2 from if_neg hz] at hv;simp only[ZG,seval,Bool.false_and,Prod.mk.injEq,Jc,hI,LX];exact⟨_,eK rfl (by simp only[E8,seval,hI]<;>rfl) (by simp only[ZG,seval,hI]<;>rfl) (hex _ _ _ (pJ _) (kK (by simp only[E8,seval,LX]<;>rfl))),by rw[hv]⟩
  ·rcases hY with ⟨rfl,hz⟩|⟨g9,hz,rfl,LX⟩
   ·rw[hz,show nz ([]:List Request)=none from if_pos rfl,hL] at hv
    simp only[ZG,seval,Bool.false_and,Prod.mk.injEq,Jc,hI,hh];exact⟨_,eK rfl (by simp only[E8,seval,hI]<;>rfl) (by simp only[ZG,seval,hI]<;>rfl) (hex _ _ _ (kK (by simp only[E8,seval,hh]<;>rfl)) (pJ none)),by rw[hv]⟩
   ·rw[show nz p.2=some p.2 from if_neg hz,hL] at hv;simp only[ZG,seval,Bool.false_and,Prod.mk.injEq,Jc,hI,hh,LX];exact⟨_,eK rfl (by simp only[E8,seval,hI]<;>rfl) (by simp only[ZG,seval,hI]<;>rfl) (hex _ _ _ (kK (by simp only[E8,seval,hh]<;>rfl)) (kK (by simp only[E8,seval,LX]<;>rfl))),by rw[hv]⟩
theorem aFr (x:Int):IntKind.i64.wrap x≤9223372036854775807:=by
 rw[IntKind.wrap_i64];omega
def wC (a b:Request):Prop:=a.due<b.due∨(a.due=b.due∧a.tagged.tag<b.tagged.tag)
noncomputable def Bp:Nat→List Request→List Request
 | 0,l=>l
 | k+1,l=>if wC (gx bW l ((k+1:Nat):Int)) (gx bW l (k:Int)) then Bp k ((l.set (k+1) (gx bW l (k:Int))).set k (gx bW l ((k+1:Nat):Int))) else l
theorem LY:∀(k:Nat) (l:List Request),(Bp k l).length=l.length
 | 0,l=>rfl
 | k+1,l=>by
   unfold Bp;split
   ·rw[LY k,List.length_set,List.length_set]
   ·rfl
noncomputable def LZ (t:State) (r:Request):Request:={ r with tries:=IntKind.i64.wrap (r.tries+1),due:=IntKind.u64.wrap (t.store.now+SW (IntKind.i64.wrap (r.tries+1)) t.store.cFg.mA.qY)}
noncomputable def o9 (t:State) (ns:List Node) (R:List Request) (r:Request):State :=
 if ¬xK ns r.block then t else if t.store.cFg.mA.oC≤(R.length:Int) then { t with overflow:=true } else { t with mV:=ov aA (some (Bp R.length (R++[LZ t r])))}
theorem c72 {t:State} {v:SV} {Q R:Option (List Request)} (h:TD t v Q R) (r:Request):aC Tryz.prog 72 [.agg (aI t),.agg (bK r)]=some (.agg (aI (o9 t v.ns (ol R) r))):=by
 have hf:=h.flat
 have jJ:=h.fl
 have nR:=h.nR
 have nR1:((ol R).length:Int)<1000000:=by omega
 have o6:=k85 h r.block
 have fr:Flat (.agg (bK r)):=.agg _ (eI r)
 rw[cL Tryz.func72 rfl aPD rfl];refine jR ?_
 by_cases g1:xK v.ns r.block
 case neg =>
  simp only[Z8,seval,o6,g1];exact⟨_,fF rfl (by simp only[E8,seval,hf]<;>rfl) (by simp only[Z8,seval,hf]<;>rfl) (by simp only[dY,and_self,hf]),by rw[o9,if_pos g1]⟩
 by_cases g2:t.store.cFg.mA.oC≤((ol R).length:Int)
 ·have hf2:Flat (.agg (aI { t with overflow:=true })):=(lO _).2 jJ
  simp only[Z8,seval,o6,g1,h.ret,g2];exact⟨_,fF rfl (by simp only[E8,seval,jJ]<;>rfl) (by simp only[Z8,seval,jJ]<;>rfl) (by simp only[dY,and_self,jJ]),by rw[o9,if_neg (fun hh=>hh g1),if_pos g2,← h.ret]⟩
 have hv:o9 t v.ns (ol R) r=_:=(if_neg (fun hh=>hh g1)).trans (if_neg g2)
 rw[hv];have k143':=aPm (IntKind.i64.wrap (r.tries+1)) t.store.cFg.mA.qY (aFr _)
 obtain⟨L0,hL0⟩:∃L0,ol R++[LZ t r]=L0:=⟨_,rfl⟩
 have hlL:L0.length=(ol R).length+1:=by rw[← hL0,List.length_append,List.length_cons,List.length_nil]
 have hL0':ol R++[({ tagged:=r.tagged,block:=r.block,tries:=IntKind.i64.wrap (r.tries+1),due:=IntKind.u64.wrap (t.store.now+SW (IntKind.i64.wrap (r.tries+1)) t.store.cFg.mA.qY)}:Request)]=L0:=hL0
 rw[hL0];have w1:IntKind.i64.wrap ((L0.length:Int)-1)=((ol R).length:Int):=by rw[qA _ (by omega) (by omega)];omega
 simp only[Z8,seval,o6,g1,h.ret,g2,k143',gW,gX,qN _ nR1,sX _ _ _ _ nR1,hL0',w1];refine cH (fun m st=>∃(k:Nat) (l:List Request),(st.env 2=.ptr 2 0 0∧st.heap 2 0=some (.cells (aI t))∧st.env 4=.ptr 4 0 0∧st.heap 4 0=some (.cells (aI gP))∧st.env 5=.own 46 0∧st.heap 46 0=some (.row 63 35 l.length (aA l))∧st.env 6=.v (.int .i64 k))∧Bp k l=Bp (ol R).length L0∧l.length=L0.length∧k≤(ol R).length∧m=k)
  (fun e st=>e=.exit 0∧∃(l:List Request),(st.env 2=.ptr 2 0 0∧st.heap 2 0=some (.cells (aI t))∧st.env 4=.ptr 4 0 0∧st.heap 4 0=some (.cells (aI gP))∧st.env 5=.own 46 0∧st.heap 46 0=some (.row 63 35 l.length (aA l)))∧l=Bp (ol R).length L0) (ol R).length ?step ?start ?rest
 case step =>
  rintro m st ⟨k,l,hI,hb,hl,hk,hm⟩
  cases k with
  | zero =>
    have z0:¬((0:Int)<((0:Nat):Int)):=by omega
    have hI':=hI
    apply oT (.exit 0)
    ·simp only[Z8,seval,hI,Int.lt_irrefl,gW,gX];rfl
    ·exact⟨rfl,l,by simp only[E8,seval,hI],by rw[← hb];rfl⟩
  | succ j =>
    obtain⟨i,hi⟩:∃i:Int,i=((j+1:Nat):Int):=⟨_,rfl⟩
    obtain⟨i',Ce⟩:∃i':Int,i'=(j:Int):=⟨_,rfl⟩
    rw[← hi] at hI;have p0:(0:Int)<i:=by omega
    have p1:(0:Int)≤i:=by omega
    have p2:i<(l.length:Int):=by omega
    have q1:(0:Int)≤i':=by omega
    have q2:i'<(l.length:Int):=by omega
    have hw:IntKind.i64.wrap (i-1)=i':=by rw[qA _ (by omega) (by omega)];omega
    have ti:i.toNat=j+1:=by omega
    have ti':i'.toNat=j:=by omega
    obtain⟨a,ea⟩:∃a,gx bW l i=a:=⟨_,rfl⟩
    obtain⟨b,eb⟩:∃b,gx bW l i'=b:=⟨_,rfl⟩
    have d1:=Ee (T:=23) (n:=l.length) (k:=1) (off:=34) p1 p2 RY (by decide) (by decide)
    have d2:=Ee (T:=23) (n:=l.length) (k:=1) (off:=34) q1 q2 RY (by decide) (by decide)
    have d3:=zA (T:=23) (n:=l.length) (k:=1) p1 p2 RY (by decide) (by decide)
    have d4:=zA (T:=23) (n:=l.length) (k:=1) q1 q2 RY (by decide) (by decide)
    have d5:=zA (T:=63) (n:=l.length) (k:=35) p1 p2 aFs (by decide) (by decide)
    have d6:=zA (T:=63) (n:=l.length) (k:=35) q1 q2 aFs (by decide) (by decide)
    rw[ea] at d1 d3 d5;rw[eb] at d2 d4 d6;have aBw:∀P:Prop,(wC a b↔P)→Bp (j+1) l=if P then Bp j ((l.set (j+1) b).set j a) else l:=fun P hP=>by
     have e1:gx bW l ((j+1:Nat):Int)=a:=by rw[← hi];exact ea
     have e2:gx bW l (j:Int)=b:=by rw[← Ce];exact eb
     have e0:Bp (j+1) l=if wC (gx bW l ((j+1:Nat):Int)) (gx bW l (j:Int)) then Bp j ((l.set (j+1) (gx bW l (j:Int))).set j (gx bW l ((j+1:Nat):Int))) else l:=rfl
     rw[e0,e1,e2];by_cases hh:wC a b
     ·rw[if_pos hh,if_pos (hP.1 hh)]
     ·rw[if_neg hh,if_neg (fun x=>hh (hP.2 x))]
    have x3:i.toNat * 35+35≤l.length * 35:=by omega
    have x4:i'.toNat * 35+35≤(l.set i.toNat b).length * 35:=by rw[List.length_set];omega
    have x4':i'.toNat * 35+35≤l.length * 35:=by omega
    have u1:=Ky l i b (by omega)
    have u2:=Ky (l.set i.toNat b) i' a (by rw[List.length_set];omega)
    have swp:(l.set i.toNat b).set i'.toNat a=(l.set (j+1) b).set j a:=by rw[ti,ti']
    by_cases g3:a.due<b.due
    ·have nP:=aBw True (iff_of_true (.inl g3) trivial)
     rw[if_pos trivial] at nP
     apply oN (j)
     ·simp only[Z8,seval,hI,p0,p1,p2,q1,q2,hw,d1,d2,d3,d4,d5,d6,g3,x3,x4,x4',u1,u2,List.length_set,gW,gX];rfl
     ·exact⟨j,(l.set i.toNat b).set i'.toNat a,⟨by simp only[E8,seval,hI],by simp only[E8,seval,hI],by simp only[E8,seval,hI],by simp only[E8,seval,hI],by simp only[E8,seval,hI],by rw[List.length_set,List.length_set];simp only[E8,seval,List.length_set]<;>rfl,by simp only[E8,seval,Ce]⟩,by rw[swp,← nP];exact hb,by rw[List.length_set,List.length_set];exact hl,by omega,rfl⟩
    by_cases g4:a.due=b.due
    case neg =>
     have nP:=aBw False (iff_of_false (fun x=>x.elim g3 fun y=>g4 y.1) id)
     rw[if_neg id] at nP
     apply oT (.exit 0)
     ·simp only[Z8,seval,hI,p0,p1,p2,q1,q2,hw,d1,d2,d3,d4,d5,d6,g3,bf g4,gW,gX];rfl
     ·exact⟨rfl,l,by simp only[E8,seval,hI],by rw[← hb,nP]⟩
    by_cases g5:a.tagged.tag<b.tagged.tag
    ·have nP:=aBw True (iff_of_true (.inr ⟨g4,g5⟩) trivial)
     rw[if_pos trivial] at nP
     apply oN (j)
     ·simp only[Z8,seval,hI,p0,p1,p2,q1,q2,hw,d1,d2,d3,d4,d5,d6,g3,bt g4,g5,x3,x4,x4',u1,u2,List.length_set,gW,gX];rfl
     ·exact⟨j,(l.set i.toNat b).set i'.toNat a,⟨by simp only[E8,seval,hI],by simp only[E8,seval,hI],by simp only[E8,seval,hI],by simp only[E8,seval,hI],by simp only[E8,seval,hI],by rw[List.length_set,List.length_set];simp only[E8,seval,List.length_set]<;>rfl,by simp only[E8,seval,Ce]⟩,by rw[swp,← nP];exact hb,by rw[List.length_set,List.length_set];exact hl,by omega,rfl⟩
    ·have nP:=aBw False (iff_of_false (fun x=>x.elim g3 fun y=>g5 y.2) id)
     rw[if_neg id] at nP
     apply oT (.exit 0)
     ·simp only[Z8,seval,hI,p0,p1,p2,q1,q2,hw,d1,d2,d3,d4,d5,d6,g3,bt g4,g5,gW,gX];rfl
     ·exact⟨rfl,l,by simp only[E8,seval,hI],by rw[← hb,nP]⟩
 case start=>exact⟨(ol R).length,L0,by simp only[E8,seval]<;>rfl,rfl,rfl,by omega,rfl⟩
 case rest =>
  rintro e st ⟨rfl,l,hI,hl⟩
  have hex:=pB l.length l
  subst hl;simp only[Z8,seval,hI];exact⟨_,by apply eK;rfl;all_goals simp only[aE,Z8,seval,hI,hex,jJ,bP,vF,gI,bG,cX,pB,dY]<;>rfl,rfl⟩
theorem aPE {t:State} {v:SV} {Q R:Option (List Request)} {q:Int} (hT:TD t v Q R) (h:GI t.store v q) (r:RG t.store v) (hB:0<(ol v.B).length∧(ol v.B).length≤64) (hq:∀r∈ol Q,Rg r.tagged.tag) (n k:Int) (hk:0≤k) :
 ∃x,aC Tryz.prog 146 [.agg (aI t),.v (.int .i64 n),.v (.int .i64 k)]=some x∧∃y:wM,x=.agg (kX y)∧pA y∧(y.kind=2→y.block.root=mkRoot n∨∃m∈v.ns,y.block.root=m.block.root):=by
 have z:=zOk
 have hm:=Af hk (min 4 IntKind.i64.bits)
 have hf:=hT.flat
 have WL:=h.sd.flat
 obtain⟨x1,e1,b,rfl,rb⟩:=x50 h r n (k.fdiv (2 ^ min 4 IntKind.i64.bits)) hm
 obtain⟨x2,e2,a,V,rfl,hV,nV,ra1,ra2⟩:=x37 h r hB (k.fdiv (2 ^ min 4 IntKind.i64.bits)) hm
 obtain⟨x3,e3,sl,rfl,c1,c2,s1,s2,s3,s4⟩:=aPa (ol v.B).length (k.fdiv (2 ^ min 4 IntKind.i64.bits)) (by omega) (by omega)
 obtain⟨x4,e4,tb,bl,rfl,hb,nb,rbl,rt⟩:=aPb h r hB (k.fdiv (2 ^ min 4 IntKind.i64.bits)) hm
 obtain⟨x5,e5,w,rfl,rw5⟩:=x25 hT h hq (k.fdiv (2 ^ min 4 IntKind.i64.bits)) hm
 have fA:Flat a.eU:=by rw[hV];exact bO _
 have fT:Flat tb.jI:=by rw[hb];exact dR _
 have k50:=kx e1 (lN WL (.v _) (.v _)) (uI b)
 have k37:=kx e2 (bE WL (.v _)) ((yN a).2 fA)
 have k182:=kx e3 (bE (.v _) (.v _)) ((mW sl).2 ⟨(yO _).1 c1.fl,(yO _).1 c2.fl⟩)
 have k183:=kx e4 (bE WL (.v _)) ((jZ tb).2 fT)
 have k25:=kx e5 (bE hf (.v _)) (.agg _ (gE w))
 have y1:pA { yX with kind:=1 }:=⟨z.Fq,z.c1,z.c2,z.SQ,z.rb,z.ra,z.rs,z.rt,z.rv⟩
 have y2:pA { yX with kind:=2,block:=b }:=⟨z.Fq,z.c1,z.c2,z.SQ,rb.toRB,z.ra,z.rs,z.rt,z.rv⟩
 have y3:pA { yX with kind:=3,Fq:=a }:=⟨⟨some V,hV,nV⟩,z.c1,z.c2,z.SQ,z.rb,⟨ra1,ra2⟩,z.rs,z.rt,z.rv⟩
 have y4:pA { yX with kind:=4,oM:=sl }:=⟨z.Fq,c1,c2,z.SQ,z.rb,z.ra,⟨s1,s2,s3,s4⟩,z.rt,z.rv⟩
 have y5:pA { yX with kind:=5,table:=tb }:=⟨z.Fq,z.c1,z.c2,⟨some bl,hb,nb,rbl⟩,z.rb,z.ra,z.rs,rt,z.rv⟩
 have y6:pA { yX with kind:=6,verdict:=w }:=⟨z.Fq,z.c1,z.c2,z.SQ,z.rb,z.ra,z.rs,z.rt,rw5⟩
 rw[cL Tryz.func146 rfl aKU rfl];by_cases c0:((k).tmod 16)=0
 ·simp only[Z8,seval,bt c0];exact⟨_,fF rfl (by simp only[E8,seval]<;>rfl) (by simp only[Z8,seval]<;>rfl) y1.flat,_,rfl,y1,fun h=>absurd (show (1:Int)=2 from h) (by decide)⟩
 by_cases c1:((k).tmod 16)=1
 ·simp only[Z8,seval,bf c0,bt c1];exact⟨_,fF rfl (by simp only[E8,seval]<;>rfl) (by simp only[Z8,seval]<;>rfl) y1.flat,_,rfl,y1,fun h=>absurd (show (1:Int)=2 from h) (by decide)⟩
 by_cases c2:((k).tmod 16)=2
 ·simp only[Z8,seval,bf c0,bf c1,bt c2];exact⟨_,fF rfl (by simp only[E8,seval]<;>rfl) (by simp only[Z8,seval]<;>rfl) y1.flat,_,rfl,y1,fun h=>absurd (show (1:Int)=2 from h) (by decide)⟩
 by_cases c3:((k).tmod 16)=3
 ·simp only[Z8,seval,bf c0,bf c1,bf c2,bt c3,k50];exact⟨_,fF rfl (by simp only[E8,seval]<;>rfl) (by simp only[Z8,seval]<;>rfl) y2.flat,_,rfl,y2,fun _=>rb.rt⟩
 by_cases c4:((k).tmod 16)=4
 ·simp only[Z8,seval,bf c0,bf c1,bf c2,bf c3,bt c4,k50];exact⟨_,fF rfl (by simp only[E8,seval]<;>rfl) (by simp only[Z8,seval]<;>rfl) y2.flat,_,rfl,y2,fun _=>rb.rt⟩
 by_cases c5:((k).tmod 16)=5
 ·simp only[Z8,seval,bf c0,bf c1,bf c2,bf c3,bf c4,bt c5,k50];exact⟨_,fF rfl (by simp only[E8,seval]<;>rfl) (by simp only[Z8,seval]<;>rfl) y2.flat,_,rfl,y2,fun _=>rb.rt⟩
 by_cases c6:((k).tmod 16)=6
 ·simp only[Z8,seval,bf c0,bf c1,bf c2,bf c3,bf c4,bf c5,bt c6,k50];exact⟨_,fF rfl (by simp only[E8,seval]<;>rfl) (by simp only[Z8,seval]<;>rfl) y2.flat,_,rfl,y2,fun _=>rb.rt⟩
 by_cases c7:((k).tmod 16)=7
 ·simp only[Z8,seval,bf c0,bf c1,bf c2,bf c3,bf c4,bf c5,bf c6,bt c7,k50];exact⟨_,fF rfl (by simp only[E8,seval]<;>rfl) (by simp only[Z8,seval]<;>rfl) y2.flat,_,rfl,y2,fun _=>rb.rt⟩
 by_cases c8:((k).tmod 16)=8
 ·simp only[Z8,seval,bf c0,bf c1,bf c2,bf c3,bf c4,bf c5,bf c6,bf c7,bt c8,k37];exact⟨_,fF rfl (by simp only[E8,seval]<;>rfl) (by simp only[Z8,seval]<;>rfl) y3.flat,_,rfl,y3,fun h=>absurd (show (3:Int)=2 from h) (by decide)⟩
 by_cases c9:((k).tmod 16)=9
 ·simp only[Z8,seval,bf c0,bf c1,bf c2,bf c3,bf c4,bf c5,bf c6,bf c7,bf c8,bt c9,k37];exact⟨_,fF rfl (by simp only[E8,seval]<;>rfl) (by simp only[Z8,seval]<;>rfl) y3.flat,_,rfl,y3,fun h=>absurd (show (3:Int)=2 from h) (by decide)⟩
 by_cases c10:((k).tmod 16)=10
 ·simp only[Z8,seval,bf c0,bf c1,bf c2,bf c3,bf c4,bf c5,bf c6,bf c7,bf c8,bf c9,bt c10,k37];exact⟨_,fF rfl (by simp only[E8,seval]<;>rfl) (by simp only[Z8,seval]<;>rfl) y3.flat,_,rfl,y3,fun h=>absurd (show (3:Int)=2 from h) (by decide)⟩
 by_cases c11:((k).tmod 16)=11
 ·simp only[Z8,seval,bf c0,bf c1,bf c2,bf c3,bf c4,bf c5,bf c6,bf c7,bf c8,bf c9,bf c10,bt c11,h.sd.jI,k182];exact⟨_,fF rfl (by simp only[E8,seval]<;>rfl) (by simp only[Z8,seval]<;>rfl) y4.flat,_,rfl,y4,fun h=>absurd (show (4:Int)=2 from h) (by decide)⟩
 by_cases c12:((k).tmod 16)=12
 ·simp only[Z8,seval,bf c0,bf c1,bf c2,bf c3,bf c4,bf c5,bf c6,bf c7,bf c8,bf c9,bf c10,bf c11,bt c12,k183];exact⟨_,fF rfl (by simp only[E8,seval]<;>rfl) (by simp only[Z8,seval]<;>rfl) y5.flat,_,rfl,y5,fun h=>absurd (show (5:Int)=2 from h) (by decide)⟩
 simp only[Z8,seval,bf c0,bf c1,bf c2,bf c3,bf c4,bf c5,bf c6,bf c7,bf c8,bf c9,bf c10,bf c11,bf c12,k25];exact⟨_,fF rfl (by simp only[E8,seval]<;>rfl) (by simp only[Z8,seval]<;>rfl) y6.flat,_,rfl,y6,fun h=>absurd (show (6:Int)=2 from h) (by decide)⟩
theorem aKV (l:List Int) (hl:(l.length:Int)≤9223372036854775807):∃x,aC Tryz.prog 101 [.sl l.length (aK l)]=some x∧∃(c:Config) (b:List Int),x=.agg (bS c)∧Nd c b:=by
 have k0:=Mm l hl 0 (by omega) (by omega)
 obtain⟨a0,b0⟩:=eJ (n:=8) (Ml l hl 0 (by omega) (by omega)).2.1 (by omega)
 obtain⟨x0,h0⟩:∃x,(EJ l 0).tmod 8=x:=⟨_,rfl⟩
 rw[h0] at a0 b0;have k1:=Mm l hl 1 (by omega) (by omega)
 obtain⟨a1,b1⟩:=eJ (n:=4) (Ml l hl 1 (by omega) (by omega)).2.1 (by omega)
 obtain⟨x1,h1⟩:∃x,(EJ l 1).tmod 4=x:=⟨_,rfl⟩
 rw[h1] at a1 b1;have k2:=Mm l hl 2 (by omega) (by omega)
 obtain⟨a2,b2⟩:=eJ (n:=4) (Ml l hl 2 (by omega) (by omega)).2.1 (by omega)
 obtain⟨x2,h2⟩:∃x,(EJ l 2).tmod 4=x:=⟨_,rfl⟩
 rw[h2] at a2 b2;have k3:=Mm l hl 3 (by omega) (by omega)
 obtain⟨a3,b3⟩:=eJ (n:=4) (Ml l hl 3 (by omega) (by omega)).2.1 (by omega)
 obtain⟨x3,h3⟩:∃x,(EJ l 3).tmod 4=x:=⟨_,rfl⟩
 rw[h3] at a3 b3;have k4:=Mm l hl 4 (by omega) (by omega)
 obtain⟨a4,b4⟩:=eJ (n:=4) (Ml l hl 4 (by omega) (by omega)).2.1 (by omega)
 obtain⟨x4,h4⟩:∃x,(EJ l 4).tmod 4=x:=⟨_,rfl⟩
 rw[h4] at a4 b4;have k5:=Mm l hl 5 (by omega) (by omega)
 obtain⟨a5,b5⟩:=eJ (n:=5) (Ml l hl 5 (by omega) (by omega)).2.1 (by omega)
 obtain⟨x5,h5⟩:∃x,(EJ l 5).tmod 5=x:=⟨_,rfl⟩
 rw[h5] at a5 b5;have k6:=Mm l hl 6 (by omega) (by omega)
 obtain⟨a6,b6⟩:=eJ (n:=4) (Ml l hl 6 (by omega) (by omega)).2.1 (by omega)
 obtain⟨x6,h6⟩:∃x,(EJ l 6).tmod 4=x:=⟨_,rfl⟩
 rw[h6] at a6 b6;have k7:=Mm l hl 7 (by omega) (by omega)
 obtain⟨a7,b7⟩:=eJ (n:=3) (Ml l hl 7 (by omega) (by omega)).2.1 (by omega)
 obtain⟨x7,h7⟩:∃x,(EJ l 7).tmod 3=x:=⟨_,rfl⟩
 rw[h7] at a7 b7;have k8:=Mm l hl 8 (by omega) (by omega)
 obtain⟨a8,b8⟩:=eJ (n:=2) (Ml l hl 8 (by omega) (by omega)).2.1 (by omega)
 obtain⟨x8,h8⟩:∃x,(EJ l 8).tmod 2=x:=⟨_,rfl⟩
 rw[h8] at a8 b8;have k9:=Mm l hl 9 (by omega) (by omega)
 obtain⟨a9,b9⟩:=eJ (n:=5) (Ml l hl 9 (by omega) (by omega)).2.1 (by omega)
 obtain⟨x9,h9⟩:∃x,(EJ l 9).tmod 5=x:=⟨_,rfl⟩
 rw[h9] at a9 b9;have w0:IntKind.i64.wrap (6+x0)=6+x0:=qA _ (by omega) (by omega)
 have w3:IntKind.i64.wrap (1+x3)=1+x3:=qA _ (by omega) (by omega)
 have w5:IntKind.i64.wrap (1+x5)=1+x5:=qA _ (by omega) (by omega)
 have w5':IntKind.u64.wrap (1+x5)=1+x5:=wrap_u64 _ (by omega) (by omega)
 have w6:IntKind.i64.wrap (1+x6)=1+x6:=qA _ (by omega) (by omega)
 have w6':IntKind.u64.wrap (1+x6)=1+x6:=wrap_u64 _ (by omega) (by omega)
 have w9:IntKind.i64.wrap (2+x9)=2+x9:=qA _ (by omega) (by omega)
 have g7:=oZ (l:=[0,40,100]) a7 (by show x7<((3:Nat):Int);omega)
 obtain⟨bp,hbp⟩:∃y,it [0,40,100] x7=y:=⟨_,rfl⟩
 have hbp1:0≤bp∧bp≤100:=by
  rcases (by omega:x7=0∨x7=1∨x7=2) with e|e|e<;>(rw[e] at hbp;rw[← hbp];decide)
 have w7:IntKind.u64.wrap bp=bp:=wrap_u64 _ (by omega) (by omega)
 rw[cL Tryz.func101 rfl aKW rfl];simp only[Z8,seval,gW,gX,k0,k1,k2,k3,k4,k5,k6,k7,k8,h0,h1,h2,h3,h4,h5,h6,h7,h8,w0,w3,w5,w5',w6,w6',a7,b7,g7,hbp,w7,qM,Nat.reduceLT,Po];have n9:(2+x9).toNat≤6:=by omega
 refine cH (fun m st=>∃(j:Nat) (mA:lT) (sp bq:Int) (tt:qX) (X:AV) (b:List Int),(st.env 0=.sl l.length (aK l)∧st.env 2=.ptr 2 0 0∧st.heap 2 0=some (.cells (bS nA))∧st.env 3=.ptr 3 0 0∧st.heap 3 0=some (.cells (bS ⟨mA,sp,bq,tt,mkRoot 1,X⟩))∧st.env 4=.v (.int .i64 j))∧(mA=⟨6+x0,x1,x2,1+x3,x4,1+x5⟩∧sp=1+x6∧bq=bp)∧((X=.v (.slice none 0 0)∧b=[])∨∃g,X=.own 64 g∧g<st.aQ 64∧st.heap 64 g=some (.row 23 1 b.length (bC b)))∧(∀y∈b,0≤y∧y≤1000)∧b.length=j∧j≤(2+x9).toNat∧m=(2+x9).toNat-j)
  (fun e st=>e=.exit 0∧∃(mA:lT) (sp bq:Int) (tt:qX) (g:Nat) (b:List Int),(st.env 2=.ptr 2 0 0∧st.heap 2 0=some (.cells (bS nA))∧st.env 3=.ptr 3 0 0∧st.heap 3 0=some (.cells (bS ⟨mA,sp,bq,tt,mkRoot 1,.own 64 g⟩))∧st.heap 64 g=some (.row 23 1 b.length (bC b)))∧(mA=⟨6+x0,x1,x2,1+x3,x4,1+x5⟩∧sp=1+x6∧bq=bp)∧(∀y∈b,0≤y∧y≤1000)∧1≤b.length∧b.length≤6) (2+x9).toNat ?step ?start ?rest
 case step =>
  rintro m st ⟨j,mA,sp,bq,tt,X,b,hI,hC,hX,hb,hj,hjn,hm⟩
  by_cases bB:(j:Int)<2+x9
  ·have q0:(0:Int)≤j:=by omega
   have hw:IntKind.i64.wrap ((j:Int)+1)=((j+1:Nat):Int):=by rw[qA _ (by omega) (by omega)];omega
   obtain⟨jj,hjj⟩:∃jj:Int,jj=10+(j:Int):=⟨_,rfl⟩
   have I0:IntKind.i64.wrap (10+(j:Int))=jj:=by rw[qA _ (by omega) (by omega),hjj]
   have kj:=Mm l hl jj (by omega) (by omega)
   obtain⟨aj,bj⟩:=eJ (n:=40) (Ml l hl jj (by omega) (by omega)).2.1 (by omega)
   obtain⟨y,hy⟩:∃y,(EJ l jj).tmod 40=y:=⟨_,rfl⟩
   rw[hy] at aj bj;have wy:IntKind.u64.wrap y=y:=wrap_u64 _ (by omega) (by omega)
   have nL:(b.length:Int)<1000000:=by omega
   have AA:∀z∈b++[y],0≤z∧z≤1000:=fun z hz=>(List.mem_append.1 hz).elim (hb z) fun e=>by rw[List.mem_singleton] at e;rw[e];omega
   have Pl:(b++[y]).length=j+1:=by rw[List.length_append,List.length_cons,List.length_nil];omega
   rcases hX with ⟨rfl,rfl⟩|⟨g,rfl,hg,hh⟩
   ·apply oN ((2+x9).toNat-(j+1))
    ·simp only[Z8,seval,hI,k9,h9,w9,bB,I0,kj,hy,wy,hw];rfl
    ·exact⟨j+1,_,_,_,_,_,[]++[y],⟨by simp only[E8,seval,hI],by simp only[E8,seval,hI],by simp only[E8,seval,hI],by simp only[E8,seval,hI],by simp only[E8,seval,hI]<;>rfl,by simp only[E8,seval]⟩,hC,.inr ⟨_,rfl,by simp only[E8,seval]<;>omega,by simp only[E8,seval]<;>rfl⟩,AA,Pl,by omega,rfl⟩
   ·have vC:(g=st.aQ 64)=False:=eq_false (by omega)
    apply oN ((2+x9).toNat-(j+1))
    ·simp only[Z8,seval,hI,hh,vC,k9,h9,w9,bB,I0,kj,hy,wy,hw,xJ _ _ _ _ nL];rfl
    ·exact⟨j+1,_,_,_,_,_,b++[y],⟨by simp only[E8,seval,hI],by simp only[E8,seval,hI],by simp only[E8,seval,hI],by simp only[E8,seval,hI],by simp only[E8,seval,hI]<;>rfl,by simp only[E8,seval]⟩,hC,.inr ⟨_,rfl,by simp only[E8,seval]<;>omega,by simp only[E8,seval]<;>rfl⟩,AA,Pl,by omega,rfl⟩
  ·rcases hX with ⟨rfl,rfl⟩|⟨g,rfl,hg,hh⟩
   ·simp at hj;omega
   ·apply oT (.exit 0)
    ·simp only[Z8,seval,hI,k9,h9,w9,bB];rfl
    ·exact⟨rfl,_,_,_,_,g,b,⟨by simp only[E8,seval,hI],by simp only[E8,seval,hI],by simp only[E8,seval,hI],by simp only[E8,seval,hI]<;>rfl,by simp only[E8,seval,hh]⟩,hC,hb,by omega,by omega⟩
 case start=>exact⟨0,_,_,_,_,_,[],by and_intros<;>(simp only[E8,seval]<;>rfl),⟨rfl,rfl,rfl⟩,.inl ⟨rfl,rfl⟩,by simp,rfl,by omega,by omega⟩
 case rest =>
  rintro e st ⟨rfl,mA,sp,bq,tt,g,b,hI,⟨rfl,rfl,rfl⟩,hb,Pl,YW⟩
  simp only[Z8,seval,hI];exact⟨_,by apply eK;rfl;all_goals simp only[aE,Z8,seval,hI,bP,Wn,bG,uZ,dY]<;>rfl,⟨⟨6+x0,x1,x2,1+x3,x4,1+x5⟩,1+x6,bq,tt,mkRoot 1,ov bC (some b)⟩,b,rfl,⟨rfl,by omega,hb,by dsimp only;omega,by dsimp only;omega,by dsimp only;omega,by dsimp only;omega,by dsimp only;omega,by dsimp only;omega,by dsimp only;omega,by dsimp only;omega,rfl,by dsimp only;omega⟩⟩
structure SB (a r:List Node):Prop where
 QN:r.map (·.block)=a.map (·.block)
 up:r.map (·.up)=a.map (·.up)
theorem SB.refl (a:List Node):SB a a:=⟨rfl,rfl⟩
theorem SB.trans {a b c:List Node} (h:SB a b) (g:SB b c):SB a c:=⟨g.QN.trans h.QN,g.up.trans h.up⟩
theorem SB.len {a r:List Node} (h:SB a r):r.length=a.length:=by have:=congrArg List.length h.QN;simpa using this
theorem SB.block {a r:List Node} (h:SB a r) {j:Int} (j1:j.toNat<a.length):(nd r j).block=(nd a j).block:=by
 have h2:j.toNat<r.length:=by rw[h.len];exact j1
 have:=congrArg (fun l:List Block=>l[j.toNat]?) h.QN
 simpa [nd,j1,h2] using this
theorem SB.upE {a r:List Node} (h:SB a r) {j:Int} (j1:j.toNat<a.length):(nd r j).up=(nd a j).up:=by
 have h2:j.toNat<r.length:=by rw[h.len];exact j1
 have:=congrArg (fun l:List Int=>l[j.toNat]?) h.up
 simpa [nd,j1,h2] using this
theorem DJ (l:List Node) (x:cM):aM l x=match (l.map (·.block)).findIdx? (fun b=>decide (b.root=x)) with
 | some k=>(k:Int)
 | none=>-1:=by
 unfold aM;rw[List.findIdx?_map];rfl
theorem SB.aM {a r:List Node} (h:SB a r) (x:cM):aM r x=aM a x:=by rw[DJ,DJ,h.QN]
theorem M6 (ns:List Node) (i to:Int):SB ns (setAt ns i to):=by
 have key:∀ {β:Type} (f:Node→β),(∀n s,f (Vk n s)=f n)→(setAt ns i to).map f=ns.map f:=by
  intro β f hf;unfold setAt;rw[List.map_set];apply List.ext_getElem (by simp)
  intro j h1 h2;rw[List.getElem_set];split
  ·rename_i e;have h3:j<ns.length:=by simpa using h2
   subst e;simp[hf,nd,h3]
  ·rfl
 exact⟨key _ fun _ _=>rfl,key _ fun _ _=>rfl⟩
theorem FQ {to never:Int}:∀(l:List Int) (ns r:List Node),CO to never l ns=some r→SB ns r
 | [],ns,r,h=>by simp only[CO,Option.some.injEq] at h;rw[h];exact SB.refl _
 | i :: l,ns,r,h=>by
   simp only[CO] at h;split at h
   ·cases h
   ·exact (M6 ns i to).trans (FQ l _ _ h)
def MA (ns:List Node) (x:AV):Prop:=(∃e:Int,e≠0∧x=.eE [.agg [.v (.slice none 0 0)],.v (.int .i64 e)])∨∃r,SB ns r∧x=.eE [.agg (cP ⟨r⟩),.v (.int .i64 0)]
theorem MA.err (ns:List Node) {e:Int} (h:e≠0):MA ns (Zy e):=.inl ⟨e,h,rfl⟩
theorem aFt (ns:List Node) (i:Int):MA ns (F3 ns i):=by
 unfold F3;split
 ·unfold stA;split
  ·exact .err _ (by decide)
  ·rename_i r hr;exact .inr ⟨r,FQ _ _ _ hr,rfl⟩
 ·exact .err _ (by decide)
theorem M7 (ns:List Node) (i:Int):MA ns (F4 ns i):=by
 unfold F4;split
 ·unfold stA;split
  ·exact .err _ (by decide)
  ·rename_i r hr;exact .inr ⟨r,FQ _ _ _ hr,rfl⟩
 ·exact .err _ (by decide)
theorem MA.of {a b:List Node} (h:SB a b) {x:AV} (g:MA b x):MA a x:=g.imp id fun ⟨r,h1,h2⟩=>⟨r,h.trans h1,h2⟩
theorem aFu (ns:List Node) (i:Int) (v:eD) (l:List Int):MA ns (RQ ns i v l):=by
 unfold RQ;split
 ·exact .err _ (by decide)
 split
 ·exact aFt ns i
 split
 ·unfold I2;split
  ·exact .err _ (by decide)
  split
  ·split
   ·exact .err _ (by decide)
   ·rename_i r hr;exact .of (FQ _ _ _ hr) (M7 _ _)
  ·exact M7 _ _
 split
 ·exact .inr ⟨ns,SB.refl ns,rfl⟩
 ·exact .err _ (by decide)
theorem GI.tree {s:aP} {v:SV} {q:Int} (h:GI s v q) {r:List Node} (hs:SB v.ns r):GI { s with tree:=⟨.sl r.length (cC r)⟩} { v with ns:=r } q:=by
 have hl:=hs.len
 have hp:=h.pos
 refine⟨⟨h.sd.jI,h.sd.dV,h.sd.gU,h.sd.early,h.sd.bU,rfl,h.sd.tables,h.sd.eV,h.sd.tB,h.sd.nB,h.sd.nL,h.sd.nQ,h.sd.nE,h.sd.nO,h.sd.nT,by rw[hl];exact h.sd.nn⟩,fun i i0 i1=>?_, ?_,by show 0<r.length;omega,by rw[hl];exact h.nl,h.SA,h.qK,h.KY,h.nB,h.nO,h.KZ,h.nE,h.QQ,h.nT,h.SC,h.nQ,h.I8, ?_⟩
 ·have i1:i<(r.length:Int):=i1
  show 0≤(nd r i).up∧(nd r i).up<i
  rw[hs.upE (by omega)];exact h.up i i0 (by omega)
 ·show (nd r 0).up=-1
  rw[hs.upE (by show (0:Nat)<_;omega)];exact h.KC
 ·show 0≤aM r s.aG.dN.root
  rw[hs.aM];exact h.dN
theorem RG.tree {s:aP} {v:SV} (h:RG s v) {r:List Node} (hs:SB v.ns r) (x:Fa):RG { s with tree:=x } { v with ns:=r } :=
 ⟨h.now,h.j,h.f,fun n hn=>by
  have:n.block∈r.map (·.block):=List.mem_map.2 ⟨n,hn,rfl⟩
  rw[hs.QN] at this;obtain⟨a,ha,e⟩:=List.mem_map.1 this
  rw[← e];exact h.nd a ha,h.or,fun n hn=>by
  have:n.block∈r.map (·.block):=List.mem_map.2 ⟨n,hn,rfl⟩
  rw[hs.QN] at this;obtain⟨a,ha,e⟩:=List.mem_map.1 this
  rw[← e];exact h.rt a ha,h.fe,by
  have e:=congrArg (List.map fun b:Block=>b.root) hs.QN
  rw[List.map_map,List.map_map] at e;show (r.map ((fun b:Block=>b.root) ∘ fun n=>n.block)).Nodup
  rw[e];exact h.ds,h.tb,⟨h.ne.q,h.ne.e,h.ne.o,h.ne.t,h.ne.ea,h.ne.tb⟩⟩
structure TQ (Q:List Request) (tag:Int):Prop where
 pos:1≤tag
 all:∀r∈Q,1≤r.tagged.tag∧r.tagged.tag<tag∧r.due=0
 asc:Q.Pairwise fun a b=>a.tagged.tag<b.tagged.tag
structure TR (R:List Request) (tag:Int):Prop where
 all:∀r∈R,r.tagged.tag<tag
 asc:R.Pairwise fun a b=>¬wC b a
def TA (ns:List Node) (l:List Request):Prop:=∀r∈l,0≤aM ns r.block
theorem TQ.sub {P Q:List Request} {tag:Int} (h:TQ Q tag) (s:P.Sublist Q):TQ P tag:=⟨h.pos,fun r hr=>h.all r (s.subset hr),h.asc.sublist s⟩
theorem TR.sub {P Q:List Request} {tag:Int} (h:TR Q tag) (s:P.Sublist Q):TR P tag:=⟨fun r hr=>h.all r (s.subset hr),h.asc.sublist s⟩
theorem TR.mono {Q:List Request} {t t':Int} (h:TR Q t) (l:t≤t'):TR Q t':=⟨fun r hr=>by have:=h.all r hr;omega,h.asc⟩
theorem TA.sub {ns:List Node} {P Q:List Request} (h:TA ns Q) (s:P.Sublist Q):TA ns P:=fun r hr=>h r (s.subset hr)
theorem TQ.app {Q:List Request} {tag:Int} (h:TQ Q tag) (b:cM) (n:Int):TQ (Q++[⟨⟨tag⟩,b,n,0⟩]) (tag+1):=by
 refine⟨by have:=h.pos;omega,fun r hr=>?_,List.pairwise_append.2 ⟨h.asc,List.pairwise_singleton ..,fun a ha b hb=>?_⟩⟩
 ·rcases List.mem_append.1 hr with hr|hr
  ·obtain⟨h1,h2,h3⟩:=h.all r hr;exact⟨h1,by omega,h3⟩
  ·rw[List.mem_singleton] at hr;subst hr;exact⟨h.pos,by show tag<tag+1;omega,rfl⟩
 ·rw[List.mem_singleton] at hb;subst hb;exact (h.all a ha).2.1
theorem TA.app {ns:List Node} {Q:List Request} (h:TA ns Q) {x:Request} (hx:0≤aM ns x.block):TA ns (Q++[x]):=fun r hr=>by
 rcases List.mem_append.1 hr with hr|hr
 ·exact h r hr
 ·rw[List.mem_singleton] at hr;subst hr;exact hx
theorem aKX {x:Int} (h1:1≤x) (h2:x≤1000000):IntKind.u64.wrap (x+1)=x+1:=wrap_u64 _ (by omega) (by omega)
theorem Ng (ns:List Node) (now:Int):∀(l:List Request) (a:(Option (List Request) × Int) × List Request),TQ (ol a.1.1) a.1.2→TA ns (ol a.1.1)→a.1.2+l.length≤1000000 →
 TQ (ol (yZ ns now a l).1.1) (yZ ns now a l).1.2∧TA ns (ol (yZ ns now a l).1.1)∧a.1.2≤(yZ ns now a l).1.2∧(yZ ns now a l).1.2≤a.1.2+l.length∧(yZ ns now a l).2=a.2++l.filter fun r=>decide (now<r.due)
 | [],a,h,hi,hb=>⟨h,hi,by show a.1.2≤a.1.2;omega,by show a.1.2≤a.1.2+((0:Nat):Int);omega,(List.append_nil _).symm⟩
 | r :: l,a,h,hi,hb=>by
   have hp:=h.pos
   rw[List.length_cons] at hb;have hw:=aKX hp (by omega)
   have e0:yZ ns now a (r :: l)=yZ ns now (Kw ns now a r) l:=rfl
   rw[e0,List.length_cons];by_cases g1:now<r.due
   ·have e1:Kw ns now a r=(a.1,a.2++[r]):=if_pos g1
    rw[e1];obtain⟨h1,h2,h3,h4,h5⟩:=Ng ns now l (a.1,a.2++[r]) h hi (by dsimp only;omega)
    refine⟨h1,h2,h3,by dsimp only at h4;omega, ?_⟩
    rw[h5,List.filter_cons,if_pos (decide_eq_true g1)];simp
   ·rw[List.filter_cons,if_neg (by simpa using g1)]
    by_cases g2:xK ns r.block
    ·have e1:Kw ns now a r=((some (ol a.1.1++[⟨⟨a.1.2⟩,r.block,r.tries,0⟩]),IntKind.u64.wrap (a.1.2+1)),a.2):=(if_neg g1).trans (if_pos g2)
     rw[e1,hw];obtain⟨h1,h2,h3,h4,h5⟩:=Ng ns now l ((some (ol a.1.1++[(⟨⟨a.1.2⟩,r.block,r.tries,0⟩:Request)]),a.1.2+1),a.2) (h.app _ _) (hi.app g2.1) (by dsimp only;omega)
     exact⟨h1,h2,by dsimp only at h3;omega,by dsimp only at h4;omega,h5⟩
    ·have e1:Kw ns now a r=a:=(if_neg g1).trans (if_neg g2)
     rw[e1];obtain⟨h1,h2,h3,h4,h5⟩:=Ng ns now l a h hi (by omega)
     exact⟨h1,h2,h3,by omega,h5⟩
theorem FR (ns:List Node):∀(l:List cM) (a:Option (List Request) × Int),TQ (ol a.1) a.2→TA ns (ol a.1)→a.2+l.length≤1000000 →
 TQ (ol (Kt ns a l).1) (Kt ns a l).2∧TA ns (ol (Kt ns a l).1)∧a.2≤(Kt ns a l).2∧(Kt ns a l).2≤a.2+l.length
 | [],a,h,hi,hb=>⟨h,hi,by show a.2≤a.2;omega,by show a.2≤a.2+((0:Nat):Int);omega⟩
 | r :: l,a,h,hi,hb=>by
   have hp:=h.pos
   rw[List.length_cons] at hb;have hw:=aKX hp (by omega)
   have e0:Kt ns a (r :: l)=Kt ns (QS ns a r) l:=rfl
   rw[e0,List.length_cons];by_cases g2:xK ns r
   ·have e1:QS ns a r=(some (ol a.1++[⟨⟨a.2⟩,r,0,0⟩]),IntKind.u64.wrap (a.2+1)):=if_pos g2
    rw[e1,hw];obtain⟨h1,h2,h3,h4⟩:=FR ns l (some (ol a.1++[(⟨⟨a.2⟩,r,0,0⟩:Request)]),a.2+1) (h.app _ _) (hi.app g2.1) (by dsimp only;omega)
    exact⟨h1,h2,by dsimp only at h3;omega,by dsimp only at h4;omega⟩
   ·have e1:QS ns a r=a:=if_neg g2
    rw[e1];obtain⟨h1,h2,h3,h4⟩:=FR ns l a h hi (by omega)
    exact⟨h1,h2,h3,by omega⟩
theorem XL (ns:List Node) (now:Int):∀(l:List Request) (a:(Option (List Request) × Int) × List Request),a.1.1≠some []→(yZ ns now a l).1.1≠some []
 | [],a,h=>h
 | r :: l,a,h=>by
   have e0:yZ ns now a (r :: l)=yZ ns now (Kw ns now a r) l:=rfl
   rw[e0];refine XL ns now l _ ?_
   unfold Kw;split
   ·exact h
   split
   ·simp
   ·exact h
theorem M8 (ns:List Node):∀(l:List cM) (a:Option (List Request) × Int),a.1≠some []→(Kt ns a l).1≠some []
 | [],a,h=>h
 | r :: l,a,h=>by
   have e0:Kt ns a (r :: l)=Kt ns (QS ns a r) l:=rfl
   rw[e0];refine M8 ns l _ ?_
   unfold QS;split
   ·simp
   ·exact h
noncomputable def FU:List Request→Request→List Request→List Request
 | [],x,B=>x :: B
 | y :: A,x,B=>if wC x y then FU A x (y :: B) else (y :: A).reverse++x :: B
theorem DK:∀(A:List Request) (x:Request) (B:List Request),Bp A.length (A.reverse++x :: B)=FU A x B
 | [],x,B=>rfl
 | y :: A,x,B=>by
   have e1:gx bW ((y :: A).reverse++x :: B) ((A.length+1:Nat):Int)=x:=by
    unfold gx;rw[Int.toNat_natCast,List.reverse_cons,List.append_assoc,List.getD_eq_getElem?_getD,List.getElem?_append_right (by simp),List.length_reverse]
    simp
   have e2:gx bW ((y :: A).reverse++x :: B) (A.length:Int)=y:=by
    unfold gx;rw[Int.toNat_natCast,List.reverse_cons,List.append_assoc,List.getD_eq_getElem?_getD,List.getElem?_append_right (by simp),List.length_reverse]
    simp
   have e3:(((y :: A).reverse++x :: B).set (A.length+1) y).set A.length x=A.reverse++x :: y :: B:=by
    rw[List.reverse_cons,List.append_assoc,List.set_append_right _ _ (by simp),List.length_reverse,List.set_append_right _ _ (by simp),List.length_reverse]
    simp
   rw[List.length_cons];have e0:∀l,Bp (A.length+1) l=if wC (gx bW l ((A.length+1:Nat):Int)) (gx bW l (A.length:Int)) then Bp A.length ((l.set (A.length+1) (gx bW l (A.length:Int))).set A.length (gx bW l ((A.length+1:Nat):Int))) else l:=fun l=>rfl
   rw[e0,e1,e2,e3];unfold FU;split
   ·exact DK A x (y :: B)
   ·rfl
theorem Wo {r:Request}:∀(A:List Request) (x:Request) (B:List Request),r∈FU A x B↔r∈A∨r=x∨r∈B
 | [],x,B=>by simp[FU]
 | y :: A,x,B=>by
   unfold FU;split
   ·rw[Wo A x (y :: B)];simp only[List.mem_cons];constructor
    ·rintro (h|h|h|h)
     ·exact .inl (.inr h)
     ·exact .inr (.inl h)
     ·exact .inl (.inl h)
     ·exact .inr (.inr h)
    ·rintro ((h|h)|h|h)
     ·exact .inr (.inr (.inl h))
     ·exact .inl h
     ·exact .inr (.inl h)
     ·exact .inr (.inr (.inr h))
   ·simp[or_assoc,or_left_comm]
theorem Sc {a b:Request} (h:wC a b):¬wC b a:=by unfold wC at *;omega
theorem M9 {a b c:Request} (h1:¬wC b a) (h2:¬wC c b):¬wC c a:=by unfold wC at *;omega
theorem MB:∀(A:List Request) (x:Request) (B:List Request),(A.reverse++B).Pairwise (fun a b=>¬wC b a)→(∀b∈B,wC x b)→(FU A x B).Pairwise fun a b=>¬wC b a
 | [],x,B,h,hb=>List.pairwise_cons.2 ⟨fun b m=>Sc (hb b m),h⟩
 | y :: A,x,B,h,hb=>by
   unfold FU;have h0:=h
   rw[List.reverse_cons,List.append_assoc] at h;split
   ·rename_i g;exact MB A x (y :: B) h fun b m=>(List.mem_cons.1 m).elim (fun e=>by rw[e];exact g) (hb b)
   ·rename_i g;obtain⟨p1,p2,p3⟩:=List.pairwise_append.1 h0
    refine List.pairwise_append.2 ⟨p1,List.pairwise_cons.2 ⟨fun b m=>Sc (hb b m),p2⟩,fun a ha b m=>?_⟩
    rcases List.mem_cons.1 m with rfl|m
    ·rw[List.reverse_cons,List.mem_append,List.mem_singleton] at ha;rcases ha with ha|rfl
     ·have:=(List.pairwise_append.1 h).2.2 a ha y (by simp)
      exact M9 this g
     ·exact g
    ·exact p3 a ha b m
theorem N0 (R:List Request) (x:Request):Bp R.length (R++[x])=FU R.reverse x []:=by
 have:=DK R.reverse x []
 rwa [List.reverse_reverse,List.length_reverse] at this
theorem TR.bub {R:List Request} {tag:Int} (h:TR R tag) {x:Request} (hx:x.tagged.tag<tag):TR (Bp R.length (R++[x])) tag:=by
 rw[N0];refine⟨fun r hr=>?_,MB _ _ _ (by rw[List.reverse_reverse,List.append_nil];exact h.asc) (by simp)⟩
 rcases (Wo _ _ _).1 hr with hr|rfl|hr
 ·exact h.all r (List.mem_reverse.1 hr)
 ·exact hx
 ·cases hr
theorem TA.bub {ns:List Node} {R:List Request} (h:TA ns R) {x:Request} (hx:0≤aM ns x.block):TA ns (Bp R.length (R++[x])):=by
 rw[N0];intro r hr;rcases (Wo _ _ _).1 hr with hr|rfl|hr
 ·exact h r (List.mem_reverse.1 hr)
 ·exact hx
 ·cases hr
structure TI0 (t:State) (v:SV) (Q R:Option (List Request)) (q m:Int):Prop where
 td:TD t v Q R
 gi:GI t.store v q
 rg:RG t.store v
 cfg:∃b,Nd t.store.cFg b
 tq:TQ (ol Q) t.cJ
 tr:TR (ol R) t.cJ
 nt:t.cJ≤1+m
 lq:((ol Q).length:Int)≤m
 lr:((ol R).length:Int)≤t.store.cFg.mA.oC
 mB:m≤100000
 qn:Q≠some []
 rn:R≠some []
structure TI (t:State) (v:SV) (Q R:Option (List Request)) (q m:Int):Prop extends TI0 t v Q R q m where
 G0:TA v.ns (ol Q)
 G1:TA v.ns (ol R)
theorem TI0.mono {t:State} {v:SV} {Q R:Option (List Request)} {q m q' m':Int} (h:TI0 t v Q R q m) (h1:q≤q') (h2:q'≤900000) (h3:m≤m') (h4:m'≤100000):TI0 t v Q R q' m' :=
 ⟨h.td,h.gi.mono h1 h2,h.rg,h.cfg,h.tq,h.tr,by have:=h.nt;omega,by have:=h.lq;omega,h.lr,h4,h.qn,h.rn⟩
theorem TI.mono {t:State} {v:SV} {Q R:Option (List Request)} {q m q' m':Int} (h:TI t v Q R q m) (h1:q≤q') (h2:q'≤900000) (h3:m≤m') (h4:m'≤100000):TI t v Q R q' m':=⟨h.toTI0.mono h1 h2 h3 h4,h.G0,h.G1⟩
theorem TI0.store {t:State} {v:SV} {Q R:Option (List Request)} {q m:Int} (h:TI0 t v Q R q m) {s':aP} {v':SV} {q':Int} (g:GI s' v' q') (r:RG s' v') (c:s'.cFg=t.store.cFg):TI0 { t with store:=s' } v' Q R q' m :=
 ⟨⟨g.sd,h.td.Bx,h.td.ret,h.td.nQ,h.td.nR⟩,g,r,by show ∃b,Nd s'.cFg b;rw[c];exact h.cfg,h.tq,h.tr,h.nt,h.lq,by show _≤s'.cFg.mA.oC;rw[c];exact h.lr,h.mB,h.qn,h.rn⟩
theorem TI.emit {t:State} {v:SV} {Q R:Option (List Request)} {q m:Int} (h:TI t v Q R q m) (b:Bool) (c:Command):TI { t with yU:=b,last:=c } v Q R q m :=
 ⟨⟨⟨h.td.sd,h.td.Bx,h.td.ret,h.td.nQ,h.td.nR⟩,h.gi,h.rg,h.cfg,h.tq,h.tr,h.nt,h.lq,h.lr,h.mB,h.qn,h.rn⟩,h.G0,h.G1⟩
theorem TI.halt {t:State} {v:SV} {Q R:Option (List Request)} {q m:Int} (h:TI t v Q R q m) (b:Bool):TI { t with halted:=b } v Q R q m :=
 ⟨⟨⟨h.td.sd,h.td.Bx,h.td.ret,h.td.nQ,h.td.nR⟩,h.gi,h.rg,h.cfg,h.tq,h.tr,h.nt,h.lq,h.lr,h.mB,h.qn,h.rn⟩,h.G0,h.G1⟩
theorem TI.over {t:State} {v:SV} {Q R:Option (List Request)} {q m:Int} (h:TI t v Q R q m) (b:Bool):TI { t with overflow:=b } v Q R q m :=
 ⟨⟨⟨h.td.sd,h.td.Bx,h.td.ret,h.td.nQ,h.td.nR⟩,h.gi,h.rg,h.cfg,h.tq,h.tr,h.nt,h.lq,h.lr,h.mB,h.qn,h.rn⟩,h.G0,h.G1⟩
theorem TI0.aBx {t:State} {v:SV} {Q R:Option (List Request)} {q m:Int} (h:TI0 t v Q R q m):t.store.cFg.mA.oC≤256:=by obtain⟨b,hb⟩:=h.cfg;exact hb.oC.2
theorem TI0.jI {t:State} {v:SV} {Q R:Option (List Request)} {q m:Int} (h:TI0 t v Q R q m):0<(ol v.B).length∧(ol v.B).length≤64:=by
 obtain⟨b,hb⟩:=h.cfg
 have e:=h.gi.sd.jI.symm.trans hb.jI
 have n:=hb.nb
 cases hB:v.B with
 | none=>rw[hB] at e;cases e
 | some l =>
   rw[hB] at e;have e:AV.sl l.length (bC l)=AV.sl b.length (bC b):=e
   injection e with e1 e2
   show 0<l.length∧l.length≤64
   omega
theorem TI0.drop {t:State} {v:SV} {Q R:Option (List Request)} {q m:Int} (h:TI0 t v Q R q m):TI (SS t v Q R) v (nz (pC v.ns (ol Q))) (nz (pC v.ns (ol R))) q m:=by
 have s1:(pC v.ns (ol Q)).Sublist (ol Q):=List.filter_sublist
 have s2:(pC v.ns (ol R)).Sublist (ol R):=List.filter_sublist
 have l1:=s1.length_le
 have l2:=s2.length_le
 have a1:=h.lq
 have a2:=h.lr
 refine⟨⟨h.td.drp,h.gi,h.rg,h.cfg, ?_, ?_,h.nt, ?_, ?_,h.mB,Wa _,Wa _⟩, ?_, ?_⟩
 ·rw[oO];exact h.tq.sub s1
 ·rw[oO];exact h.tr.sub s2
 ·rw[oO];omega
 ·rw[oO];show _≤t.store.cFg.mA.oC;omega
 ·rw[oO];intro r hr;exact of_decide_eq_true (List.mem_filter.1 hr).2
 ·rw[oO];intro r hr;exact of_decide_eq_true (List.mem_filter.1 hr).2
theorem TI.due {t:State} {v:SV} {Q R:Option (List Request)} {q m:Int} (h:TI t v Q R q m) (hm:m+256≤100000):TI (aBv t v.ns Q R) v (FP t v.ns Q R).1.1 (nz (FP t v.ns Q R).2) q (m+256):=by
 have a1:=h.lq
 have a2:=h.lr
 have a3:=h.aBx
 have a4:=h.nt
 obtain⟨h1,h2,h3,h4,h5⟩:=Ng v.ns t.store.now (ol R) ((Q,t.cJ),[]) h.tq h.G0 (by dsimp only;omega)
 have hl:=LV v.ns t.store.now (ol R) ((Q,t.cJ),[])
 rw[List.nil_append] at h5;have e1:yZ v.ns t.store.now ((Q,t.cJ),[]) (ol R)=FP t v.ns Q R:=rfl
 rw[e1] at h1 h2 h3 h4 h5 hl;dsimp only at h3 h4 hl
 have s2:(FP t v.ns Q R).2.Sublist (ol R):=by rw[h5];exact List.filter_sublist
 have l2:=s2.length_le
 have Pl:=hl.1
 have:=h.mB
 refine⟨⟨⟨h.td.sd,rfl,rfl,by omega,by rw[oO];omega⟩,h.gi,h.rg,h.cfg,h1, ?_, ?_,by omega, ?_,hm,XL v.ns t.store.now (ol R) ((Q,t.cJ),[]) h.qn,Wa _⟩,h2, ?_⟩
 ·rw[oO];exact (h.tr.sub s2).mono h3
 ·show (FP t v.ns Q R).1.2≤_;omega
 ·rw[oO];show _≤t.store.cFg.mA.oC;omega
 ·rw[oO];exact h.G1.sub s2
theorem TI.open {t:State} {v:SV} {Q R:Option (List Request)} {q m:Int} (h:TI t v Q R q m) (L:List cM) (hL:(L.length:Int)≤100) (hm:m+256≤100000):TI (FI t (Kt v.ns (Q,t.cJ) L)) v (Kt v.ns (Q,t.cJ) L).1 R q (m+256):=by
 have a1:=h.lq
 have a4:=h.nt
 obtain⟨h1,h2,h3,h4⟩:=FR v.ns L (Q,t.cJ) h.tq h.G0 (by dsimp only;omega)
 have hl:=XJ v.ns (Q,t.cJ) L
 dsimp only at h3 h4 hl
 refine⟨⟨h.td.FI _ (by omega),h.gi,h.rg,h.cfg,h1,h.tr.mono h3, ?_,by omega,h.lr,hm,M8 v.ns L (Q,t.cJ) h.qn,h.rn⟩,h2,h.G1⟩
 show (Kt v.ns (Q,t.cJ) L).2≤_;omega
theorem TI.N1 {t:State} {v:SV} {Q R:Option (List Request)} {q m:Int} (h:TI t v Q R q m) {r:Request} (hr:r.tagged.tag<t.cJ):∃R',TI (o9 t v.ns (ol R) r) v Q R' q m:=by
 unfold o9;split
 ·exact⟨R,h⟩
 split
 ·exact⟨R,h.over true⟩
 ·rename_i g1 g2;have g1:=Classical.not_not.1 g1
  have hl:(Bp (ol R).length (ol R++[LZ t r])).length=(ol R).length+1:=by rw[LY,List.length_append,List.length_cons,List.length_nil]
  have a3:=h.aBx
  refine⟨some (Bp (ol R).length (ol R++[LZ t r])),⟨⟨h.td.sd,h.td.Bx,rfl,h.td.nQ, ?_⟩,h.gi,h.rg,h.cfg,h.tq,h.tr.bub (x:=LZ t r) hr,h.nt,h.lq, ?_,h.mB,h.qn,fun e=>by injection e with e;rw[e] at hl;simp at hl⟩,h.G0,h.G1.bub (x:=LZ t r) g1.1⟩
  ·show ((Bp (ol R).length (ol R++[LZ t r])).length:Int)<_;omega
  ·show ((Bp (ol R).length (ol R++[LZ t r])).length:Int)≤t.store.cFg.mA.oC;omega
theorem TI.less {t:State} {v:SV} {Q R:Option (List Request)} {q m:Int} (h:TI t v Q R q m) (k:Nat):TI { t with dQ:=ov aA (nz ((ol Q).take k++(ol Q).drop (k+1)))} v (nz ((ol Q).take k++(ol Q).drop (k+1))) R q m:=by
 have s:((ol Q).take k++(ol Q).drop (k+1)).Sublist (ol Q):=by rw[← List.eraseIdx_eq_take_drop_succ];exact List.eraseIdx_sublist ..
 have l1:=s.length_le
 have a1:=h.lq
 have:=h.td.nQ
 exact⟨⟨⟨h.td.sd,rfl,h.td.ret,by rw[oO];omega,h.td.nR⟩,h.gi,h.rg,h.cfg,by rw[oO];exact h.tq.sub s,h.tr,h.nt,by rw[oO];omega,h.lr,h.mB,Wa _,h.rn⟩,by rw[oO];exact h.G0.sub s,h.G1⟩
theorem TI.tree {t:State} {v:SV} {Q R:Option (List Request)} {q m:Int} (h:TI t v Q R q m) {r:List Node} (hs:SB v.ns r) (b:cM):TI { t with store:={ t.store with tree:=⟨.sl r.length (cC r)⟩,iD:=b }} { v with ns:=r } Q R q m:=by
 have g:=(h.gi.tree hs).iD b
 have e:=(h.rg.tree hs ⟨.sl r.length (cC r)⟩).iD b
 exact⟨h.toTI0.store g e rfl,fun x hx=>by show 0≤aM r x.block;rw[hs.aM];exact h.G0 x hx,fun x hx=>by show 0≤aM r x.block;rw[hs.aM];exact h.G1 x hx⟩
def zB (Q:List Request) (tag:Int) (k:Nat):Prop:=(gx bW Q (k:Int)).tagged.tag=tag
theorem x27 {t:State} {v:SV} {Q R:Option (List Request)} (h:TD t v Q R) (w:eD):∃x,aC Tryz.prog 27 [.agg (aI t),.agg (bN w)]=some x ∧
 (((∀j:Nat,j<(ol Q).length→¬zB (ol Q) w.tagged.tag j)∧x=.eE [.agg (bK bW),.agg (aI gP),.v (.int .i64 23)]) ∨
  ∃k:Nat,k<(ol Q).length∧zB (ol Q) w.tagged.tag k∧(∀j:Nat,j<k→¬zB (ol Q) w.tagged.tag j)∧x=.eE [.agg (bK (gx bW (ol Q) (k:Int))),.agg (aI { t with dQ:=ov aA (nz ((ol Q).take k++(ol Q).drop (k+1)))}),.v (.int .i64 0)]):=by
 have jJ:=h.fl
 have nQ:=h.nQ
 have nQ1:((ol Q).length:Int)<1000000:=by omega
 have Mk:Flat (.agg (aI gP)):=by simp only[dY,gP,eF,nA,Gq,Ao,Kq,and_self]
 rw[cG Tryz.func27 rfl aPK (by kernel_rfl) rfl]
 simp only[ZG,seval,Bool.false_and,Prod.mk.injEq,FV];refine mC (fun m st=>∃k:Nat,(st.env 2=.ptr 2 0 0∧st.heap 2 0=some (.cells (aI t))∧st.env 3=.ptr 3 0 0∧st.heap 3 0=some (.cells (bN w))∧st.env 4=.ptr 4 0 0∧st.heap 4 0=some (.cells (bK bW))∧st.env 5=.ptr 5 0 0∧st.heap 5 0=some (.cells (aI gP))∧st.env 7=.v (.int .i64 k))∧(∀j:Nat,j<k→¬zB (ol Q) w.tagged.tag j)∧k≤(ol Q).length∧m=(ol Q).length-k)
  (fun e st=>(e=.ret∧∃(k:Nat) (X:AV),(st.env 4=.ptr 4 0 0∧st.heap 4 0=some (.cells (bK (gx bW (ol Q) (k:Int))))∧st.env 5=.ptr 5 0 0∧st.heap 5 0=some (.cells (aI { t with dQ:=X }))∧st.env 6=.v (.int .i64 0))∧((X=.v (.slice none 0 0)∧(ol Q).take k++(ol Q).drop (k+1)=[])∨∃g,X=.own 42 g∧(ol Q).take k++(ol Q).drop (k+1)≠[]∧st.heap 42 g=some (.row 63 35 ((ol Q).take k++(ol Q).drop (k+1)).length (aA ((ol Q).take k++(ol Q).drop (k+1)))))∧k<(ol Q).length∧zB (ol Q) w.tagged.tag k∧(∀j:Nat,j<k→¬zB (ol Q) w.tagged.tag j)) ∨
   (e=.exit 0∧(st.env 4=.ptr 4 0 0∧st.heap 4 0=some (.cells (bK bW))∧st.env 5=.ptr 5 0 0∧st.heap 5 0=some (.cells (aI gP)))∧∀j:Nat,j<(ol Q).length→¬zB (ol Q) w.tagged.tag j)) (ol Q).length ?step ?start ?rest
 case step =>
  rintro m st ⟨k,hI,hj,hk,hm⟩
  by_cases bB:(k:Int)<(ol Q).length
  case neg =>
   apply JK (.exit 0)
   ·simp only[ZG,seval,Bool.false_and,Prod.mk.injEq,FV,hI,h.Bx,bB];rfl
   ·exact .inr ⟨rfl,by simp only[E8,seval,hI],fun j hj'=>hj j (by omega)⟩
  have q0:(0:Int)≤k:=by omega
  have q2:(k:Int)≤((ol Q).length:Int):=by omega
  have q3:(0:Int)≤((k+1:Nat):Int):=by omega
  have q4:((k+1:Nat):Int)≤((ol Q).length:Int):=by omega
  have hw:IntKind.i64.wrap ((k:Int)+1)=((k+1:Nat):Int):=by rw[qA _ (by omega) (by omega)];omega
  have n1:((((ol Q).take k).length:Nat):Int)<1000000:=by rw[List.length_take];omega
  have n2:((((ol Q).drop (k+1)).length:Nat):Int)<1000000:=by rw[List.length_drop];omega
  have e1:ol (Q.map (·.take k))=(ol Q).take k:=by cases Q<;>simp[ol]
  have e2:ol (Q.map (·.drop (k+1)))=(ol Q).drop (k+1):=by cases Q<;>simp[ol]
  by_cases hh:zB (ol Q) w.tagged.tag k
  ·have hh':(gx bW (ol Q) (k:Int)).tagged.tag=w.tagged.tag:=hh
   obtain⟨LL,Zu⟩:∃LL,(ol Q).take k++(ol Q).drop (k+1)=LL:=⟨_,rfl⟩
   by_cases hz:LL=[]
   ·have hT:((ol Q).take k).length=0:=by have:=congrArg List.length Zu;rw[hz,List.length_append] at this;simp only[List.length_nil] at this;omega
    have hD:((ol Q).drop (k+1)).length=0:=by have:=congrArg List.length Zu;rw[hz,List.length_append] at this;simp only[List.length_nil] at this;omega
    apply JK (.ret)
    ·simp only[ZG,seval,Bool.false_and,Prod.mk.injEq,FV,hI,h.Bx,bB,q0,q2,q3,q4,hw,bt hh',Int.toNat_natCast,iF,iG,Bq,Option.isSome_some,Option.map_some,Option.some.injEq,hT,hD,e1,e2];rfl
    ·exact .inl ⟨rfl,k,.v (.slice none 0 0),by simp only[E8,seval,hI]<;>rfl,.inl ⟨rfl,Zu.trans hz⟩,by omega,hh,hj⟩
   have AE:(LL.length=0)=False:=eq_false fun h=>hz (List.length_eq_zero_iff.1 h)
   have n3:((LL.length:Nat):Int)<1000000:=by rw[← Zu,List.length_append,List.length_take,List.length_drop];omega
   by_cases tP:k=0
   ·have hT:((ol Q).take k).length=0:=by rw[tP];rfl
    have hD:(ol Q).drop (k+1)=LL:=by rw[← Zu,tP];rfl
    apply JK (.ret)
    ·simp only[ZG,seval,Bool.false_and,Prod.mk.injEq,FV,hI,h.Bx,bB,q0,q2,q3,q4,hw,bt hh',Int.toNat_natCast,iF,iG,Bq,Option.isSome_some,Option.map_some,Option.some.injEq,hT,hD,AE,qN _ n3,e1,e2];rfl
    ·exact .inl ⟨rfl,k,_,by simp only[E8,seval,hI]<;>rfl,.inr ⟨_,rfl,by rw[Zu];exact hz,by rw[Zu];simp only[E8,seval]<;>rfl⟩,by omega,hh,hj⟩
   ·have hT:(((ol Q).take k).length=0)=False:=eq_false (by rw[List.length_take];omega)
    apply JK (.ret)
    ·simp only[ZG,seval,Bool.false_and,Prod.mk.injEq,FV,hI,h.Bx,bB,q0,q2,q3,q4,hw,bt hh',Int.toNat_natCast,iF,iG,Bq,Option.isSome_some,Option.map_some,Option.some.injEq,hT,qN _ n1,Sd _ _ _ _ n1 n2,e1,e2];rfl
    ·exact .inl ⟨rfl,k,_,by simp only[E8,seval,hI]<;>rfl,.inr ⟨_,rfl,by rw[Zu];exact hz,by simp only[E8,seval]<;>rfl⟩,by omega,hh,hj⟩
  ·have hh':¬(gx bW (ol Q) (k:Int)).tagged.tag=w.tagged.tag:=hh
   apply Ea ((ol Q).length-(k+1))
   ·simp only[ZG,seval,Bool.false_and,Prod.mk.injEq,FV,hI,h.Bx,bB,q0,hw,bf hh'];rfl
   ·exact⟨k+1,by simp only[E8,seval,hI],fun j hj'=>(Nat.lt_succ_iff_lt_or_eq.1 hj').elim (hj j) fun e=>by subst e;exact hh,by omega,rfl⟩
 case start=>exact⟨0,by simp only[E8,seval]<;>rfl,fun j hj=>by omega,by omega,by omega⟩
 case rest =>
  rintro e st (⟨rfl,k,X,hI,hX,hk,hh,hj⟩|⟨rfl,hI,hj⟩)
  ·rcases hX with ⟨rfl,hz⟩|⟨g,rfl,hz,hg⟩
   ·have hfz:Flat (.agg (aI { t with dQ:=.v (.slice none 0 0)})):=(lO _).2 ⟨jJ.1,jJ.2.1,jJ.2.2.1,jJ.2.2.2.1,jJ.2.2.2.2.1,jJ.2.2.2.2.2.1,jJ.2.2.2.2.2.2.1,.v _,jJ.2.2.2.2.2.2.2.2⟩
    simp only[ZG,seval,Bool.false_and,Prod.mk.injEq,FV,hI];exact⟨_,cN rfl (by simp only[bJ,Z8,seval,hI]<;>rfl) (by simp only[bJ,Z8,seval,hI]<;>rfl) (by simp only[bJ,E8,seval,hI]<;>rfl) (dX (.agg _ (eI _))) (dX hfz) (by simp only[Z8,seval]<;>rfl),.inr ⟨k,hk,hh,hj,by rw[hz,show nz ([]:List Request)=none from if_pos rfl];rfl⟩⟩
   ·simp only[ZG,seval,Bool.false_and,Prod.mk.injEq,FV,hI,hg];exact⟨_,cN rfl (by simp only[bJ,Z8,seval,hI]<;>rfl) (by simp only[bJ,Z8,seval,hI]<;>rfl) (by simp only[bJ,E8,seval,hI]<;>rfl) (dX (.agg _ (eI _))) (by simp only[Z8,seval,hI,hg,bP,vF,gI,bG,pB,cX,dY,jJ]<;>rfl) (by simp only[Z8,seval]<;>rfl),.inr ⟨k,hk,hh,hj,by rw[show nz ((ol Q).take k++(ol Q).drop (k+1))=some _ from if_neg hz];rfl⟩⟩
  ·simp only[ZG,seval,Bool.false_and,Prod.mk.injEq,FV,hI];exact⟨_,by apply cN;rfl;all_goals simp only[aE,bJ,Z8,seval,hI,Mk]<;>rfl,.inl ⟨hj,rfl⟩⟩
theorem aPL (ns:List Node) (hu:gZ ns) (hr:(nd ns 0).up=-1) (hn:(ns.length:Int)<1000000) (i:Int) (w:eD) (l:List Int) (hl:(l.length:Int)<1000000) (st:St) (a g:Nat) (d:Option Nat) (hh:st.heap a g=some (.row 3 1 l.length (aK l))) :
 fC (aC Tryz.prog) 222 [.agg (cP ⟨ns⟩),.v (.int .i64 i),.agg (bN w),.own a g] st d=some { dst:=d,val:=RQ ns i w l,dJ:=some (a,g,none)}:=by
 rw[Ii (s:=a) (k:=g) (by rw[List.flatMap_cons,List.flatMap_cons,List.flatMap_cons,vB (nJ _),vB (.v _),vB (.agg _ (gE w))];rfl) (by intro y hy;simp only[List.mem_cons,List.not_mem_nil,or_false] at hy;rcases hy with rfl|rfl|rfl|rfl;exact .inl (nJ _);exact .inl (.v _);exact .inl (.agg _ (gE w));exact .inr (.inl ⟨a,g,rfl⟩)),
  List.map_cons,List.map_cons,List.map_cons,List.map_cons,List.map_nil,dX (nJ _),dX (.v _),dX (.agg _ (gE w)),Ij hh,bR,bR,bR,bR,gR]
 exact DF (aNR ns hu hr hn i w l hl (.inl rfl)) (ZR ns i w l)
theorem aPM {t:State} {v:SV} {Q R:Option (List Request)} {q m:Int} (h:TI t v Q R q m) (w:eD) :
 ∃x,aC Tryz.prog 206 [.agg (aI t),.agg (bN w)]=some x∧∃(t':State) (e:Int) (v':SV) (Q' R':Option (List Request)),x=.eE [.agg (aI t'),.v (.int .i64 e)]∧TI t' v' Q' R' q m:=by
 have hf:=h.td.flat
 have jJ:=h.td.fl
 have fw:Flat (.agg (bN w)):=.agg _ (gE w)
 have Mk:Flat (.agg (aI gP)):=by simp only[dY,gP,eF,nA,Gq,Ao,Kq,and_self]
 obtain⟨y,hy,⟨hj,rfl⟩|⟨k,hk,hh,hj,rfl⟩⟩:=x27 h.td w
 ·have G2:=kx hy (bE hf fw) (.eE _ (lN (.agg _ (eI _)) Mk (.v _)))
  rw[cL Tryz.func206 rfl aEd rfl];simp only[Z8,seval,G2,eA];exact⟨_,by apply dO;rfl;all_goals simp only[aE,bJ,Z8,seval,hf]<;>rfl,t,23,v,Q,R,rfl,h⟩
 obtain⟨r,er⟩:∃r,gx bW (ol Q) (k:Int)=r:=⟨_,rfl⟩
 obtain⟨t1,et⟩:∃t1,({ t with dQ:=ov aA (nz ((ol Q).take k++(ol Q).drop (k+1)))}:State)=t1:=⟨_,rfl⟩
 have hr:r.tagged.tag<t.cJ:=by rw[← er];exact (h.tq.all _ (uY (by omega) (by omega))).2.1
 have h1:=h.less k
 rw[et] at h1;rw[er,et] at hy;have nt1:t1.cJ=t.cJ:=by rw[← et]
 have hf1:=h1.td.flat
 have MC:=h1.td.fl
 have G2:=kx hy (bE hf fw) (.eE _ (lN (.agg _ (eI _)) hf1 (.v _)))
 have hn:=h1.gi.sd.nn
 rw[cL Tryz.func206 rfl aEd rfl];by_cases g3:w.kind=3
 ·obtain⟨R',hR'⟩:=h1.N1 (r:=r) (by rw[nt1];exact hr)
  have ff:=hR'.td.flat
  have k72:=kx (c72 h1.td r) (bE hf1 (.agg _ (eI _))) ff
  simp only[Z8,seval,G2,eA,bt g3,k72];exact⟨_,by apply dO;rfl;all_goals simp only[aE,bJ,Z8,seval,ff]<;>rfl,_,0,v,_,R',rfl,hR'⟩
 by_cases g4:w.kind=4
 ·obtain⟨R',hR'⟩:=h1.N1 (r:=r) (by rw[nt1];exact hr)
  have ff:=hR'.td.flat
  have k72:=kx (c72 h1.td r) (bE hf1 (.agg _ (eI _))) ff
  simp only[Z8,seval,G2,eA,bf g3,bt g4,k72];exact⟨_,by apply dO;rfl;all_goals simp only[aE,bJ,Z8,seval,ff]<;>rfl,_,0,v,_,R',rfl,hR'⟩
 have DL:∀(st:St) (a g:Nat) (d:Option Nat),st.heap a g=some (.row 3 1 2 (aK [aM v.ns t1.store.aG.dN.root,aM v.ns t1.store.aG.fin.root]))→_:=fun st a g d hh=>aPL v.ns h1.gi.up h1.gi.KC hn (aM v.ns r.block) w [aM v.ns t1.store.aG.dN.root,aM v.ns t1.store.aG.fin.root] (by show ((2:Nat):Int)<_;omega) st a g d hh
 rcases aFu v.ns (aM v.ns r.block) w [aM v.ns t1.store.aG.dN.root,aM v.ns t1.store.aG.fin.root] with ⟨e,he,ej⟩|⟨Vx,hs,ej⟩
 ·rw[ej] at DL
  have hH:=h.halt true
  have fH:=hH.td.flat
  simp only[Z8,seval,G2,eA,bf g3,bf g4,Dv,h1.gi.sd.tree,jA _ _ hn,DL,bf he];exact⟨_,by apply dO;rfl;all_goals simp only[aE,bJ,Z8,seval,fH]<;>rfl,_,21,v,Q,R,rfl,hH⟩
 rw[ej] at DL
 have Iw:(Vx.length:Int)<1000000:=by rw[hs.len];exact hn
 have fr:=dW Vx t1.store.iD
 by_cases b0:0≤aM Vx t1.store.iD
 case neg =>
  have T:=h1.tree hs t1.store.iD
  have ft:=T.td.flat
  simp only[Z8,seval,G2,eA,bf g3,bf g4,Dv,h1.gi.sd.tree,jA _ _ hn,jA _ _ Iw,DL,b0];exact⟨_,by apply dO;rfl;all_goals simp only[aE,bJ,Z8,seval,ft]<;>rfl,_,0,_,_,R,rfl,T⟩
 by_cases b1:(nd Vx (aM Vx t1.store.iD)).status=2
 case neg =>
  have T:=h1.tree hs t1.store.iD
  have ft:=T.td.flat
  simp only[Z8,seval,G2,eA,bf g3,bf g4,Dv,h1.gi.sd.tree,jA _ _ hn,jA _ _ Iw,DL,b0,fr.2,bf b1];exact⟨_,by apply dO;rfl;all_goals simp only[aE,bJ,Z8,seval,ft]<;>rfl,_,0,_,_,R,rfl,T⟩
 have T:=h1.tree hs dK
 have ft:=T.td.flat
 simp only[Z8,seval,G2,eA,bf g3,bf g4,Dv,h1.gi.sd.tree,jA _ _ hn,jA _ _ Iw,DL,b0,fr.2,bt b1];exact⟨_,by apply dO;rfl;all_goals simp only[aE,bJ,Z8,seval,ft]<;>rfl,_,0,_,_,R,rfl,T⟩
end Go.Ab.Tryz
