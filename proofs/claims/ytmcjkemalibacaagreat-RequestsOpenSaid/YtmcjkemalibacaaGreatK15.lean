/-
  Part 15 of the proof: an evaluator of programs, its soundness, and what functions of this program compute.
-/
import Derived.Test.YtmcjkemalibacaaGreatK14
import Derived.Test.YtmcjkemalibacaaGreatK10
import Derived.Test.YtmcjkemalibacaaGreatK11
import Derived.Test.YtmcjkemalibacaaGreatK12
set_option linter.all false
set_option maxRecDepth 20000
set_option maxHeartbeats 40000000
namespace Go.Ab.Tryz
open Classical Go.Proofs Go.Ab
theorem OZ {s:aN} (h:1≤s.cFg.qW) {x y:Int} (hx:0≤x) (hxy:x≤y) (hy:y<18446744073709551616):Fh s x≤Fh s y:=by
 have e:∀z:Int,0≤z→z<18446744073709551616→Fh s z=z / s.cFg.qW:=fun z h0 h1=>by
  unfold Fh;rw[Int.tdiv_eq_ediv_of_nonneg h0];have:=Int.ediv_le_self s.cFg.qW h0
  exact wrap_u64 _ (Int.ediv_nonneg h0 (by omega)) (by omega)
 rw[e x hx (by omega),e y (by omega) hy]
 exact Int.ediv_le_ediv (by omega) hxy
theorem aCk {acc:Bool × fV × fV} {n:Node} (h1:Rg acc.2.1.aK) (h2:Rg acc.2.2.aK) (hn:RB n.block):Rg (OE acc n).2.1.aK∧Rg (OE acc n).2.2.aK:=by
 unfold OE;split
 ·exact⟨h1,h2⟩
 ·refine⟨?_, ?_⟩
  ·dsimp only;split
   ·exact hn.pj
   ·exact h1
  ·dsimp only;split
   ·exact hn.pf
   ·exact h2
theorem aCl {ns:List Node} (h:∀n∈ns,RB n.block):Rg (Lm ns).pj.aK∧Rg (Lm ns).pf.aK:=by
 have key:∀(l:List Node) (acc:Bool × fV × fV),(∀n∈l,RB n.block)→Rg acc.2.1.aK→Rg acc.2.2.aK→Rg (l.foldl OE acc).2.1.aK∧Rg (l.foldl OE acc).2.2.aK:=by
  intro l;induction l with
  | nil=>intro acc _ h1 h2;exact⟨h1,h2⟩
  | cons n l ih =>
    intro acc hl h1 h2;have hs:=aCk h1 h2 (hl n (List.mem_cons_self ..))
    exact ih _ (fun x hx=>hl x (List.mem_cons_of_mem _ hx)) hs.1 hs.2
 exact key ns _ h ⟨by show (0:Int)≤0;omega,by show (0:Int)<_;omega⟩ ⟨by show (0:Int)≤0;omega,by show (0:Int)<_;omega⟩
theorem Kf (s:aN) (X:AV):(xA s X).now=s.now:=rfl
theorem yY (s:aN) (X:AV):(xA s X).dS.early=X:=rfl
theorem Zr {s:aN} {v:SV} (h:SD s v) {L:List sH} (hL:∀x∈L,Flat x.eU) (st:St) {g:Nat} (hh:st.heap 61 g=some (.row 87 67 L.length (dD L))):fG st (.agg (aB (xA s (.own 61 g))))=some (.agg (aB (xA s (ov dD (some L))))):=by
 have kE:=h.fl
 have hx:=U1 L.length L hL
 unfold xA;simp only[bP,gJ,bA,hh,hx,bY,dU,kE,cK];rfl
theorem aLz {call:Nat→List AV→Option AV} {inl:Nat→List AV→St→Option (AV × St)} {ops:Array Oper} {st:St} {T:Nat} {pos:String} {eH:Array Edge} (x:Array Operand) (y:Array Nat) :
 gS Tryz.prog true call inl ops ⟨some 80,.call ⟨.value (.func 44),x,y⟩,T,pos,eH,none⟩ st=cH (inl 44 (x.toList.map st.ev) st) fun r=>some ((st.back r.2).put (some 80) r.1):=WJ 44 x y (Zs rfl)
noncomputable def Kg:Code:=kP (Tryz.f202.body.getD .skip)
def aQA (c0:Config) (E:Option (List sH)) (q:Int) (m:Nat) (st:St):Prop:=∃(k:Nat) (S:aN) (w:SV) (X:AV),(st.env 1=.ptr 1 0 0∧st.heap 1 0=some (.cells (aB (xA S X)))∧st.env 2=.ptr 2 0 0∧st.heap 2 0=some (.cells (aB gP))∧st.env 5=ov dD E∧st.env 6=.v (.int .i64 k)∧0<st.aP 1∧0<st.aP 2)∧((X=.v (.slice none 0 0)∧w.E=none)∨∃g L,w.E=some L∧X=.own 61 g∧g<st.aP 61∧st.heap 61 g=some (.row 87 67 L.length (dD L)))∧GI (xA S (ov dD w.E)) w q∧RG (xA S (ov dD w.E)) w∧S.cFg=c0∧(ol w.E).length≤k∧k≤(ol E).length∧m=(ol E).length-k
def aCm (c0:Config) (q:Int) (e:Ex) (st:St):Prop:=e=.exit 0∧∃(S:aN) (w:SV) (X:AV),(st.env 1=.ptr 1 0 0∧st.heap 1 0=some (.cells (aB (xA S X)))∧st.env 2=.ptr 2 0 0∧st.heap 2 0=some (.cells (aB gP)))∧((X=.v (.slice none 0 0)∧w.E=none)∨∃g L,w.E=some L∧X=.own 61 g∧st.heap 61 g=some (.row 87 67 L.length (dD L)))∧GI (xA S (ov dD w.E)) w q∧RG (xA S (ov dD w.E)) w∧S.cFg=c0
theorem U2 {c0:Config} {E:Option (List sH)} {q:Int} (hE:∀a∈ol E,Dk a) (hEa:∀a∈ol E,∃V,a.eU=ov aJ (some V)∧V≠[]) (nE:((ol E).length:Int)≤c0.mD.qC) (nE':((ol E).length:Int)<900000) {m:Nat} {st:St} (hs:aQA c0 E q m st):∃e st',wQ Tryz.prog true Kg st=some (e,st')∧aCm c0 q e st':=by
 have key:∃r,cH (wQ Tryz.prog true Kg st) some=some r∧aCm c0 q r.1 r.2:=by
  unfold Kg;simp only[Tryz.f202,Option.getD_some,kP];refine mE (fun m st=>∃(k:Nat) (S:aN) (w:SV) (X:AV),(st.env 1=.ptr 1 0 0∧st.heap 1 0=some (.cells (aB (xA S X)))∧st.env 2=.ptr 2 0 0∧st.heap 2 0=some (.cells (aB gP))∧st.env 5=ov dD E∧st.env 6=.v (.int .i64 k)∧0<st.aP 1∧0<st.aP 2)∧((X=.v (.slice none 0 0)∧w.E=none)∨∃g L,w.E=some L∧X=.own 61 g∧g<st.aP 61∧st.heap 61 g=some (.row 87 67 L.length (dD L)))∧GI (xA S (ov dD w.E)) w q∧RG (xA S (ov dD w.E)) w∧S.cFg=c0∧(ol w.E).length≤k∧k≤(ol E).length∧m=(ol E).length-k) (fun e st=>e=.exit 0∧∃(S:aN) (w:SV) (X:AV),(st.env 1=.ptr 1 0 0∧st.heap 1 0=some (.cells (aB (xA S X)))∧st.env 2=.ptr 2 0 0∧st.heap 2 0=some (.cells (aB gP)))∧((X=.v (.slice none 0 0)∧w.E=none)∨∃g L,w.E=some L∧X=.own 61 g∧st.heap 61 g=some (.row 87 67 L.length (dD L)))∧GI (xA S (ov dD w.E)) w q∧RG (xA S (ov dD w.E)) w∧S.cFg=c0) m ?step ?start ?rest
  case start=>exact hs
  case rest=>exact fun e st h=>⟨_,rfl,h⟩
  case step =>
   clear hs
   rintro m st ⟨k,S,w,X,hI,hX,hG,oK,hC,hF,hk,hm⟩
   by_cases aY:(k:Int)<(ol E).length
   case neg =>
    have hX':(X=.v (.slice none 0 0)∧w.E=none)∨∃g L,w.E=some L∧X=.own 61 g∧st.heap 61 g=some (.row 87 67 L.length (dD L)):=hX.imp id fun ⟨g,L,h1,h2,_,h4⟩=>⟨g,L,h1,h2,h4⟩
    apply MX (.exit 0)
    ·simp only[ZG,seval,Bool.false_and,Prod.mk.injEq,Bw,hI,aY];rfl
    ·exact⟨rfl,S,w,X,by simp only[E8,seval,hI],by simpa only[E8,seval] using hX',hG,oK,hC⟩
   have q0:(0:Int)≤k:=by omega
   have hw:IntKind.i64.wrap ((k:Int)+1)=((k+1:Nat):Int):=by rw[pZ _ (by omega) (by omega)];omega
   obtain⟨a,ea⟩:∃a,gx Lo (ol E) (k:Int)=a:=⟨_,rfl⟩
   have ha:Dk a:=by rw[← ea];exact hE _ (vU q0 aY)
   have hEa':∃V,a.eU=ov aJ (some V)∧V≠[]:=by rw[← ea];exact hEa _ (vU q0 aY)
   obtain⟨V,hV,nV⟩:=id ha
   have fa:Flat (.agg (gY a)):=(zP a).2 ha.fl
   have fl9:=hG.sd.flat
   by_cases g1:S.now≤a.slot
   · -- kept
    rcases hX with ⟨rfl,Zt⟩|⟨g,L,Zt,rfl,hg,hh⟩
    ·have Qh:=hG.early (some [a]) (by intro b hb;rw[show b=a by simpa [ol] using hb];exact ha) (by show ((1:Nat):Int)≤S.cFg.mD.qC;rw[hC];omega)
     have Ds:RG (xA S (ov dD (some [a]))) { w with E:=some [a]}:=⟨oK.now,oK.j,oK.f,oK.nd,oK.or,oK.rt,oK.fe,oK.ds,oK.tb,⟨oK.ne.q,by simp,oK.ne.o,oK.ne.t,fun b hb=>by rw[show b=a by simpa [ol] using hb];exact hEa' ,oK.ne.tb⟩⟩
     have an1:=JH a
     apply Ga ((ol E).length-(k+1))
     ·simp only[ZG,seval,Bool.false_and,Prod.mk.injEq,Bw,hI,aY,q0,ea,Kf,yY,g1,fa,an1,hw];rfl
     ·exact⟨k+1,S,{ w with E:=some [a]},_,by and_intros<;>(simp only[E8,seval,hI]<;>rfl),.inr ⟨_,[a],rfl,rfl,by simp only[E8,seval]<;>omega,by simp only[E8,seval]<;>rfl⟩,Qh,Ds,hC,by show 1≤k+1;omega,by omega,rfl⟩
    ·have hlL:L.length≤k:=by rw[Zt] at hF;exact hF
     have nL:(L.length:Int)<1000000:=by omega
     have uY:(g=st.aP 61)=False:=eq_false (by omega)
     have Qh:=hG.early (some (L++[a])) (by
      intro b hb;rcases List.mem_append.1 (show b∈L++[a] from hb) with hb|hb
      ·exact hG.sd.eV b (by rw[Zt];exact hb)
      ·rw[List.mem_singleton] at hb;rw[hb];exact ha) (by show (((L++[a]).length:Nat):Int)≤S.cFg.mD.qC;rw[hC,List.length_append,List.length_cons,List.length_nil];omega)
     have Ds:RG (xA S (ov dD (some (L++[a])))) { w with E:=some (L++[a])}:=⟨oK.now,oK.j,oK.f,oK.nd,oK.or,oK.rt,oK.fe,oK.ds,oK.tb,⟨oK.ne.q,by simp,oK.ne.o,oK.ne.t,fun b hb=>by rcases List.mem_append.1 (show b∈L++[a] from hb) with hb|hb;exact oK.ne.ea b (by rw[Zt];exact hb);rw[List.mem_singleton] at hb;rw[hb];exact hEa',oK.ne.tb⟩⟩
     apply Ga ((ol E).length-(k+1))
     ·simp only[ZG,seval,Bool.false_and,Prod.mk.injEq,Bw,hI,hh,uY,aY,q0,ea,Kf,yY,g1,fa,Xi _ _ _ _ nL,hw];rfl
     ·exact⟨k+1,S,{ w with E:=some (L++[a])},_,by and_intros<;>(simp only[E8,seval,hI]<;>rfl),.inr ⟨_,L++[a],rfl,rfl,by simp only[E8,seval]<;>omega,by simp only[E8,seval]<;>rfl⟩,Qh,Ds,hC,by show (L++[a]).length≤k+1;rw[List.length_append,List.length_cons,List.length_nil];omega,by omega,rfl⟩
   ·have c39':=c39 hG.sd hG.up hG.sp a V hV (by omega)
    have k39:∀(st:St) (d:Option Nat),fG st (.agg (aB (xA S X)))=some (.agg (aB (xA S (ov dD w.E))))→aM (aC Tryz.prog) 39 [.agg (aB (xA S X)),.agg (gY a)] st d=some { dst:=d,val:=.eG [.v (.bool (Hu (xA S (ov dD w.E)) w a (ol V)).1),.v (.int .i64 (Hu (xA S (ov dD w.E)) w a (ol V)).2)]}:=by
     intro st d hx;rw[lN,List.map_cons,List.map_cons,List.map_nil,hx,dM fa,bL,bL,gK];exact C7 c39' (by intro x hx;simp only[List.mem_cons,List.not_mem_nil,or_false] at hx;rcases hx with rfl|rfl<;>exact .v _) (.eG _ (bG (.v _) (.v _)))
    have Vb:GI (xA (Sv S w a (ol V)) (ov dD w.E)) { w with L:=some (uI (ol w.L) a.target.aK a.root (ol V)).1 } q:=hG.cast a (ol V)
    have Dt:RG (xA (Sv S w a (ol V)) (ov dD w.E)) { w with L:=some (uI (ol w.L) a.target.aK a.root (ol V)).1 }:=⟨oK.now,oK.j,oK.f,oK.nd,oK.or,oK.rt,oK.fe,oK.ds,oK.tb,⟨oK.ne.q,oK.ne.e,oK.ne.o,oK.ne.t,oK.ne.ea,oK.ne.tb⟩⟩
    rcases hX with ⟨rfl,Zt⟩|⟨g,L,Zt,rfl,hg,hh⟩
    ·have e0:ov dD w.E=.v (.slice none 0 0):=by rw[Zt];rfl
     have k39n:=fun st d=>k39 st d (by rw[e0];rw[e0] at fl9;exact dM fl9)
     by_cases g2:(Hu (xA S (ov dD w.E)) w a (ol V)).2=0
     case neg =>
      apply Ga ((ol E).length-(k+1))
      ·simp only[ZG,seval,Bool.false_and,Prod.mk.injEq,Bw,hI,aY,q0,ea,Kf,yY,g1,k39n,dY,bf g2,hw];rfl
      ·exact⟨k+1,S,w,_,by and_intros<;>(simp only[E8,seval,hI]<;>rfl),.inl ⟨rfl,Zt⟩,hG,oK,hC,by omega,by omega,rfl⟩
     have hr:∀x∈ol V,0≤x∧x<(ol w.L).length:=by rw[hG.OI];exact VV (IY g2)
     obtain⟨G,Ta⟩:=aEK hG.sd (.v (.slice none 0 0)) a V hV (by omega) hr
     have kG:∀st,Dr Tryz.prog 44 [.agg (aB (xA S (.v (.slice none 0 0)))),.agg (gY a)] st=some (.agg (aB (xA (Sv S w a (ol V)) (.v (.slice none 0 0)))),G st):=fun st=>(Ta st).1
     have f1:∀st:St,0<st.aP 1→(G st).heap 1 0=st.heap 1 0:=fun st h=>(Ta st).2.1 1 0 h
     have f2:∀st:St,0<st.aP 2→(G st).heap 2 0=st.heap 2 0:=fun st h=>(Ta st).2.1 2 0 h
     have c1:∀st:St,0<st.aP 1→(0<(G st).aP 1)=True:=fun st h=>eq_true (Nat.lt_of_lt_of_le h ((Ta st).2.2 1))
     have c2:∀st:St,0<st.aP 2→(0<(G st).aP 2)=True:=fun st h=>eq_true (Nat.lt_of_lt_of_le h ((Ta st).2.2 2))
     apply Ga ((ol E).length-(k+1))
     ·simp only[ZG,seval,Bool.false_and,Prod.mk.injEq,Bw,hI,aY,q0,ea,Kf,yY,g1,k39n,dY,bt g2,aLz,kG,f1,fK,dI,cC,hw];rfl
     ·exact⟨k+1,Sv S w a (ol V),{ w with L:=some (uI (ol w.L) a.target.aK a.root (ol V)).1 },_,⟨by simp only[E8,seval,hI,fK],by simp only[E8,seval,hI,dI,cC]<;>rfl,by simp only[E8,seval,hI,fK],by simp only[E8,seval,hI,dI,cC,f2],by simp only[E8,seval,hI,fK],by simp only[E8,seval,hI,fK],by simp only[E8,seval,hI,cC,c1],by simp only[E8,seval,hI,cC,c2]⟩,.inl ⟨rfl,Zt⟩,Vb,Dt,hC,by show (ol w.E).length≤k+1;omega,by omega,rfl⟩
    ·have hLf:∀x∈L,Flat x.eU:=fun x hx=>(hG.sd.eV x (by rw[Zt];exact hx)).fl
     have k39o:∀(st:St) (d:Option Nat),st.heap 61 g=some (.row 87 67 L.length (dD L))→_:=fun st d h61=>k39 st d (by rw[Zt];exact Zr hG.sd hLf st h61)
     by_cases g2:(Hu (xA S (ov dD w.E)) w a (ol V)).2=0
     case neg =>
      apply Ga ((ol E).length-(k+1))
      ·simp only[ZG,seval,Bool.false_and,Prod.mk.injEq,Bw,hI,hh,aY,q0,ea,Kf,yY,g1,k39o,dY,bf g2,hw];rfl
      ·exact⟨k+1,S,w,_,by and_intros<;>(simp only[E8,seval,hI]<;>rfl),.inr ⟨g,L,Zt,rfl,by simp only[E8,seval]<;>omega,by simp only[E8,seval,hh]⟩,hG,oK,hC,by omega,by omega,rfl⟩
     have hr:∀x∈ol V,0≤x∧x<(ol w.L).length:=by rw[hG.OI];exact VV (IY g2)
     obtain⟨G,Ta⟩:=aEK hG.sd (.own 61 g) a V hV (by omega) hr
     have kG:∀st,Dr Tryz.prog 44 [.agg (aB (xA S (.own 61 g))),.agg (gY a)] st=some (.agg (aB (xA (Sv S w a (ol V)) (.own 61 g))),G st):=fun st=>(Ta st).1
     have f1:∀st:St,0<st.aP 1→(G st).heap 1 0=st.heap 1 0:=fun st h=>(Ta st).2.1 1 0 h
     have f2:∀st:St,0<st.aP 2→(G st).heap 2 0=st.heap 2 0:=fun st h=>(Ta st).2.1 2 0 h
     have f3:∀st:St,g<st.aP 61→(G st).heap 61 g=st.heap 61 g:=fun st h=>(Ta st).2.1 61 g h
     have c1:∀st:St,0<st.aP 1→(0<(G st).aP 1)=True:=fun st h=>eq_true (Nat.lt_of_lt_of_le h ((Ta st).2.2 1))
     have c2:∀st:St,0<st.aP 2→(0<(G st).aP 2)=True:=fun st h=>eq_true (Nat.lt_of_lt_of_le h ((Ta st).2.2 2))
     have c3:∀st:St,g<st.aP 61→(g<(G st).aP 61)=True:=fun st h=>eq_true (Nat.lt_of_lt_of_le h ((Ta st).2.2 61))
     apply Ga ((ol E).length-(k+1))
     ·simp only[ZG,seval,Bool.false_and,Prod.mk.injEq,Bw,hI,hh,aY,q0,ea,Kf,yY,g1,k39o,dY,bt g2,aLz,kG,f1,fK,dI,cC,hw];rfl
     ·exact⟨k+1,Sv S w a (ol V),{ w with L:=some (uI (ol w.L) a.target.aK a.root (ol V)).1 },_,⟨by simp only[E8,seval,hI,fK],by simp only[E8,seval,hI,dI,cC]<;>rfl,by simp only[E8,seval,hI,fK],by simp only[E8,seval,hI,dI,cC,f2],by simp only[E8,seval,hI,fK],by simp only[E8,seval,hI,fK],by simp only[E8,seval,hI,cC,c1],by simp only[E8,seval,hI,cC,c2]⟩,.inr ⟨g,L,Zt,rfl,by simp only[E8,seval,cC,hg,c3],by simp only[E8,seval,dI,cC,hg,hh,f3]⟩,Vb,Dt,hC,by show (ol w.E).length≤k+1;omega,by omega,rfl⟩
 obtain⟨r,h,hq⟩:=key
 cases hx:wQ Tryz.prog true Kg st with
 | none=>rw[hx] at h;cases h
 | some y=>rw[hx] at h;simp only[cK,Option.some.injEq] at h;subst h;exact⟨y.1,y.2,rfl,hq⟩
theorem aQB {s:aN} {v:SV} {q:Int} (h:GI s v q) (r:RG s v):∃x,aC Tryz.prog 202 [.agg (aB s)]=some x∧StR s q x:=by
 have hz:=Ka
 have hf:=h.sd.flat
 have Ox:=h.sp
 rw[cG Tryz.func202 rfl aLB (by kernel_rfl) rfl]
 by_cases g1:1099511627776≤s.now
 ·simp only[ZG,seval,Bool.false_and,Prod.mk.injEq,Bw,g1];exact⟨_,by apply dO;rfl;all_goals simp only[aI,bT,Z8,seval,hz]<;>rfl,gP,3,rfl,hz,by decide,fun h=>by cases h⟩
 have hw:IntKind.u64.wrap (s.now+1)=s.now+1:=wrap_u64 _ (by have:=r.now.1;omega) (by have:=r.now.2;omega)
 obtain⟨s1,hs1⟩:∃s1:aN,s1={ s with now:=s.now+1,iG:=dE }:=⟨_,rfl⟩
 have h1:GI s1 v q:=by
  rw[hs1];exact⟨⟨h.sd.jO,h.sd.dT,h.sd.iB,h.sd.early,h.sd.bV,h.sd.tree,h.sd.tables,h.sd.eV,h.sd.tB,h.sd.nB,h.sd.nL,h.sd.nQ,h.sd.nE,h.sd.nO,h.sd.nT,h.sd.nn⟩,h.up,h.NM,h.pos,h.nl,h.VO,h.qW,h.OI,h.nB,h.nO,h.OJ,h.nE,h.UF,h.nT,h.VP,h.nQ,h.Q5,h.gW⟩
 have r1:RG s1 v:=by
  rw[hs1];exact⟨⟨by show 0≤s.now+1;have:=r.now.1;omega,by show s.now+1≤_;omega⟩,r.j,r.f,fun n hn=>⟨(r.nd n hn).1,by show n.block.slot≤s.now+1;have:=(r.nd n hn).2;omega⟩,r.or,r.rt,⟨r.fe.1,Int.le_trans r.fe.2 (show Fh s s.now≤Fh s (s.now+1) from OZ h.qW.1 r.now.1 (by omega) (by have:=r.now.2;omega))⟩,r.ds,r.tb,r.ne⟩
 have c1:s1.cFg=s.cFg:=by rw[hs1]
 have nE:=h.nE
 have UF:=h.UF
 subst hs1;have uE:∀(S:aN) (w:SV) (a b:fV),(Il S w a b).E=w.E:=fun S w a b=>by unfold Il;split;rfl;split<;>rfl
 by_cases g2:(s.now+1).tmod s.cFg.qW=0
 case neg =>
  simp only[ZG,seval,Bool.false_and,Prod.mk.injEq,Bw,g1,hw,Ox,bf g2,h.sd.early];refine Kh (a:=Kg) (aCm s.cFg q) (U2 (E:=v.E) h.sd.eV r.ne.ea (by omega) (by omega) (m:=(ol v.E).length) ⟨0,{ s with now:=s.now+1,iG:=dE },{ v with E:=none },.v (.slice none 0 0),⟨by simp only[E8,seval],by simp only[E8,seval]<;>rfl,by simp only[E8,seval],by simp only[E8,seval],by simp only[E8,seval],by simp only[E8,seval]<;>rfl,by simp only[E8,seval]<;>omega,by simp only[E8,seval]<;>omega⟩,.inl ⟨rfl,rfl⟩,h1.early none (by simp[ol]) (by show ((0:Nat):Int)≤_;rw[c1];omega),⟨r1.now,r1.j,r1.f,r1.nd,r1.or,r1.rt,r1.fe,r1.ds,r1.tb,⟨r1.ne.q,nofun,r1.ne.o,r1.ne.t,(fun a ha=>by cases ha),r1.ne.tb⟩⟩,c1,by simp[ol],by omega,by omega⟩) ?rest
  rintro e st ⟨rfl,S,w,X,hI,hX,hG,oK,hC⟩
  have DO:=hG.sd.flat
  rcases hX with ⟨rfl,Zt⟩|⟨g,L,Zt,rfl,hh⟩
  ·rw[Zt] at DO hG oK;have hf1:Flat (.agg (aB (xA S (.v (.slice none 0 0))))):=DO
   simp only[ZG,seval,Bool.false_and,Prod.mk.injEq,Bw,hI];exact⟨_,by apply dO;rfl;all_goals simp only[aI,bT,Z8,seval,hI,hf1]<;>rfl,_,0,rfl,hf1,by decide,fun _=>⟨w,hG,oK,hC⟩⟩
  ·have hLf:∀x∈L,Flat x.eU:=fun x hx=>(hG.sd.eV x (by rw[Zt];exact hx)).fl
   have hex:∀st:St,st.heap 61 g=some (.row 87 67 L.length (dD L))→fG st (.agg (aB (xA S (.own 61 g))))=some (.agg (aB (xA S (ov dD (some L))))):=fun st hh=>Zr hG.sd hLf st hh
   rw[Zt] at DO hG oK;simp only[ZG,seval,Bool.false_and,Prod.mk.injEq,Bw,hI];exact⟨_,by apply dO;rfl;all_goals simp only[aI,bT,Z8,seval,hI,hh,hex]<;>rfl,_,0,rfl,DO,by decide,fun _=>⟨w,hG,oK,hC⟩⟩
 have k67':=k67 h1.sd
 have pv:=aCl fun n hn=>(r1.nd n hn).1
 have k61':=k61 h1.sd h1.up h1.sp (Lm v.ns).pj (Lm v.ns).pf
 have h2:=h1.dJ (Lm v.ns).pj (Lm v.ns).pf
 have r2:=RG.dJ r1 pv.1 pv.2
 have c2:=wZ { s with now:=s.now+1,iG:=dE } v (Lm v.ns).pj (Lm v.ns).pf
 have e2:=h2.sd.early
 rw[uE] at e2;obtain⟨S2,hS2⟩:∃S2,xQ { s with now:=s.now+1,iG:=dE } v (Lm v.ns).pj (Lm v.ns).pf=S2:=⟨_,rfl⟩
 rw[hS2] at k61' h2 r2 c2 e2
 have c3:S2.cFg=s.cFg:=c2
 simp only[ZG,seval,Bool.false_and,Prod.mk.injEq,Bw,g1,hw,Ox,bt g2,k67',k61',e2];refine Kh (a:=Kg) (aCm s.cFg q) (U2 (E:=v.E) h.sd.eV r.ne.ea (by omega) (by omega) (m:=(ol v.E).length) ⟨0,S2,{ Il { s with now:=s.now+1,iG:=dE } v (Lm v.ns).pj (Lm v.ns).pf with E:=none },.v (.slice none 0 0),⟨by simp only[E8,seval],by simp only[E8,seval]<;>rfl,by simp only[E8,seval],by simp only[E8,seval],by simp only[E8,seval],by simp only[E8,seval]<;>rfl,by simp only[E8,seval]<;>omega,by simp only[E8,seval]<;>omega⟩,.inl ⟨rfl,rfl⟩,h2.early none (by simp[ol]) (by show ((0:Nat):Int)≤_;rw[c3];omega),⟨r2.now,r2.j,r2.f,r2.nd,r2.or,r2.rt,r2.fe,r2.ds,r2.tb,⟨r2.ne.q,nofun,r2.ne.o,r2.ne.t,(fun a ha=>by cases ha),r2.ne.tb⟩⟩,c3,by simp[ol],by omega,by omega⟩) ?OK
 rintro e st ⟨rfl,S,w,X,hI,hX,hG,oK,hC⟩
 have DO:=hG.sd.flat
 rcases hX with ⟨rfl,Zt⟩|⟨g,L,Zt,rfl,hh⟩
 ·rw[Zt] at DO hG oK;have hf1:Flat (.agg (aB (xA S (.v (.slice none 0 0))))):=DO
  simp only[ZG,seval,Bool.false_and,Prod.mk.injEq,Bw,hI];exact⟨_,by apply dO;rfl;all_goals simp only[aI,bT,Z8,seval,hI,hf1]<;>rfl,_,0,rfl,hf1,by decide,fun _=>⟨w,hG,oK,hC⟩⟩
 ·have hLf:∀x∈L,Flat x.eU:=fun x hx=>(hG.sd.eV x (by rw[Zt];exact hx)).fl
  have hex:∀st:St,st.heap 61 g=some (.row 87 67 L.length (dD L))→fG st (.agg (aB (xA S (.own 61 g))))=some (.agg (aB (xA S (ov dD (some L))))):=fun st hh=>Zr hG.sd hLf st hh
  rw[Zt] at DO hG oK;simp only[ZG,seval,Bool.false_and,Prod.mk.injEq,Bw,hI];exact⟨_,by apply dO;rfl;all_goals simp only[aI,bT,Z8,seval,hI,hh,hex]<;>rfl,_,0,rfl,DO,by decide,fun _=>⟨w,hG,oK,hC⟩⟩
def Du (t:State) (X Y:AV) (tag:Int):State:={ t with cY:=X,oD:=Y,bB:=tag }
theorem aLC:aE 0 3 (some 3)=[]∧aE 1 8 (some 8)=[]∧aE 2 8 (some 14)=[]∧aE 3 5 (some 21)=[]∧aE 4 2 (some 25)=[]:=⟨rfl,rfl,rfl,rfl,rfl⟩
theorem aEN (t:State) (Y:AV) (o:Option (List Request)) (tag:Int) (hn:((ol o).length:Int)<1000000) (r:cA) (n:Int) :
 ∃G:St→St,∀st,Dr Tryz.prog 86 [.agg (aF (Du t (ov aA o) Y tag)),.agg (aV r),.v (.int .i64 n)] st=some (.agg (aF (Du t (.own 19 (st.aP 19)) Y (IntKind.u64.wrap (tag+1)))),G st)∧Hs st (G st)∧(G st).heap 19 (st.aP 19)=some (.row 63 35 (ol o++[(⟨⟨tag⟩,r,n,0⟩:Request)]).length (aA (ol o++[(⟨⟨tag⟩,r,n,0⟩:Request)])))∧st.aP 19<(G st).aP 19:=by
 have one:∀st,∃st',Dr Tryz.prog 86 [.agg (aF (Du t (ov aA o) Y tag)),.agg (aV r),.v (.int .i64 n)] st=some (.agg (aF (Du t (.own 19 (st.aP 19)) Y (IntKind.u64.wrap (tag+1)))),st')∧Hs st (st')∧(st').heap 19 (st.aP 19)=some (.row 63 35 (ol o++[(⟨⟨tag⟩,r,n,0⟩:Request)]).length (aA (ol o++[(⟨⟨tag⟩,r,n,0⟩:Request)])))∧st.aP 19<(st').aP 19:=by
  intro st;by_cases hy:True
  case neg=>exact⟨st,absurd trivial hy⟩
  suffices h:∃st',Dr Tryz.prog 86 [.agg (aF (Du t (ov aA o) Y tag)),.agg (aV r),.v (.int .i64 n)] st=some (.agg (aF (Du t (.own 19 (st.aP 19)) Y (IntKind.u64.wrap (tag+1)))),st')∧Hs st (st')∧(st').heap 19 (st.aP 19)=some (.row 63 35 (ol o++[(⟨⟨tag⟩,r,n,0⟩:Request)]).length (aA (ol o++[(⟨⟨tag⟩,r,n,0⟩:Request)])))∧st.aP 19<(st').aP 19 by
   obtain⟨st',h⟩:=h
   exact⟨st',h⟩
  have e1:(Du t (ov aA o) Y tag).cY=ov aA o:=rfl
  have e2:(Du t (ov aA o) Y tag).bB=tag:=rfl
  have zR:bU.due=0:=rfl
  rw[JD Tryz.prog Tryz.func86 rfl (by kernel_rfl)]
  simp only[ZG,seval,Bool.false_and,Prod.mk.injEq,aLC,e1,e2,zR,rA _ hn,mA _ _ _ _ hn];refine⟨_,Zn (P:=Tryz.prog) (fn:=Tryz.f86) (r:=.cell 6 58) (x:=.agg (aF (Du t (.own 19 (st.aP 19)) Y (IntKind.u64.wrap (tag+1))))) (.inl rfl) rfl ?h1,⟨fun x g hg=>?h2,fun x=>?h3⟩, ?h4, ?h5⟩
  case h1 =>
   rw[Bl];simp only[bT,Z8,seval];rfl
  case h2 =>
   have n3:(x=3∧g=st.aP 3)=False:=eq_false (by rintro⟨rfl,rfl⟩;omega)
   have n4:(x=4∧g=st.aP 4)=False:=eq_false (by rintro⟨rfl,rfl⟩;omega)
   have n6:(x=6∧g=st.aP 6)=False:=eq_false (by rintro⟨rfl,rfl⟩;omega)
   have n7:(x=7∧g=st.aP 7)=False:=eq_false (by rintro⟨rfl,rfl⟩;omega)
   have n16:(x=16∧g=st.aP 16)=False:=eq_false (by rintro⟨rfl,rfl⟩;omega)
   have n18:(x=18∧g=st.aP 18)=False:=eq_false (by rintro⟨rfl,rfl⟩;omega)
   have n19:(x=19∧g=st.aP 19)=False:=eq_false (by rintro⟨rfl,rfl⟩;omega)
   simp only[E8,seval,dI,cC,n3,n4,n6,n7,n16,n18,n19,if_false]
  case h3 =>
   simp only[E8,seval,dI,cC];split<;>(try split)<;>(try split)<;>(try split)<;>(try split)<;>(try split)<;>(try split)<;>subst_vars<;>omega
  case h4=>simp only[E8,seval,dI,cC]
  case h5=>simp only[E8,seval,dI,cC]<;>omega
 exact⟨fun st=>Classical.choose (one st),fun st=>Classical.choose_spec (one st)⟩
theorem U3 (t:State) (Y:AV) (g0:Nat) (L:List Request) (tag:Int) (hn:((L).length:Int)<1000000) (r:cA) (n:Int) :
 ∃G:St→St,∀st,(st.heap 19 g0=some (.row 63 35 L.length (aA L))∧g0<st.aP 19)→Dr Tryz.prog 86 [.agg (aF (Du t (.own 19 g0) Y tag)),.agg (aV r),.v (.int .i64 n)] st=some (.agg (aF (Du t (.own 19 (st.aP 19)) Y (IntKind.u64.wrap (tag+1)))),G st)∧Hs st (G st)∧(G st).heap 19 (st.aP 19)=some (.row 63 35 (L++[(⟨⟨tag⟩,r,n,0⟩:Request)]).length (aA (L++[(⟨⟨tag⟩,r,n,0⟩:Request)])))∧st.aP 19<(G st).aP 19:=by
 have one:∀st,∃st',(st.heap 19 g0=some (.row 63 35 L.length (aA L))∧g0<st.aP 19)→Dr Tryz.prog 86 [.agg (aF (Du t (.own 19 g0) Y tag)),.agg (aV r),.v (.int .i64 n)] st=some (.agg (aF (Du t (.own 19 (st.aP 19)) Y (IntKind.u64.wrap (tag+1)))),st')∧Hs st (st')∧(st').heap 19 (st.aP 19)=some (.row 63 35 (L++[(⟨⟨tag⟩,r,n,0⟩:Request)]).length (aA (L++[(⟨⟨tag⟩,r,n,0⟩:Request)])))∧st.aP 19<(st').aP 19:=by
  intro st;by_cases hy:(st.heap 19 g0=some (.row 63 35 L.length (aA L))∧g0<st.aP 19)
  case neg=>exact⟨st,fun h=>absurd h hy⟩
  suffices h:∃st',Dr Tryz.prog 86 [.agg (aF (Du t (.own 19 g0) Y tag)),.agg (aV r),.v (.int .i64 n)] st=some (.agg (aF (Du t (.own 19 (st.aP 19)) Y (IntKind.u64.wrap (tag+1)))),st')∧Hs st (st')∧(st').heap 19 (st.aP 19)=some (.row 63 35 (L++[(⟨⟨tag⟩,r,n,0⟩:Request)]).length (aA (L++[(⟨⟨tag⟩,r,n,0⟩:Request)])))∧st.aP 19<(st').aP 19 by
   obtain⟨st',h⟩:=h
   exact⟨st',fun _=>h⟩
  have e1:(Du t (.own 19 g0) Y tag).cY=.own 19 g0:=rfl
  have e2:(Du t (.own 19 g0) Y tag).bB=tag:=rfl
  have zR:bU.due=0:=rfl
  have uY:(g0=st.aP 19)=False:=eq_false (by have:=hy.2;omega)
  rw[JD Tryz.prog Tryz.func86 rfl (by kernel_rfl)]
  simp only[ZG,seval,Bool.false_and,Prod.mk.injEq,aLC,e1,e2,zR,hy.1,uY,rA _ hn,mA _ _ _ _ hn];refine⟨_,Zn (P:=Tryz.prog) (fn:=Tryz.f86) (r:=.cell 6 58) (x:=.agg (aF (Du t (.own 19 (st.aP 19)) Y (IntKind.u64.wrap (tag+1))))) (.inl rfl) rfl ?h1,⟨fun x g hg=>?h2,fun x=>?h3⟩, ?h4, ?h5⟩
  case h1 =>
   rw[Bl];simp only[bT,Z8,seval];rfl
  case h2 =>
   have n3:(x=3∧g=st.aP 3)=False:=eq_false (by rintro⟨rfl,rfl⟩;omega)
   have n4:(x=4∧g=st.aP 4)=False:=eq_false (by rintro⟨rfl,rfl⟩;omega)
   have n6:(x=6∧g=st.aP 6)=False:=eq_false (by rintro⟨rfl,rfl⟩;omega)
   have n7:(x=7∧g=st.aP 7)=False:=eq_false (by rintro⟨rfl,rfl⟩;omega)
   have n16:(x=16∧g=st.aP 16)=False:=eq_false (by rintro⟨rfl,rfl⟩;omega)
   have n18:(x=18∧g=st.aP 18)=False:=eq_false (by rintro⟨rfl,rfl⟩;omega)
   have n19:(x=19∧g=st.aP 19)=False:=eq_false (by rintro⟨rfl,rfl⟩;omega)
   simp only[E8,seval,dI,cC,n3,n4,n6,n7,n16,n18,n19,if_false]
  case h3 =>
   simp only[E8,seval,dI,cC];split<;>(try split)<;>(try split)<;>(try split)<;>(try split)<;>(try split)<;>(try split)<;>subst_vars<;>omega
  case h4=>simp only[E8,seval,dI,cC]
  case h5=>simp only[E8,seval,dI,cC]<;>omega
 exact⟨fun st=>Classical.choose (one st),fun st=>Classical.choose_spec (one st)⟩
noncomputable def Nm (ns:List Node) (now:Int) (a:(Option (List Request) × Int) × List Request) (r:Request):(Option (List Request) × Int) × List Request :=
 if now<r.due then (a.1,a.2++[r]) else if sI ns r.block then ((some (ol a.1.1++[⟨⟨a.1.2⟩,r.block,r.tries,0⟩]),IntKind.u64.wrap (a.1.2+1)),a.2) else a
noncomputable def Ad (ns:List Node) (now:Int) (a:(Option (List Request) × Int) × List Request) (l:List Request):(Option (List Request) × Int) × List Request:=l.foldl (Nm ns now) a
theorem F9 (ns:List Node) (now:Int) (a:(Option (List Request) × Int) × List Request) (l:List Request) (k:Nat) (h:k<l.length):Ad ns now a (l.take (k+1))=Nm ns now (Ad ns now a (l.take k)) (gx bU l k):=by
 unfold Ad;rw[List.take_succ_eq_append_getElem h,List.foldl_append];simp[gx,h]
theorem U4 (ns:List Node) (now:Int) (a:(Option (List Request) × Int) × List Request) (r:Request):(ol (Nm ns now a r).1.1).length≤(ol a.1.1).length+1∧(Nm ns now a r).2.length≤a.2.length+1:=by
 unfold Nm;split
 ·refine⟨by dsimp only;omega, ?_⟩
  dsimp only;rw[List.length_append,List.length_cons,List.length_nil];omega
 ·split
  ·refine⟨?_,by dsimp only;omega⟩
   show (ol a.1.1++[_]).length≤_;rw[List.length_append,List.length_cons,List.length_nil];omega
  ·omega
theorem PA (ns:List Node) (now:Int) (l:List Request):∀(a:(Option (List Request) × Int) × List Request),(ol (Ad ns now a l).1.1).length≤(ol a.1.1).length+l.length∧(Ad ns now a l).2.length≤a.2.length+l.length:=by
 induction l with
 | nil=>intro a;exact⟨Nat.le_refl _,Nat.le_refl _⟩
 | cons r l ih =>
   intro a;have h1:=ih (Nm ns now a r)
   have h2:=U4 ns now a r
   rw[List.length_cons];show (ol (Ad ns now (Nm ns now a r) l).1.1).length≤_∧(Ad ns now (Nm ns now a r) l).2.length≤_
   omega
theorem pQ {st:St} (o:Option (List Request)):cF st (ov aA o)=some (ov aA o):=Zk (dK o)
theorem iK {st:St} {a g:Nat} {L:List Request} (h:st.heap a g=some (.row 63 35 L.length (aA L))):cF st (.own a g)=some (ov aA (some L)):=by
 rw[bA,h];exact pH _ _
theorem o9 {t:State} {v:SV} {Q R:Option (List Request)} (h:TD t v Q R) (st:St) {X Y X' Y':AV} (hx:cF st X=some X') (hy:cF st Y=some Y') (tag:Int):fG st (.agg (aF (Du t X Y tag)))=some (.agg (aF (Du t X' Y' tag))):=by
 have kE:=h.fl
 unfold Du;simp only[bP,vZ,gJ,hx,hy,bY,dU,kE,cK]
theorem TD.rq {t:State} {v:SV} {Q R:Option (List Request)} (h:TD t v Q R) (q z:Option (List Request)) (tag:Int) (hq:((ol q).length:Int)<900000) (hz:((ol z).length:Int)<900000):TD (Du t (ov aA q) (ov aA z) tag) v q z:=⟨h.sd,rfl,rfl,hq,hz⟩
theorem PB {t:State} {v:SV} {Q R:Option (List Request)} (h:TD t v Q R) (q z:Option (List Request)) (tag:Int) (hq:((ol q).length:Int)<900000) (hz:((ol z).length:Int)<900000) (r:cA) (st:St) (d:Option Nat) {X Y:AV} (hx:cF st X=some (ov aA q)) (hy:cF st Y=some (ov aA z)) :
 aM (aC Tryz.prog) 85 [.agg (aF (Du t X Y tag)),.agg (aV r)] st d=some { dst:=d,val:=.v (.bool (decide (sI v.ns r)))}:=by
 rw[lN,List.map_cons,List.map_cons,List.map_nil,o9 h st hx hy,Sx,bL,bL,gK];exact IC (c85 (h.rq q z tag hq hz) r)
theorem aCo {call:Nat→List AV→Option AV} {inl:Nat→List AV→St→Option (AV × St)} {ops:Array Oper} {st:St} {T:Nat} {pos:String} {eH:Array Edge} (x:Array Operand) (y:Array Nat) :
 gS Tryz.prog true call inl ops ⟨some 50,.call ⟨.value (.func 86),x,y⟩,T,pos,eH,none⟩ st=cH (inl 86 (x.toList.map st.ev) st) fun r=>some ((st.back r.2).put (some 50) r.1):=WJ 86 x y (Zs rfl)
noncomputable def JI (t:State) (ns:List Node) (Q R:Option (List Request)):(Option (List Request) × Int) × List Request:=Ad ns t.store.now ((Q,t.bB),[]) (ol R)
noncomputable def aCp (t:State) (ns:List Node) (Q R:Option (List Request)):State:=Du t (ov aA (JI t ns Q R).1.1) (ov aA (nz (JI t ns Q R).2)) (JI t ns Q R).1.2
theorem Cq (t:State) (X Y:AV) (tag:Int):(Du t X Y tag).cY=X:=rfl
theorem Cr (t:State) (X Y:AV) (tag:Int):(Du t X Y tag).oD=Y:=rfl
theorem Cs (t:State) (X Y:AV) (tag:Int):(Du t X Y tag).bB=tag:=rfl
theorem Ct (t:State) (X Y:AV) (tag:Int):(Du t X Y tag).store=t.store:=rfl
theorem c74 {t:State} {v:SV} {Q R:Option (List Request)} (h:TD t v Q R) (hn:((ol Q).length:Int)+(ol R).length<800000):aC Tryz.prog 74 [.agg (aF t)]=some (.agg (aF (aCp t v.ns Q R))):=by
 have kE:=h.fl
 have nR:=h.nR
 have hlen:∀k:Nat,(ol (Ad v.ns t.store.now ((Q,t.bB),[]) ((ol R).take k)).1.1).length≤(ol Q).length+(ol R).length∧(Ad v.ns t.store.now ((Q,t.bB),[]) ((ol R).take k)).2.length≤(ol R).length:=fun k=>by
  have h1:=PA v.ns t.store.now ((ol R).take k) ((Q,t.bB),[])
  have h2:=List.length_take_le' k (ol R)
  have e:(ol ((Q,t.bB),([]:List Request)).1.1).length=(ol Q).length:=rfl
  have e2:((Q,t.bB),([]:List Request)).2.length=0:=rfl
  rw[e,e2] at h1;omega
 rw[cG Tryz.func74 rfl aQF (by kernel_rfl) rfl]
 refine jG ?_
 simp only[ZG,seval,Bool.false_and,Prod.mk.injEq,Lp,h.ret];refine mE (fun m st=>∃(k:Nat) (X Y:AV) (p:(Option (List Request) × Int) × List Request),(st.env 1=.ptr 1 0 0∧st.heap 1 0=some (.cells (aF (Du t X Y p.1.2)))∧st.env 2=.ptr 2 0 0∧st.heap 2 0=some (.cells (aF iW))∧st.env 3=ov aA R∧st.env 4=.v (.int .i64 k)∧0<st.aP 1∧0<st.aP 2)∧(X=ov aA p.1.1∨∃g L,p.1.1=some L∧X=.own 19 g∧g<st.aP 19∧st.heap 19 g=some (.row 63 35 L.length (aA L)))∧((Y=.v (.slice none 0 0)∧p.2=[])∨∃g,p.2≠[]∧Y=.own 30 g∧g<st.aP 30∧st.heap 30 g=some (.row 63 35 p.2.length (aA p.2)))∧p=Ad v.ns t.store.now ((Q,t.bB),[]) ((ol R).take k)∧k≤(ol R).length∧m=(ol R).length-k)
  (fun e st=>e=.exit 0∧∃(X Y:AV) (p:(Option (List Request) × Int) × List Request),(st.env 1=.ptr 1 0 0∧st.heap 1 0=some (.cells (aF (Du t X Y p.1.2)))∧st.env 2=.ptr 2 0 0∧st.heap 2 0=some (.cells (aF iW)))∧(X=ov aA p.1.1∨∃g L,p.1.1=some L∧X=.own 19 g∧st.heap 19 g=some (.row 63 35 L.length (aA L)))∧((Y=.v (.slice none 0 0)∧p.2=[])∨∃g,p.2≠[]∧Y=.own 30 g∧st.heap 30 g=some (.row 63 35 p.2.length (aA p.2)))∧p=JI t v.ns Q R) (ol R).length ?step ?start ?rest
 case step =>
  rintro m st ⟨k,X,Y,p,hI,hX,hY,hp,hk,hm⟩
  by_cases aY:(k:Int)<(ol R).length
  case neg =>
   have Fg:k=(ol R).length:=by omega
   rw[Fg,List.take_length] at hp;have hX':(X=ov aA p.1.1∨∃g L,p.1.1=some L∧X=.own 19 g∧st.heap 19 g=some (.row 63 35 L.length (aA L))):=hX.imp id fun ⟨g,L,a,b,_,c⟩=>⟨g,L,a,b,c⟩
   have hY':((Y=.v (.slice none 0 0)∧p.2=[])∨∃g,p.2≠[]∧Y=.own 30 g∧st.heap 30 g=some (.row 63 35 p.2.length (aA p.2))):=hY.imp id fun ⟨g,a,b,_,c⟩=>⟨g,a,b,c⟩
   apply MX (.exit 0)
   ·simp only[ZG,seval,Bool.false_and,Prod.mk.injEq,Lp,hI,aY];rfl
   ·exact⟨rfl,X,Y,p,by simp only[E8,seval,hI],by simpa only[E8,seval] using hX',by simpa only[E8,seval] using hY',hp⟩
  have q0:(0:Int)≤k:=by omega
  have hw:IntKind.i64.wrap ((k:Int)+1)=((k+1:Nat):Int):=by rw[pZ _ (by omega) (by omega)];omega
  have hs:=F9 v.ns t.store.now ((Q,t.bB),[]) (ol R) k (by omega)
  have hl:=hlen k
  have Si:=hlen (k+1)
  rw[← hp] at hs hl;obtain⟨r,er⟩:∃r,gx bU (ol R) (k:Int)=r:=⟨_,rfl⟩
  rw[er] at hs;unfold Nm at hs;have N9:((ol p.1.1).length:Int)<900000:=by omega
  have nZ9:(p.2.length:Int)<900000:=by omega
  have nZ:(p.2.length:Int)<1000000:=by omega
  by_cases g1:t.store.now<r.due
  ·rw[if_pos g1] at hs;rcases hY with ⟨rfl,hz⟩|⟨g,hz,rfl,hg,hh⟩
   ·apply Ga ((ol R).length-(k+1))
    ·simp only[ZG,seval,Bool.false_and,Prod.mk.injEq,Lp,hI,aY,q0,er,Cq,Cr,Cs,Ct,g1,hw];rfl
    ·exact⟨k+1,X,_,(p.1,p.2++[r]),by and_intros<;>(simp only[E8,seval,hI]<;>rfl),by simpa only[E8,seval] using hX,.inr ⟨_,by simp,rfl,by simp only[E8,seval]<;>omega,by rw[hz];simp only[E8,seval]<;>rfl⟩,hs.symm,by omega,rfl⟩
   ·have uY:(g=st.aP 30)=False:=eq_false (by omega)
    apply Ga ((ol R).length-(k+1))
    ·simp only[ZG,seval,Bool.false_and,Prod.mk.injEq,Lp,hI,aY,q0,er,Cq,Cr,Cs,Ct,hh,uY,g1,hw,mA _ _ _ _ nZ];rfl
    ·exact⟨k+1,X,_,(p.1,p.2++[r]),by and_intros<;>(simp only[E8,seval,hI]<;>rfl),by simpa only[E8,seval] using hX,.inr ⟨_,by simp,rfl,by simp only[E8,seval]<;>omega,by simp only[E8,seval]<;>rfl⟩,hs.symm,by omega,rfl⟩
  rw[if_neg g1] at hs;by_cases g2:sI v.ns r.block
  case neg =>
   rw[if_neg g2] at hs;rcases hX with rfl|⟨g,L,hL,rfl,hg,hh⟩
   ·rcases hY with ⟨rfl,hz⟩|⟨g9,hz,rfl,hg9,PC⟩
    ·have Nn:∀(st:St) (d:Option Nat),aM (aC Tryz.prog) 85 [.agg (aF (Du t (ov aA p.1.1) (.v (.slice none 0 0)) p.1.2)),.agg (aV r.block)] st d=some { dst:=d,val:=.v (.bool (decide (sI v.ns r.block)))}:=fun st d=>PB h p.1.1 none p.1.2 N9 (by show ((0:Nat):Int)<_;omega) r.block st d (pQ _) (show cF st (.v (.slice none 0 0))=some (ov aA none) from pQ none)
     apply Ga ((ol R).length-(k+1))
     ·simp only[ZG,seval,Bool.false_and,Prod.mk.injEq,Lp,hI,aY,q0,er,Cq,Cr,Cs,Ct,g1,Nn,g2,hw];rfl
     ·exact⟨k+1,_,_,p,by and_intros<;>(simp only[E8,seval,hI]<;>rfl),.inl rfl,.inl ⟨rfl,hz⟩,hs.symm,by omega,rfl⟩
    ·have Nn:∀(st:St) (d:Option Nat),st.heap 30 g9=some (.row 63 35 p.2.length (aA p.2))→aM (aC Tryz.prog) 85 [.agg (aF (Du t (ov aA p.1.1) (.own 30 g9) p.1.2)),.agg (aV r.block)] st d=some { dst:=d,val:=.v (.bool (decide (sI v.ns r.block)))}:=fun st d h2=>PB h p.1.1 (some p.2) p.1.2 N9 nZ9 r.block st d (pQ _) (show cF st (.own 30 g9)=some (ov aA (some p.2)) from iK h2)
     apply Ga ((ol R).length-(k+1))
     ·simp only[ZG,seval,Bool.false_and,Prod.mk.injEq,Lp,hI,aY,q0,er,Cq,Cr,Cs,Ct,g1,Nn,PC,g2,hw];rfl
     ·exact⟨k+1,_,_,p,by and_intros<;>(simp only[E8,seval,hI]<;>rfl),.inl rfl,.inr ⟨g9,hz,rfl,by simp only[E8,seval]<;>omega,by simp only[E8,seval,PC]⟩,hs.symm,by omega,rfl⟩
   ·rcases hY with ⟨rfl,hz⟩|⟨g9,hz,rfl,hg9,PC⟩
    ·have Nn:∀(st:St) (d:Option Nat),st.heap 19 g=some (.row 63 35 L.length (aA L))→aM (aC Tryz.prog) 85 [.agg (aF (Du t (.own 19 g) (.v (.slice none 0 0)) p.1.2)),.agg (aV r.block)] st d=some { dst:=d,val:=.v (.bool (decide (sI v.ns r.block)))}:=fun st d h1=>PB h p.1.1 none p.1.2 N9 (by show ((0:Nat):Int)<_;omega) r.block st d (by rw[hL];exact iK h1) (show cF st (.v (.slice none 0 0))=some (ov aA none) from pQ none)
     apply Ga ((ol R).length-(k+1))
     ·simp only[ZG,seval,Bool.false_and,Prod.mk.injEq,Lp,hI,aY,q0,er,Cq,Cr,Cs,Ct,g1,Nn,hh,g2,hw];rfl
     ·exact⟨k+1,_,_,p,by and_intros<;>(simp only[E8,seval,hI]<;>rfl),.inr ⟨g,L,hL,rfl,by simp only[E8,seval]<;>omega,by simp only[E8,seval,hh]⟩,.inl ⟨rfl,hz⟩,hs.symm,by omega,rfl⟩
    ·have Nn:∀(st:St) (d:Option Nat),st.heap 19 g=some (.row 63 35 L.length (aA L))→st.heap 30 g9=some (.row 63 35 p.2.length (aA p.2))→aM (aC Tryz.prog) 85 [.agg (aF (Du t (.own 19 g) (.own 30 g9) p.1.2)),.agg (aV r.block)] st d=some { dst:=d,val:=.v (.bool (decide (sI v.ns r.block)))}:=fun st d h1 h2=>PB h p.1.1 (some p.2) p.1.2 N9 nZ9 r.block st d (by rw[hL];exact iK h1) (show cF st (.own 30 g9)=some (ov aA (some p.2)) from iK h2)
     apply Ga ((ol R).length-(k+1))
     ·simp only[ZG,seval,Bool.false_and,Prod.mk.injEq,Lp,hI,aY,q0,er,Cq,Cr,Cs,Ct,g1,Nn,hh,PC,g2,hw];rfl
     ·exact⟨k+1,_,_,p,by and_intros<;>(simp only[E8,seval,hI]<;>rfl),.inr ⟨g,L,hL,rfl,by simp only[E8,seval]<;>omega,by simp only[E8,seval,hh]⟩,.inr ⟨g9,hz,rfl,by simp only[E8,seval]<;>omega,by simp only[E8,seval,PC]⟩,hs.symm,by omega,rfl⟩
  rw[if_pos g2] at hs;rcases hX with rfl|⟨g,L,hL,rfl,hg,hh⟩
  ·rcases hY with ⟨rfl,hz⟩|⟨g9,hz,rfl,hg9,PC⟩
   ·have Nn:∀(st:St) (d:Option Nat),aM (aC Tryz.prog) 85 [.agg (aF (Du t (ov aA p.1.1) (.v (.slice none 0 0)) p.1.2)),.agg (aV r.block)] st d=some { dst:=d,val:=.v (.bool (decide (sI v.ns r.block)))}:=fun st d=>PB h p.1.1 none p.1.2 N9 (by show ((0:Nat):Int)<_;omega) r.block st d (pQ _) (show cF st (.v (.slice none 0 0))=some (ov aA none) from pQ none)
    obtain⟨G,hG⟩:=aEN t (.v (.slice none 0 0)) p.1.1 p.1.2 (by omega) r.block r.tries
    have kG:=fun st=>(hG st).1
    have f1:∀st:St,0<st.aP 1→(G st).heap 1 0=st.heap 1 0:=fun st h=>(hG st).2.1.1 1 0 h
    have f2:∀st:St,0<st.aP 2→(G st).heap 2 0=st.heap 2 0:=fun st h=>(hG st).2.1.1 2 0 h
    have c1:∀st:St,0<st.aP 1→(0<(G st).aP 1)=True:=fun st h=>eq_true (Nat.lt_of_lt_of_le h ((hG st).2.1.2 1))
    have c2:∀st:St,0<st.aP 2→(0<(G st).aP 2)=True:=fun st h=>eq_true (Nat.lt_of_lt_of_le h ((hG st).2.1.2 2))
    have fn:∀(st:St) (c:Nat),c=st.aP 19→(G st).heap 19 c=_:=fun st c e=>e ▸ (hG st).2.2.1
    have cn:∀(st:St) (c:Nat),c=st.aP 19→(c<(G st).aP 19)=True:=fun st c e=>e ▸ eq_true (hG st).2.2.2
    apply Ga ((ol R).length-(k+1))
    ·simp only[ZG,seval,Bool.false_and,Prod.mk.injEq,Lp,hI,aY,q0,er,Cq,Cr,Cs,Ct,g1,Nn,g2,aCo,kG,f1,fK,dI,cC,hw];rfl
    ·exact⟨k+1,_,_,((some (ol p.1.1++[(⟨⟨p.1.2⟩,r.block,r.tries,0⟩:Request)]),IntKind.u64.wrap (p.1.2+1)),p.2),⟨by simp only[E8,seval,hI,fK],by simp only[E8,seval,hI,dI,cC]<;>rfl,by simp only[E8,seval,hI,fK],by simp only[E8,seval,hI,dI,cC,f2],by simp only[E8,seval,hI,fK],by simp only[E8,seval,hI,fK],by simp only[E8,seval,hI,cC,c1],by simp only[E8,seval,hI,cC,c2]⟩,.inr ⟨_,(ol p.1.1++[(⟨⟨p.1.2⟩,r.block,r.tries,0⟩:Request)]),rfl,rfl,by simp only[E8,seval,cC,cn],by simp only[E8,seval,dI,cC,fn]⟩,.inl ⟨rfl,hz⟩,hs.symm,by omega,rfl⟩
   ·have Nn:∀(st:St) (d:Option Nat),st.heap 30 g9=some (.row 63 35 p.2.length (aA p.2))→aM (aC Tryz.prog) 85 [.agg (aF (Du t (ov aA p.1.1) (.own 30 g9) p.1.2)),.agg (aV r.block)] st d=some { dst:=d,val:=.v (.bool (decide (sI v.ns r.block)))}:=fun st d h2=>PB h p.1.1 (some p.2) p.1.2 N9 nZ9 r.block st d (pQ _) (show cF st (.own 30 g9)=some (ov aA (some p.2)) from iK h2)
    obtain⟨G,hG⟩:=aEN t (.own 30 g9) p.1.1 p.1.2 (by omega) r.block r.tries
    have kG:=fun st=>(hG st).1
    have f1:∀st:St,0<st.aP 1→(G st).heap 1 0=st.heap 1 0:=fun st h=>(hG st).2.1.1 1 0 h
    have f2:∀st:St,0<st.aP 2→(G st).heap 2 0=st.heap 2 0:=fun st h=>(hG st).2.1.1 2 0 h
    have c1:∀st:St,0<st.aP 1→(0<(G st).aP 1)=True:=fun st h=>eq_true (Nat.lt_of_lt_of_le h ((hG st).2.1.2 1))
    have c2:∀st:St,0<st.aP 2→(0<(G st).aP 2)=True:=fun st h=>eq_true (Nat.lt_of_lt_of_le h ((hG st).2.1.2 2))
    have fn:∀(st:St) (c:Nat),c=st.aP 19→(G st).heap 19 c=_:=fun st c e=>e ▸ (hG st).2.2.1
    have cn:∀(st:St) (c:Nat),c=st.aP 19→(c<(G st).aP 19)=True:=fun st c e=>e ▸ eq_true (hG st).2.2.2
    have f3:∀st:St,g9<st.aP 30→(G st).heap 30 g9=st.heap 30 g9:=fun st h=>(hG st).2.1.1 30 g9 h
    have c3:∀st:St,g9<st.aP 30→(g9<(G st).aP 30)=True:=fun st h=>eq_true (Nat.lt_of_lt_of_le h ((hG st).2.1.2 30))
    apply Ga ((ol R).length-(k+1))
    ·simp only[ZG,seval,Bool.false_and,Prod.mk.injEq,Lp,hI,aY,q0,er,Cq,Cr,Cs,Ct,g1,Nn,PC,g2,aCo,kG,f1,fK,dI,cC,hw];rfl
    ·exact⟨k+1,_,_,((some (ol p.1.1++[(⟨⟨p.1.2⟩,r.block,r.tries,0⟩:Request)]),IntKind.u64.wrap (p.1.2+1)),p.2),⟨by simp only[E8,seval,hI,fK],by simp only[E8,seval,hI,dI,cC]<;>rfl,by simp only[E8,seval,hI,fK],by simp only[E8,seval,hI,dI,cC,f2],by simp only[E8,seval,hI,fK],by simp only[E8,seval,hI,fK],by simp only[E8,seval,hI,cC,c1],by simp only[E8,seval,hI,cC,c2]⟩,.inr ⟨_,(ol p.1.1++[(⟨⟨p.1.2⟩,r.block,r.tries,0⟩:Request)]),rfl,rfl,by simp only[E8,seval,cC,cn],by simp only[E8,seval,dI,cC,fn]⟩,.inr ⟨g9,hz,rfl,by simp only[E8,seval,cC,hg9,c3],by simp only[E8,seval,dI,cC,hg9,PC,f3]⟩,hs.symm,by omega,rfl⟩
  ·rcases hY with ⟨rfl,hz⟩|⟨g9,hz,rfl,hg9,PC⟩
   ·have Nn:∀(st:St) (d:Option Nat),st.heap 19 g=some (.row 63 35 L.length (aA L))→aM (aC Tryz.prog) 85 [.agg (aF (Du t (.own 19 g) (.v (.slice none 0 0)) p.1.2)),.agg (aV r.block)] st d=some { dst:=d,val:=.v (.bool (decide (sI v.ns r.block)))}:=fun st d h1=>PB h p.1.1 none p.1.2 N9 (by show ((0:Nat):Int)<_;omega) r.block st d (by rw[hL];exact iK h1) (show cF st (.v (.slice none 0 0))=some (ov aA none) from pQ none)
    have nL:(L.length:Int)<1000000:=by rw[hL] at N9;have:(L.length:Int)<900000:=N9;omega
    obtain⟨G,hG⟩:=U3 t (.v (.slice none 0 0)) g L p.1.2 nL r.block r.tries
    have kG:∀st:St,st.heap 19 g=some (.row 63 35 L.length (aA L))→g<st.aP 19→_:=fun st a b=>(hG st ⟨a,b⟩).1
    have f1:∀st:St,st.heap 19 g=some (.row 63 35 L.length (aA L))→g<st.aP 19→0<st.aP 1→(G st).heap 1 0=st.heap 1 0:=fun st a b h=>(hG st ⟨a,b⟩).2.1.1 1 0 h
    have f2:∀st:St,st.heap 19 g=some (.row 63 35 L.length (aA L))→g<st.aP 19→0<st.aP 2→(G st).heap 2 0=st.heap 2 0:=fun st a b h=>(hG st ⟨a,b⟩).2.1.1 2 0 h
    have c1:∀st:St,st.heap 19 g=some (.row 63 35 L.length (aA L))→g<st.aP 19→0<st.aP 1→(0<(G st).aP 1)=True:=fun st a b h=>eq_true (Nat.lt_of_lt_of_le h ((hG st ⟨a,b⟩).2.1.2 1))
    have c2:∀st:St,st.heap 19 g=some (.row 63 35 L.length (aA L))→g<st.aP 19→0<st.aP 2→(0<(G st).aP 2)=True:=fun st a b h=>eq_true (Nat.lt_of_lt_of_le h ((hG st ⟨a,b⟩).2.1.2 2))
    have fn:∀(st:St) (c:Nat),st.heap 19 g=some (.row 63 35 L.length (aA L))→g<st.aP 19→c=st.aP 19→(G st).heap 19 c=_:=fun st c a b e=>e ▸ (hG st ⟨a,b⟩).2.2.1
    have cn:∀(st:St) (c:Nat),st.heap 19 g=some (.row 63 35 L.length (aA L))→g<st.aP 19→c=st.aP 19→(c<(G st).aP 19)=True:=fun st c a b e=>e ▸ eq_true (hG st ⟨a,b⟩).2.2.2
    have eL:ol p.1.1=L:=by rw[hL];rfl
    rw[eL] at hs;apply Ga ((ol R).length-(k+1))
    ·simp only[ZG,seval,Bool.false_and,Prod.mk.injEq,Lp,hI,aY,q0,er,Cq,Cr,Cs,Ct,g1,Nn,hh,hg,g2,aCo,kG,f1,fK,dI,cC,hw];rfl
    ·exact⟨k+1,_,_,((some (L++[(⟨⟨p.1.2⟩,r.block,r.tries,0⟩:Request)]),IntKind.u64.wrap (p.1.2+1)),p.2),⟨by simp only[E8,seval,hI,fK],by simp only[E8,seval,hI,dI,cC]<;>rfl,by simp only[E8,seval,hI,fK],by simp only[E8,seval,hI,hh,hg,dI,cC,f2],by simp only[E8,seval,hI,fK],by simp only[E8,seval,hI,fK],by simp only[E8,seval,hI,hh,hg,cC,c1],by simp only[E8,seval,hI,hh,hg,cC,c2]⟩,.inr ⟨_,(L++[(⟨⟨p.1.2⟩,r.block,r.tries,0⟩:Request)]),rfl,rfl,by simp only[E8,seval,cC,hh,hg,cn],by simp only[E8,seval,dI,cC,hh,hg,fn]⟩,.inl ⟨rfl,hz⟩,hs.symm,by omega,rfl⟩
   ·have Nn:∀(st:St) (d:Option Nat),st.heap 19 g=some (.row 63 35 L.length (aA L))→st.heap 30 g9=some (.row 63 35 p.2.length (aA p.2))→aM (aC Tryz.prog) 85 [.agg (aF (Du t (.own 19 g) (.own 30 g9) p.1.2)),.agg (aV r.block)] st d=some { dst:=d,val:=.v (.bool (decide (sI v.ns r.block)))}:=fun st d h1 h2=>PB h p.1.1 (some p.2) p.1.2 N9 nZ9 r.block st d (by rw[hL];exact iK h1) (show cF st (.own 30 g9)=some (ov aA (some p.2)) from iK h2)
    have nL:(L.length:Int)<1000000:=by rw[hL] at N9;have:(L.length:Int)<900000:=N9;omega
    obtain⟨G,hG⟩:=U3 t (.own 30 g9) g L p.1.2 nL r.block r.tries
    have kG:∀st:St,st.heap 19 g=some (.row 63 35 L.length (aA L))→g<st.aP 19→_:=fun st a b=>(hG st ⟨a,b⟩).1
    have f1:∀st:St,st.heap 19 g=some (.row 63 35 L.length (aA L))→g<st.aP 19→0<st.aP 1→(G st).heap 1 0=st.heap 1 0:=fun st a b h=>(hG st ⟨a,b⟩).2.1.1 1 0 h
    have f2:∀st:St,st.heap 19 g=some (.row 63 35 L.length (aA L))→g<st.aP 19→0<st.aP 2→(G st).heap 2 0=st.heap 2 0:=fun st a b h=>(hG st ⟨a,b⟩).2.1.1 2 0 h
    have c1:∀st:St,st.heap 19 g=some (.row 63 35 L.length (aA L))→g<st.aP 19→0<st.aP 1→(0<(G st).aP 1)=True:=fun st a b h=>eq_true (Nat.lt_of_lt_of_le h ((hG st ⟨a,b⟩).2.1.2 1))
    have c2:∀st:St,st.heap 19 g=some (.row 63 35 L.length (aA L))→g<st.aP 19→0<st.aP 2→(0<(G st).aP 2)=True:=fun st a b h=>eq_true (Nat.lt_of_lt_of_le h ((hG st ⟨a,b⟩).2.1.2 2))
    have fn:∀(st:St) (c:Nat),st.heap 19 g=some (.row 63 35 L.length (aA L))→g<st.aP 19→c=st.aP 19→(G st).heap 19 c=_:=fun st c a b e=>e ▸ (hG st ⟨a,b⟩).2.2.1
    have cn:∀(st:St) (c:Nat),st.heap 19 g=some (.row 63 35 L.length (aA L))→g<st.aP 19→c=st.aP 19→(c<(G st).aP 19)=True:=fun st c a b e=>e ▸ eq_true (hG st ⟨a,b⟩).2.2.2
    have f3:∀st:St,st.heap 19 g=some (.row 63 35 L.length (aA L))→g<st.aP 19→g9<st.aP 30→(G st).heap 30 g9=st.heap 30 g9:=fun st a b h=>(hG st ⟨a,b⟩).2.1.1 30 g9 h
    have c3:∀st:St,st.heap 19 g=some (.row 63 35 L.length (aA L))→g<st.aP 19→g9<st.aP 30→(g9<(G st).aP 30)=True:=fun st a b h=>eq_true (Nat.lt_of_lt_of_le h ((hG st ⟨a,b⟩).2.1.2 30))
    have eL:ol p.1.1=L:=by rw[hL];rfl
    rw[eL] at hs;apply Ga ((ol R).length-(k+1))
    ·simp only[ZG,seval,Bool.false_and,Prod.mk.injEq,Lp,hI,aY,q0,er,Cq,Cr,Cs,Ct,g1,Nn,hh,PC,hg,g2,aCo,kG,f1,fK,dI,cC,hw];rfl
    ·exact⟨k+1,_,_,((some (L++[(⟨⟨p.1.2⟩,r.block,r.tries,0⟩:Request)]),IntKind.u64.wrap (p.1.2+1)),p.2),⟨by simp only[E8,seval,hI,fK],by simp only[E8,seval,hI,dI,cC]<;>rfl,by simp only[E8,seval,hI,fK],by simp only[E8,seval,hI,hh,hg,dI,cC,f2],by simp only[E8,seval,hI,fK],by simp only[E8,seval,hI,fK],by simp only[E8,seval,hI,hh,hg,cC,c1],by simp only[E8,seval,hI,hh,hg,cC,c2]⟩,.inr ⟨_,(L++[(⟨⟨p.1.2⟩,r.block,r.tries,0⟩:Request)]),rfl,rfl,by simp only[E8,seval,cC,hh,hg,cn],by simp only[E8,seval,dI,cC,hh,hg,fn]⟩,.inr ⟨g9,hz,rfl,by simp only[E8,seval,cC,hg9,hh,hg,c3],by simp only[E8,seval,dI,cC,hg9,PC,hh,hg,f3]⟩,hs.symm,by omega,rfl⟩
 case start=>exact⟨0,ov aA Q,.v (.slice none 0 0),((Q,t.bB),[]),⟨by simp only[E8,seval],by simp only[E8,seval,h.Cp]<;>rfl,by simp only[E8,seval],by simp only[E8,seval],by simp only[E8,seval],by simp only[E8,seval]<;>rfl,by simp only[E8,seval]<;>omega,by simp only[E8,seval]<;>omega⟩,.inl rfl,.inl ⟨rfl,rfl⟩,rfl,by omega,by omega⟩
 case rest =>
  rintro e st ⟨rfl,X,Y,p,hI,hX,hY,hp⟩
  have hv:aCp t v.ns Q R=Du t (ov aA p.1.1) (ov aA (nz p.2)) p.1.2:=by unfold aCp;rw[← hp]
  have hex:∀st:St,∀X' Y',cF st X=some X'→cF st Y=some Y'→fG st (.agg (aF (Du t X Y p.1.2)))=some (.agg (aF (Du t X' Y' p.1.2))):=fun st X' Y' hx hy=>o9 h st hx hy p.1.2
  rcases hX with rfl|⟨g,L,hL,rfl,hh⟩
  ·rcases hY with ⟨rfl,hz⟩|⟨g9,hz,rfl,PC⟩
   ·rw[hz,show nz ([]:List Request)=none from if_pos rfl] at hv
    simp only[ZG,seval,Bool.false_and,Prod.mk.injEq,Lp,hI];exact⟨_,eB rfl (by simp only[E8,seval,hI]<;>rfl) (by simp only[ZG,seval,hI]<;>rfl) (hex _ _ _ (pQ _) (pQ none)),by rw[hv]⟩
   ·rw[show nz p.2=some p.2 from if_neg hz] at hv;simp only[ZG,seval,Bool.false_and,Prod.mk.injEq,Lp,hI,PC];exact⟨_,eB rfl (by simp only[E8,seval,hI]<;>rfl) (by simp only[ZG,seval,hI]<;>rfl) (hex _ _ _ (pQ _) (iK (by simp only[E8,seval,PC]<;>rfl))),by rw[hv]⟩
  ·rcases hY with ⟨rfl,hz⟩|⟨g9,hz,rfl,PC⟩
   ·rw[hz,show nz ([]:List Request)=none from if_pos rfl,hL] at hv
    simp only[ZG,seval,Bool.false_and,Prod.mk.injEq,Lp,hI,hh];exact⟨_,eB rfl (by simp only[E8,seval,hI]<;>rfl) (by simp only[ZG,seval,hI]<;>rfl) (hex _ _ _ (iK (by simp only[E8,seval,hh]<;>rfl)) (pQ none)),by rw[hv]⟩
   ·rw[show nz p.2=some p.2 from if_neg hz,hL] at hv;simp only[ZG,seval,Bool.false_and,Prod.mk.injEq,Lp,hI,hh,PC];exact⟨_,eB rfl (by simp only[E8,seval,hI]<;>rfl) (by simp only[ZG,seval,hI]<;>rfl) (hex _ _ _ (iK (by simp only[E8,seval,hh]<;>rfl)) (iK (by simp only[E8,seval,PC]<;>rfl))),by rw[hv]⟩
theorem aF8 (x:Int):IntKind.i64.wrap x≤9223372036854775807:=by
 rw[IntKind.wrap_i64];omega
def xC (a b:Request):Prop:=a.due<b.due∨(a.due=b.due∧a.tagged.tag<b.tagged.tag)
noncomputable def Cu:Nat→List Request→List Request
 | 0,l=>l
 | k+1,l=>if xC (gx bU l ((k+1:Nat):Int)) (gx bU l (k:Int)) then Cu k ((l.set (k+1) (gx bU l (k:Int))).set k (gx bU l ((k+1:Nat):Int))) else l
theorem PD:∀(k:Nat) (l:List Request),(Cu k l).length=l.length
 | 0,l=>rfl
 | k+1,l=>by
   unfold Cu;split
   ·rw[PD k,List.length_set,List.length_set]
   ·rfl
noncomputable def PE (t:State) (r:Request):Request:={ r with tries:=IntKind.i64.wrap (r.tries+1),due:=IntKind.u64.wrap (t.store.now+WH (IntKind.i64.wrap (r.tries+1)) t.store.cFg.mD.rM)}
noncomputable def G0 (t:State) (ns:List Node) (R:List Request) (r:Request):State :=
 if ¬sI ns r.block then t else if t.store.cFg.mD.oJ≤(R.length:Int) then { t with overflow:=true } else { t with oD:=ov aA (some (Cu R.length (R++[PE t r])))}
theorem c72 {t:State} {v:SV} {Q R:Option (List Request)} (h:TD t v Q R) (r:Request):aC Tryz.prog 72 [.agg (aF t),.agg (bN r)]=some (.agg (aF (G0 t v.ns (ol R) r))):=by
 have hf:=h.flat
 have kE:=h.fl
 have nR:=h.nR
 have nR1:((ol R).length:Int)<1000000:=by omega
 have F6:=k85 h r.block
 have fr:Flat (.agg (bN r)):=.agg _ (gL r)
 rw[cL Tryz.func72 rfl aQG rfl];refine jG ?_
 by_cases g1:sI v.ns r.block
 case neg =>
  simp only[Z8,seval,F6,g1];exact⟨_,fI rfl (by simp only[E8,seval,hf]<;>rfl) (by simp only[Z8,seval,hf]<;>rfl) (by simp only[dU,and_self,hf]),by rw[G0,if_pos g1]⟩
 by_cases g2:t.store.cFg.mD.oJ≤((ol R).length:Int)
 ·have hf2:Flat (.agg (aF { t with overflow:=true })):=(oG _).2 kE
  simp only[Z8,seval,F6,g1,h.ret,g2];exact⟨_,fI rfl (by simp only[E8,seval,kE]<;>rfl) (by simp only[Z8,seval,kE]<;>rfl) (by simp only[dU,and_self,kE]),by rw[G0,if_neg (fun hh=>hh g1),if_pos g2,← h.ret]⟩
 have hv:G0 t v.ns (ol R) r=_:=(if_neg (fun hh=>hh g1)).trans (if_neg g2)
 rw[hv];have k143':=aQp (IntKind.i64.wrap (r.tries+1)) t.store.cFg.mD.rM (aF8 _)
 obtain⟨L0,hL0⟩:∃L0,ol R++[PE t r]=L0:=⟨_,rfl⟩
 have hlL:L0.length=(ol R).length+1:=by rw[← hL0,List.length_append,List.length_cons,List.length_nil]
 have hL0':ol R++[({ tagged:=r.tagged,block:=r.block,tries:=IntKind.i64.wrap (r.tries+1),due:=IntKind.u64.wrap (t.store.now+WH (IntKind.i64.wrap (r.tries+1)) t.store.cFg.mD.rM)}:Request)]=L0:=hL0
 rw[hL0];have w1:IntKind.i64.wrap ((L0.length:Int)-1)=((ol R).length:Int):=by rw[pZ _ (by omega) (by omega)];omega
 simp only[Z8,seval,F6,g1,h.ret,g2,k143',qA,qB,rA _ nR1,mA _ _ _ _ nR1,hL0',w1];refine cE (fun m st=>∃(k:Nat) (l:List Request),(st.env 2=.ptr 2 0 0∧st.heap 2 0=some (.cells (aF t))∧st.env 4=.ptr 4 0 0∧st.heap 4 0=some (.cells (aF iW))∧st.env 5=.own 46 0∧st.heap 46 0=some (.row 63 35 l.length (aA l))∧st.env 6=.v (.int .i64 k))∧Cu k l=Cu (ol R).length L0∧l.length=L0.length∧k≤(ol R).length∧m=k)
  (fun e st=>e=.exit 0∧∃(l:List Request),(st.env 2=.ptr 2 0 0∧st.heap 2 0=some (.cells (aF t))∧st.env 4=.ptr 4 0 0∧st.heap 4 0=some (.cells (aF iW))∧st.env 5=.own 46 0∧st.heap 46 0=some (.row 63 35 l.length (aA l)))∧l=Cu (ol R).length L0) (ol R).length ?step ?start ?rest
 case step =>
  rintro m st ⟨k,l,hI,hb,hl,hk,hm⟩
  cases k with
  | zero =>
    have z0:¬((0:Int)<((0:Nat):Int)):=by omega
    have hI':=hI
    apply oT (.exit 0)
    ·simp only[Z8,seval,hI,Int.lt_irrefl,qA,qB];rfl
    ·exact⟨rfl,l,by simp only[E8,seval,hI],by rw[← hb];rfl⟩
  | succ j =>
    obtain⟨i,hi⟩:∃i:Int,i=((j+1:Nat):Int):=⟨_,rfl⟩
    obtain⟨i',Dg⟩:∃i':Int,i'=(j:Int):=⟨_,rfl⟩
    rw[← hi] at hI;have p0:(0:Int)<i:=by omega
    have p1:(0:Int)≤i:=by omega
    have p2:i<(l.length:Int):=by omega
    have q1:(0:Int)≤i':=by omega
    have q2:i'<(l.length:Int):=by omega
    have hw:IntKind.i64.wrap (i-1)=i':=by rw[pZ _ (by omega) (by omega)];omega
    have ti:i.toNat=j+1:=by omega
    have ti':i'.toNat=j:=by omega
    obtain⟨a,ea⟩:∃a,gx bU l i=a:=⟨_,rfl⟩
    obtain⟨b,eb⟩:∃b,gx bU l i'=b:=⟨_,rfl⟩
    have d1:=Gf (T:=23) (n:=l.length) (k:=1) (off:=34) p1 p2 VM (by decide) (by decide)
    have d2:=Gf (T:=23) (n:=l.length) (k:=1) (off:=34) q1 q2 VM (by decide) (by decide)
    have d3:=Ae (T:=23) (n:=l.length) (k:=1) p1 p2 VM (by decide) (by decide)
    have d4:=Ae (T:=23) (n:=l.length) (k:=1) q1 q2 VM (by decide) (by decide)
    have d5:=Ae (T:=63) (n:=l.length) (k:=35) p1 p2 aF9 (by decide) (by decide)
    have d6:=Ae (T:=63) (n:=l.length) (k:=35) q1 q2 aF9 (by decide) (by decide)
    rw[ea] at d1 d3 d5;rw[eb] at d2 d4 d6;have aCq:∀P:Prop,(xC a b↔P)→Cu (j+1) l=if P then Cu j ((l.set (j+1) b).set j a) else l:=fun P hP=>by
     have e1:gx bU l ((j+1:Nat):Int)=a:=by rw[← hi];exact ea
     have e2:gx bU l (j:Int)=b:=by rw[← Dg];exact eb
     have e0:Cu (j+1) l=if xC (gx bU l ((j+1:Nat):Int)) (gx bU l (j:Int)) then Cu j ((l.set (j+1) (gx bU l (j:Int))).set j (gx bU l ((j+1:Nat):Int))) else l:=rfl
     rw[e0,e1,e2];by_cases hh:xC a b
     ·rw[if_pos hh,if_pos (hP.1 hh)]
     ·rw[if_neg hh,if_neg (fun x=>hh (hP.2 x))]
    have x3:i.toNat * 35+35≤l.length * 35:=by omega
    have x4:i'.toNat * 35+35≤(l.set i.toNat b).length * 35:=by rw[List.length_set];omega
    have x4':i'.toNat * 35+35≤l.length * 35:=by omega
    have u1:=Np l i b (by omega)
    have u2:=Np (l.set i.toNat b) i' a (by rw[List.length_set];omega)
    have swp:(l.set i.toNat b).set i'.toNat a=(l.set (j+1) b).set j a:=by rw[ti,ti']
    by_cases g3:a.due<b.due
    ·have oC:=aCq True (iff_of_true (.inl g3) trivial)
     rw[if_pos trivial] at oC
     apply oN (j)
     ·simp only[Z8,seval,hI,p0,p1,p2,q1,q2,hw,d1,d2,d3,d4,d5,d6,g3,x3,x4,x4',u1,u2,List.length_set,qA,qB];rfl
     ·exact⟨j,(l.set i.toNat b).set i'.toNat a,⟨by simp only[E8,seval,hI],by simp only[E8,seval,hI],by simp only[E8,seval,hI],by simp only[E8,seval,hI],by simp only[E8,seval,hI],by rw[List.length_set,List.length_set];simp only[E8,seval,List.length_set]<;>rfl,by simp only[E8,seval,Dg]⟩,by rw[swp,← oC];exact hb,by rw[List.length_set,List.length_set];exact hl,by omega,rfl⟩
    by_cases g4:a.due=b.due
    case neg =>
     have oC:=aCq False (iff_of_false (fun x=>x.elim g3 fun y=>g4 y.1) id)
     rw[if_neg id] at oC
     apply oT (.exit 0)
     ·simp only[Z8,seval,hI,p0,p1,p2,q1,q2,hw,d1,d2,d3,d4,d5,d6,g3,bf g4,qA,qB];rfl
     ·exact⟨rfl,l,by simp only[E8,seval,hI],by rw[← hb,oC]⟩
    by_cases g5:a.tagged.tag<b.tagged.tag
    ·have oC:=aCq True (iff_of_true (.inr ⟨g4,g5⟩) trivial)
     rw[if_pos trivial] at oC
     apply oN (j)
     ·simp only[Z8,seval,hI,p0,p1,p2,q1,q2,hw,d1,d2,d3,d4,d5,d6,g3,bt g4,g5,x3,x4,x4',u1,u2,List.length_set,qA,qB];rfl
     ·exact⟨j,(l.set i.toNat b).set i'.toNat a,⟨by simp only[E8,seval,hI],by simp only[E8,seval,hI],by simp only[E8,seval,hI],by simp only[E8,seval,hI],by simp only[E8,seval,hI],by rw[List.length_set,List.length_set];simp only[E8,seval,List.length_set]<;>rfl,by simp only[E8,seval,Dg]⟩,by rw[swp,← oC];exact hb,by rw[List.length_set,List.length_set];exact hl,by omega,rfl⟩
    ·have oC:=aCq False (iff_of_false (fun x=>x.elim g3 fun y=>g5 y.2) id)
     rw[if_neg id] at oC
     apply oT (.exit 0)
     ·simp only[Z8,seval,hI,p0,p1,p2,q1,q2,hw,d1,d2,d3,d4,d5,d6,g3,bt g4,g5,qA,qB];rfl
     ·exact⟨rfl,l,by simp only[E8,seval,hI],by rw[← hb,oC]⟩
 case start=>exact⟨(ol R).length,L0,by simp only[E8,seval]<;>rfl,rfl,rfl,by omega,rfl⟩
 case rest =>
  rintro e st ⟨rfl,l,hI,hl⟩
  have hex:=pH l.length l
  subst hl;simp only[Z8,seval,hI];exact⟨_,by apply eB;rfl;all_goals simp only[aI,Z8,seval,hI,hex,kE,bP,vZ,gJ,bA,bY,pH,dU]<;>rfl,rfl⟩
theorem aQH {t:State} {v:SV} {Q R:Option (List Request)} {q:Int} (hT:TD t v Q R) (h:GI t.store v q) (r:RG t.store v) (hB:0<(ol v.B).length∧(ol v.B).length≤64) (hq:∀r∈ol Q,Rg r.tagged.tag) (n k:Int) (hk:0≤k) :
 ∃x,aC Tryz.prog 146 [.agg (aF t),.v (.int .i64 n),.v (.int .i64 k)]=some x∧∃y:xL,x=.agg (kY y)∧pG y∧(y.kind=2→y.block.root=mkRoot n∨∃m∈v.ns,y.block.root=m.block.root):=by
 have z:=zOk
 have hm:=Bk hk (min 4 IntKind.i64.bits)
 have hf:=hT.flat
 have ZQ:=h.sd.flat
 obtain⟨x1,e1,b,rfl,rb⟩:=x50 h r n (k.fdiv (2 ^ min 4 IntKind.i64.bits)) hm
 obtain⟨x2,e2,a,V,rfl,hV,nV,ra1,ra2⟩:=x37 h r hB (k.fdiv (2 ^ min 4 IntKind.i64.bits)) hm
 obtain⟨x3,e3,sl,rfl,c1,c2,s1,s2,s3,s4⟩:=aQd (ol v.B).length (k.fdiv (2 ^ min 4 IntKind.i64.bits)) (by omega) (by omega)
 obtain⟨x4,e4,tb,bl,rfl,hb,nb,rbl,rt⟩:=aQe h r hB (k.fdiv (2 ^ min 4 IntKind.i64.bits)) hm
 obtain⟨x5,e5,w,rfl,rw5⟩:=x25 hT h hq (k.fdiv (2 ^ min 4 IntKind.i64.bits)) hm
 have fA:Flat a.eU:=by rw[hV];exact bO _
 have fT:Flat tb.jO:=by rw[hb];exact dP _
 have k50:=kx e1 (nA ZQ (.v _) (.v _)) (vC b)
 have k37:=kx e2 (bG ZQ (.v _)) ((zP a).2 fA)
 have k182:=kx e3 (bG (.v _) (.v _)) ((nD sl).2 ⟨(zQ _).1 c1.fl,(zQ _).1 c2.fl⟩)
 have k183:=kx e4 (bG ZQ (.v _)) ((kF tb).2 fT)
 have k25:=kx e5 (bG hf (.v _)) (.agg _ (gM w))
 have y1:pG { Aa with kind:=1 }:=⟨z.Hl,z.c1,z.c2,z.WC,z.rb,z.ra,z.rs,z.rt,z.rv⟩
 have y2:pG { Aa with kind:=2,block:=b }:=⟨z.Hl,z.c1,z.c2,z.WC,rb.toRB,z.ra,z.rs,z.rt,z.rv⟩
 have y3:pG { Aa with kind:=3,Hl:=a }:=⟨⟨some V,hV,nV⟩,z.c1,z.c2,z.WC,z.rb,⟨ra1,ra2⟩,z.rs,z.rt,z.rv⟩
 have y4:pG { Aa with kind:=4,oU:=sl }:=⟨z.Hl,c1,c2,z.WC,z.rb,z.ra,⟨s1,s2,s3,s4⟩,z.rt,z.rv⟩
 have y5:pG { Aa with kind:=5,table:=tb }:=⟨z.Hl,z.c1,z.c2,⟨some bl,hb,nb,rbl⟩,z.rb,z.ra,z.rs,rt,z.rv⟩
 have y6:pG { Aa with kind:=6,verdict:=w }:=⟨z.Hl,z.c1,z.c2,z.WC,z.rb,z.ra,z.rs,z.rt,rw5⟩
 rw[cL Tryz.func146 rfl aLF rfl];by_cases c0:((k).tmod 16)=0
 ·simp only[Z8,seval,bt c0];exact⟨_,fI rfl (by simp only[E8,seval]<;>rfl) (by simp only[Z8,seval]<;>rfl) y1.flat,_,rfl,y1,fun h=>absurd (show (1:Int)=2 from h) (by decide)⟩
 by_cases c1:((k).tmod 16)=1
 ·simp only[Z8,seval,bf c0,bt c1];exact⟨_,fI rfl (by simp only[E8,seval]<;>rfl) (by simp only[Z8,seval]<;>rfl) y1.flat,_,rfl,y1,fun h=>absurd (show (1:Int)=2 from h) (by decide)⟩
 by_cases c2:((k).tmod 16)=2
 ·simp only[Z8,seval,bf c0,bf c1,bt c2];exact⟨_,fI rfl (by simp only[E8,seval]<;>rfl) (by simp only[Z8,seval]<;>rfl) y1.flat,_,rfl,y1,fun h=>absurd (show (1:Int)=2 from h) (by decide)⟩
 by_cases c3:((k).tmod 16)=3
 ·simp only[Z8,seval,bf c0,bf c1,bf c2,bt c3,k50];exact⟨_,fI rfl (by simp only[E8,seval]<;>rfl) (by simp only[Z8,seval]<;>rfl) y2.flat,_,rfl,y2,fun _=>rb.rt⟩
 by_cases c4:((k).tmod 16)=4
 ·simp only[Z8,seval,bf c0,bf c1,bf c2,bf c3,bt c4,k50];exact⟨_,fI rfl (by simp only[E8,seval]<;>rfl) (by simp only[Z8,seval]<;>rfl) y2.flat,_,rfl,y2,fun _=>rb.rt⟩
 by_cases c5:((k).tmod 16)=5
 ·simp only[Z8,seval,bf c0,bf c1,bf c2,bf c3,bf c4,bt c5,k50];exact⟨_,fI rfl (by simp only[E8,seval]<;>rfl) (by simp only[Z8,seval]<;>rfl) y2.flat,_,rfl,y2,fun _=>rb.rt⟩
 by_cases c6:((k).tmod 16)=6
 ·simp only[Z8,seval,bf c0,bf c1,bf c2,bf c3,bf c4,bf c5,bt c6,k50];exact⟨_,fI rfl (by simp only[E8,seval]<;>rfl) (by simp only[Z8,seval]<;>rfl) y2.flat,_,rfl,y2,fun _=>rb.rt⟩
 by_cases c7:((k).tmod 16)=7
 ·simp only[Z8,seval,bf c0,bf c1,bf c2,bf c3,bf c4,bf c5,bf c6,bt c7,k50];exact⟨_,fI rfl (by simp only[E8,seval]<;>rfl) (by simp only[Z8,seval]<;>rfl) y2.flat,_,rfl,y2,fun _=>rb.rt⟩
 by_cases c8:((k).tmod 16)=8
 ·simp only[Z8,seval,bf c0,bf c1,bf c2,bf c3,bf c4,bf c5,bf c6,bf c7,bt c8,k37];exact⟨_,fI rfl (by simp only[E8,seval]<;>rfl) (by simp only[Z8,seval]<;>rfl) y3.flat,_,rfl,y3,fun h=>absurd (show (3:Int)=2 from h) (by decide)⟩
 by_cases c9:((k).tmod 16)=9
 ·simp only[Z8,seval,bf c0,bf c1,bf c2,bf c3,bf c4,bf c5,bf c6,bf c7,bf c8,bt c9,k37];exact⟨_,fI rfl (by simp only[E8,seval]<;>rfl) (by simp only[Z8,seval]<;>rfl) y3.flat,_,rfl,y3,fun h=>absurd (show (3:Int)=2 from h) (by decide)⟩
 by_cases c10:((k).tmod 16)=10
 ·simp only[Z8,seval,bf c0,bf c1,bf c2,bf c3,bf c4,bf c5,bf c6,bf c7,bf c8,bf c9,bt c10,k37];exact⟨_,fI rfl (by simp only[E8,seval]<;>rfl) (by simp only[Z8,seval]<;>rfl) y3.flat,_,rfl,y3,fun h=>absurd (show (3:Int)=2 from h) (by decide)⟩
 by_cases c11:((k).tmod 16)=11
 ·simp only[Z8,seval,bf c0,bf c1,bf c2,bf c3,bf c4,bf c5,bf c6,bf c7,bf c8,bf c9,bf c10,bt c11,h.sd.jO,k182];exact⟨_,fI rfl (by simp only[E8,seval]<;>rfl) (by simp only[Z8,seval]<;>rfl) y4.flat,_,rfl,y4,fun h=>absurd (show (4:Int)=2 from h) (by decide)⟩
 by_cases c12:((k).tmod 16)=12
 ·simp only[Z8,seval,bf c0,bf c1,bf c2,bf c3,bf c4,bf c5,bf c6,bf c7,bf c8,bf c9,bf c10,bf c11,bt c12,k183];exact⟨_,fI rfl (by simp only[E8,seval]<;>rfl) (by simp only[Z8,seval]<;>rfl) y5.flat,_,rfl,y5,fun h=>absurd (show (5:Int)=2 from h) (by decide)⟩
 simp only[Z8,seval,bf c0,bf c1,bf c2,bf c3,bf c4,bf c5,bf c6,bf c7,bf c8,bf c9,bf c10,bf c11,bf c12,k25];exact⟨_,fI rfl (by simp only[E8,seval]<;>rfl) (by simp only[Z8,seval]<;>rfl) y6.flat,_,rfl,y6,fun h=>absurd (show (6:Int)=2 from h) (by decide)⟩
theorem aLG (l:List Int) (hl:(l.length:Int)≤9223372036854775807):∃x,aC Tryz.prog 101 [.sl l.length (aJ l)]=some x∧∃(c:Config) (b:List Int),x=.agg (bR c)∧Qe c b:=by
 have k0:=Pl l hl 0 (by omega) (by omega)
 obtain⟨a0,b0⟩:=eA (n:=8) (Pk l hl 0 (by omega) (by omega)).2.1 (by omega)
 obtain⟨x0,h0⟩:∃x,(ID l 0).tmod 8=x:=⟨_,rfl⟩
 rw[h0] at a0 b0;have k1:=Pl l hl 1 (by omega) (by omega)
 obtain⟨a1,b1⟩:=eA (n:=4) (Pk l hl 1 (by omega) (by omega)).2.1 (by omega)
 obtain⟨x1,h1⟩:∃x,(ID l 1).tmod 4=x:=⟨_,rfl⟩
 rw[h1] at a1 b1;have k2:=Pl l hl 2 (by omega) (by omega)
 obtain⟨a2,b2⟩:=eA (n:=4) (Pk l hl 2 (by omega) (by omega)).2.1 (by omega)
 obtain⟨x2,h2⟩:∃x,(ID l 2).tmod 4=x:=⟨_,rfl⟩
 rw[h2] at a2 b2;have k3:=Pl l hl 3 (by omega) (by omega)
 obtain⟨a3,b3⟩:=eA (n:=4) (Pk l hl 3 (by omega) (by omega)).2.1 (by omega)
 obtain⟨x3,h3⟩:∃x,(ID l 3).tmod 4=x:=⟨_,rfl⟩
 rw[h3] at a3 b3;have k4:=Pl l hl 4 (by omega) (by omega)
 obtain⟨a4,b4⟩:=eA (n:=4) (Pk l hl 4 (by omega) (by omega)).2.1 (by omega)
 obtain⟨x4,h4⟩:∃x,(ID l 4).tmod 4=x:=⟨_,rfl⟩
 rw[h4] at a4 b4;have k5:=Pl l hl 5 (by omega) (by omega)
 obtain⟨a5,b5⟩:=eA (n:=5) (Pk l hl 5 (by omega) (by omega)).2.1 (by omega)
 obtain⟨x5,h5⟩:∃x,(ID l 5).tmod 5=x:=⟨_,rfl⟩
 rw[h5] at a5 b5;have k6:=Pl l hl 6 (by omega) (by omega)
 obtain⟨a6,b6⟩:=eA (n:=4) (Pk l hl 6 (by omega) (by omega)).2.1 (by omega)
 obtain⟨x6,h6⟩:∃x,(ID l 6).tmod 4=x:=⟨_,rfl⟩
 rw[h6] at a6 b6;have k7:=Pl l hl 7 (by omega) (by omega)
 obtain⟨a7,b7⟩:=eA (n:=3) (Pk l hl 7 (by omega) (by omega)).2.1 (by omega)
 obtain⟨x7,h7⟩:∃x,(ID l 7).tmod 3=x:=⟨_,rfl⟩
 rw[h7] at a7 b7;have k8:=Pl l hl 8 (by omega) (by omega)
 obtain⟨a8,b8⟩:=eA (n:=2) (Pk l hl 8 (by omega) (by omega)).2.1 (by omega)
 obtain⟨x8,h8⟩:∃x,(ID l 8).tmod 2=x:=⟨_,rfl⟩
 rw[h8] at a8 b8;have k9:=Pl l hl 9 (by omega) (by omega)
 obtain⟨a9,b9⟩:=eA (n:=5) (Pk l hl 9 (by omega) (by omega)).2.1 (by omega)
 obtain⟨x9,h9⟩:∃x,(ID l 9).tmod 5=x:=⟨_,rfl⟩
 rw[h9] at a9 b9;have w0:IntKind.i64.wrap (6+x0)=6+x0:=pZ _ (by omega) (by omega)
 have w3:IntKind.i64.wrap (1+x3)=1+x3:=pZ _ (by omega) (by omega)
 have w5:IntKind.i64.wrap (1+x5)=1+x5:=pZ _ (by omega) (by omega)
 have w5':IntKind.u64.wrap (1+x5)=1+x5:=wrap_u64 _ (by omega) (by omega)
 have w6:IntKind.i64.wrap (1+x6)=1+x6:=pZ _ (by omega) (by omega)
 have w6':IntKind.u64.wrap (1+x6)=1+x6:=wrap_u64 _ (by omega) (by omega)
 have w9:IntKind.i64.wrap (2+x9)=2+x9:=pZ _ (by omega) (by omega)
 have g7:=pF (l:=[0,40,100]) a7 (by show x7<((3:Nat):Int);omega)
 obtain⟨bp,hbp⟩:∃y,it [0,40,100] x7=y:=⟨_,rfl⟩
 have hbp1:0≤bp∧bp≤100:=by
  rcases (by omega:x7=0∨x7=1∨x7=2) with e|e|e<;>(rw[e] at hbp;rw[← hbp];decide)
 have w7:IntKind.u64.wrap bp=bp:=wrap_u64 _ (by omega) (by omega)
 rw[cL Tryz.func101 rfl aLH rfl];simp only[Z8,seval,qA,qB,k0,k1,k2,k3,k4,k5,k6,k7,k8,h0,h1,h2,h3,h4,h5,h6,h7,h8,w0,w3,w5,w5',w6,w6',a7,b7,g7,hbp,w7,qZ,Nat.reduceLT,Pm];have n9:(2+x9).toNat≤6:=by omega
 refine cE (fun m st=>∃(j:Nat) (mD:lU) (sp bq:Int) (tt:rL) (X:AV) (b:List Int),(st.env 0=.sl l.length (aJ l)∧st.env 2=.ptr 2 0 0∧st.heap 2 0=some (.cells (bR nH))∧st.env 3=.ptr 3 0 0∧st.heap 3 0=some (.cells (bR ⟨mD,sp,bq,tt,mkRoot 1,X⟩))∧st.env 4=.v (.int .i64 j))∧(mD=⟨6+x0,x1,x2,1+x3,x4,1+x5⟩∧sp=1+x6∧bq=bp)∧((X=.v (.slice none 0 0)∧b=[])∨∃g,X=.own 64 g∧g<st.aP 64∧st.heap 64 g=some (.row 23 1 b.length (bE b)))∧(∀y∈b,0≤y∧y≤1000)∧b.length=j∧j≤(2+x9).toNat∧m=(2+x9).toNat-j)
  (fun e st=>e=.exit 0∧∃(mD:lU) (sp bq:Int) (tt:rL) (g:Nat) (b:List Int),(st.env 2=.ptr 2 0 0∧st.heap 2 0=some (.cells (bR nH))∧st.env 3=.ptr 3 0 0∧st.heap 3 0=some (.cells (bR ⟨mD,sp,bq,tt,mkRoot 1,.own 64 g⟩))∧st.heap 64 g=some (.row 23 1 b.length (bE b)))∧(mD=⟨6+x0,x1,x2,1+x3,x4,1+x5⟩∧sp=1+x6∧bq=bp)∧(∀y∈b,0≤y∧y≤1000)∧1≤b.length∧b.length≤6) (2+x9).toNat ?step ?start ?rest
 case step =>
  rintro m st ⟨j,mD,sp,bq,tt,X,b,hI,hC,hX,hb,hj,hjn,hm⟩
  by_cases aY:(j:Int)<2+x9
  ·have q0:(0:Int)≤j:=by omega
   have hw:IntKind.i64.wrap ((j:Int)+1)=((j+1:Nat):Int):=by rw[pZ _ (by omega) (by omega)];omega
   obtain⟨jj,hjj⟩:∃jj:Int,jj=10+(j:Int):=⟨_,rfl⟩
   have P6:IntKind.i64.wrap (10+(j:Int))=jj:=by rw[pZ _ (by omega) (by omega),hjj]
   have kj:=Pl l hl jj (by omega) (by omega)
   obtain⟨aj,bj⟩:=eA (n:=40) (Pk l hl jj (by omega) (by omega)).2.1 (by omega)
   obtain⟨y,hy⟩:∃y,(ID l jj).tmod 40=y:=⟨_,rfl⟩
   rw[hy] at aj bj;have wy:IntKind.u64.wrap y=y:=wrap_u64 _ (by omega) (by omega)
   have nL:(b.length:Int)<1000000:=by omega
   have DB:∀z∈b++[y],0≤z∧z≤1000:=fun z hz=>(List.mem_append.1 hz).elim (hb z) fun e=>by rw[List.mem_singleton] at e;rw[e];omega
   have Si:(b++[y]).length=j+1:=by rw[List.length_append,List.length_cons,List.length_nil];omega
   rcases hX with ⟨rfl,rfl⟩|⟨g,rfl,hg,hh⟩
   ·apply oN ((2+x9).toNat-(j+1))
    ·simp only[Z8,seval,hI,k9,h9,w9,aY,P6,kj,hy,wy,hw];rfl
    ·exact⟨j+1,_,_,_,_,_,[]++[y],⟨by simp only[E8,seval,hI],by simp only[E8,seval,hI],by simp only[E8,seval,hI],by simp only[E8,seval,hI],by simp only[E8,seval,hI]<;>rfl,by simp only[E8,seval]⟩,hC,.inr ⟨_,rfl,by simp only[E8,seval]<;>omega,by simp only[E8,seval]<;>rfl⟩,DB,Si,by omega,rfl⟩
   ·have uY:(g=st.aP 64)=False:=eq_false (by omega)
    apply oN ((2+x9).toNat-(j+1))
    ·simp only[Z8,seval,hI,hh,uY,k9,h9,w9,aY,P6,kj,hy,wy,hw,yJ _ _ _ _ nL];rfl
    ·exact⟨j+1,_,_,_,_,_,b++[y],⟨by simp only[E8,seval,hI],by simp only[E8,seval,hI],by simp only[E8,seval,hI],by simp only[E8,seval,hI],by simp only[E8,seval,hI]<;>rfl,by simp only[E8,seval]⟩,hC,.inr ⟨_,rfl,by simp only[E8,seval]<;>omega,by simp only[E8,seval]<;>rfl⟩,DB,Si,by omega,rfl⟩
  ·rcases hX with ⟨rfl,rfl⟩|⟨g,rfl,hg,hh⟩
   ·simp at hj;omega
   ·apply oT (.exit 0)
    ·simp only[Z8,seval,hI,k9,h9,w9,aY];rfl
    ·exact⟨rfl,_,_,_,_,g,b,⟨by simp only[E8,seval,hI],by simp only[E8,seval,hI],by simp only[E8,seval,hI],by simp only[E8,seval,hI]<;>rfl,by simp only[E8,seval,hh]⟩,hC,hb,by omega,by omega⟩
 case start=>exact⟨0,_,_,_,_,_,[],by and_intros<;>(simp only[E8,seval]<;>rfl),⟨rfl,rfl,rfl⟩,.inl ⟨rfl,rfl⟩,by simp,rfl,by omega,by omega⟩
 case rest =>
  rintro e st ⟨rfl,mD,sp,bq,tt,g,b,hI,⟨rfl,rfl,rfl⟩,hb,Si,B7⟩
  simp only[Z8,seval,hI];exact⟨_,by apply eB;rfl;all_goals simp only[aI,Z8,seval,hI,bP,Zu,bA,vV,dU]<;>rfl,⟨⟨6+x0,x1,x2,1+x3,x4,1+x5⟩,1+x6,bq,tt,mkRoot 1,ov bE (some b)⟩,b,rfl,⟨rfl,by omega,hb,by dsimp only;omega,by dsimp only;omega,by dsimp only;omega,by dsimp only;omega,by dsimp only;omega,by dsimp only;omega,by dsimp only;omega,by dsimp only;omega,rfl,by dsimp only;omega⟩⟩
structure SB (a r:List Node):Prop where
 UB:r.map (·.block)=a.map (·.block)
 up:r.map (·.up)=a.map (·.up)
theorem SB.refl (a:List Node):SB a a:=⟨rfl,rfl⟩
theorem SB.trans {a b c:List Node} (h:SB a b) (g:SB b c):SB a c:=⟨g.UB.trans h.UB,g.up.trans h.up⟩
theorem SB.len {a r:List Node} (h:SB a r):r.length=a.length:=by have:=congrArg List.length h.UB;simpa using this
theorem SB.block {a r:List Node} (h:SB a r) {j:Int} (j1:j.toNat<a.length):(nd r j).block=(nd a j).block:=by
 have h2:j.toNat<r.length:=by rw[h.len];exact j1
 have:=congrArg (fun l:List Block=>l[j.toNat]?) h.UB
 simpa [nd,j1,h2] using this
theorem SB.upE {a r:List Node} (h:SB a r) {j:Int} (j1:j.toNat<a.length):(nd r j).up=(nd a j).up:=by
 have h2:j.toNat<r.length:=by rw[h.len];exact j1
 have:=congrArg (fun l:List Int=>l[j.toNat]?) h.up
 simpa [nd,j1,h2] using this
theorem GX (l:List Node) (x:cA):aO l x=match (l.map (·.block)).findIdx? (fun b=>decide (b.root=x)) with
 | some k=>(k:Int)
 | none=>-1:=by
 unfold aO;rw[List.findIdx?_map];rfl
theorem SB.aO {a r:List Node} (h:SB a r) (x:cA):aO r x=aO a x:=by rw[GX,GX,h.UB]
theorem U5 (ns:List Node) (i to:Int):SB ns (setAt ns i to):=by
 have key:∀ {β:Type} (f:Node→β),(∀n s,f (Yp n s)=f n)→(setAt ns i to).map f=ns.map f:=by
  intro β f hf;unfold setAt;rw[List.map_set];apply List.ext_getElem (by simp)
  intro j h1 h2;rw[List.getElem_set];split
  ·rename_i e;have h3:j<ns.length:=by simpa using h2
   subst e;simp[hf,nd,h3]
  ·rfl
 exact⟨key _ fun _ _=>rfl,key _ fun _ _=>rfl⟩
theorem JJ {to never:Int}:∀(l:List Int) (ns r:List Node),GA to never l ns=some r→SB ns r
 | [],ns,r,h=>by simp only[GA,Option.some.injEq] at h;rw[h];exact SB.refl _
 | i :: l,ns,r,h=>by
   simp only[GA] at h;split at h
   ·cases h
   ·exact (U5 ns i to).trans (JJ l _ _ h)
def PF (ns:List Node) (x:AV):Prop:=(∃e:Int,e≠0∧x=.eG [.agg [.v (.slice none 0 0)],.v (.int .i64 e)])∨∃r,SB ns r∧x=.eG [.agg (cT ⟨r⟩),.v (.int .i64 0)]
theorem PF.err (ns:List Node) {e:Int} (h:e≠0):PF ns (DI e):=.inl ⟨e,h,rfl⟩
theorem aGa (ns:List Node) (i:Int):PF ns (N3 ns i):=by
 unfold N3;split
 ·unfold stA;split
  ·exact .err _ (by decide)
  ·rename_i r hr;exact .inr ⟨r,JJ _ _ _ hr,rfl⟩
 ·exact .err _ (by decide)
theorem U6 (ns:List Node) (i:Int):PF ns (N4 ns i):=by
 unfold N4;split
 ·unfold stA;split
  ·exact .err _ (by decide)
  ·rename_i r hr;exact .inr ⟨r,JJ _ _ _ hr,rfl⟩
 ·exact .err _ (by decide)
theorem PF.of {a b:List Node} (h:SB a b) {x:AV} (g:PF b x):PF a x:=g.imp id fun ⟨r,h1,h2⟩=>⟨r,h.trans h1,h2⟩
theorem aGb (ns:List Node) (i:Int) (v:fL) (l:List Int):PF ns (VE ns i v l):=by
 unfold VE;split
 ·exact .err _ (by decide)
 split
 ·exact aGa ns i
 split
 ·unfold P8;split
  ·exact .err _ (by decide)
  split
  ·split
   ·exact .err _ (by decide)
   ·rename_i r hr;exact .of (JJ _ _ _ hr) (U6 _ _)
  ·exact U6 _ _
 split
 ·exact .inr ⟨ns,SB.refl ns,rfl⟩
 ·exact .err _ (by decide)
theorem GI.tree {s:aN} {v:SV} {q:Int} (h:GI s v q) {r:List Node} (hs:SB v.ns r):GI { s with tree:=⟨.sl r.length (cB r)⟩} { v with ns:=r } q:=by
 have hl:=hs.len
 have hp:=h.pos
 refine⟨⟨h.sd.jO,h.sd.dT,h.sd.iB,h.sd.early,h.sd.bV,rfl,h.sd.tables,h.sd.eV,h.sd.tB,h.sd.nB,h.sd.nL,h.sd.nQ,h.sd.nE,h.sd.nO,h.sd.nT,by rw[hl];exact h.sd.nn⟩,fun i i0 i1=>?_, ?_,by show 0<r.length;omega,by rw[hl];exact h.nl,h.VO,h.qW,h.OI,h.nB,h.nO,h.OJ,h.nE,h.UF,h.nT,h.VP,h.nQ,h.Q5, ?_⟩
 ·have i1:i<(r.length:Int):=i1
  show 0≤(nd r i).up∧(nd r i).up<i
  rw[hs.upE (by omega)];exact h.up i i0 (by omega)
 ·show (nd r 0).up=-1
  rw[hs.upE (by show (0:Nat)<_;omega)];exact h.NM
 ·show 0≤aO r s.bJ.gW.root
  rw[hs.aO];exact h.gW
theorem RG.tree {s:aN} {v:SV} (h:RG s v) {r:List Node} (hs:SB v.ns r) (x:Gw):RG { s with tree:=x } { v with ns:=r } :=
 ⟨h.now,h.j,h.f,fun n hn=>by
  have:n.block∈r.map (·.block):=List.mem_map.2 ⟨n,hn,rfl⟩
  rw[hs.UB] at this;obtain⟨a,ha,e⟩:=List.mem_map.1 this
  rw[← e];exact h.nd a ha,h.or,fun n hn=>by
  have:n.block∈r.map (·.block):=List.mem_map.2 ⟨n,hn,rfl⟩
  rw[hs.UB] at this;obtain⟨a,ha,e⟩:=List.mem_map.1 this
  rw[← e];exact h.rt a ha,h.fe,by
  have e:=congrArg (List.map fun b:Block=>b.root) hs.UB
  rw[List.map_map,List.map_map] at e;show (r.map ((fun b:Block=>b.root) ∘ fun n=>n.block)).Nodup
  rw[e];exact h.ds,h.tb,⟨h.ne.q,h.ne.e,h.ne.o,h.ne.t,h.ne.ea,h.ne.tb⟩⟩
structure TQ (Q:List Request) (tag:Int):Prop where
 pos:1≤tag
 all:∀r∈Q,1≤r.tagged.tag∧r.tagged.tag<tag∧r.due=0
 asc:Q.Pairwise fun a b=>a.tagged.tag<b.tagged.tag
structure TR (R:List Request) (tag:Int):Prop where
 all:∀r∈R,r.tagged.tag<tag
 asc:R.Pairwise fun a b=>¬xC b a
def WK (ns:List Node) (l:List Request):Prop:=∀r∈l,0≤aO ns r.block
theorem TQ.sub {P Q:List Request} {tag:Int} (h:TQ Q tag) (s:P.Sublist Q):TQ P tag:=⟨h.pos,fun r hr=>h.all r (s.subset hr),h.asc.sublist s⟩
theorem TR.sub {P Q:List Request} {tag:Int} (h:TR Q tag) (s:P.Sublist Q):TR P tag:=⟨fun r hr=>h.all r (s.subset hr),h.asc.sublist s⟩
theorem TR.mono {Q:List Request} {t t':Int} (h:TR Q t) (l:t≤t'):TR Q t':=⟨fun r hr=>by have:=h.all r hr;omega,h.asc⟩
theorem WK.sub {ns:List Node} {P Q:List Request} (h:WK ns Q) (s:P.Sublist Q):WK ns P:=fun r hr=>h r (s.subset hr)
theorem TQ.app {Q:List Request} {tag:Int} (h:TQ Q tag) (b:cA) (n:Int):TQ (Q++[⟨⟨tag⟩,b,n,0⟩]) (tag+1):=by
 refine⟨by have:=h.pos;omega,fun r hr=>?_,List.pairwise_append.2 ⟨h.asc,List.pairwise_singleton ..,fun a ha b hb=>?_⟩⟩
 ·rcases List.mem_append.1 hr with hr|hr
  ·obtain⟨h1,h2,h3⟩:=h.all r hr;exact⟨h1,by omega,h3⟩
  ·rw[List.mem_singleton] at hr;subst hr;exact⟨h.pos,by show tag<tag+1;omega,rfl⟩
 ·rw[List.mem_singleton] at hb;subst hb;exact (h.all a ha).2.1
theorem WK.app {ns:List Node} {Q:List Request} (h:WK ns Q) {x:Request} (hx:0≤aO ns x.block):WK ns (Q++[x]):=fun r hr=>by
 rcases List.mem_append.1 hr with hr|hr
 ·exact h r hr
 ·rw[List.mem_singleton] at hr;subst hr;exact hx
theorem aLI {x:Int} (h1:1≤x) (h2:x≤1000000):IntKind.u64.wrap (x+1)=x+1:=wrap_u64 _ (by omega) (by omega)
theorem Qi (ns:List Node) (now:Int):∀(l:List Request) (a:(Option (List Request) × Int) × List Request),TQ (ol a.1.1) a.1.2→WK ns (ol a.1.1)→a.1.2+l.length≤1000000 →
 TQ (ol (Ad ns now a l).1.1) (Ad ns now a l).1.2∧WK ns (ol (Ad ns now a l).1.1)∧a.1.2≤(Ad ns now a l).1.2∧(Ad ns now a l).1.2≤a.1.2+l.length∧(Ad ns now a l).2=a.2++l.filter fun r=>decide (now<r.due)
 | [],a,h,hi,hb=>⟨h,hi,by show a.1.2≤a.1.2;omega,by show a.1.2≤a.1.2+((0:Nat):Int);omega,(List.append_nil _).symm⟩
 | r :: l,a,h,hi,hb=>by
   have hp:=h.pos
   rw[List.length_cons] at hb;have hw:=aLI hp (by omega)
   have e0:Ad ns now a (r :: l)=Ad ns now (Nm ns now a r) l:=rfl
   rw[e0,List.length_cons];by_cases g1:now<r.due
   ·have e1:Nm ns now a r=(a.1,a.2++[r]):=if_pos g1
    rw[e1];obtain⟨h1,h2,h3,h4,h5⟩:=Qi ns now l (a.1,a.2++[r]) h hi (by dsimp only;omega)
    refine⟨h1,h2,h3,by dsimp only at h4;omega, ?_⟩
    rw[h5,List.filter_cons,if_pos (decide_eq_true g1)];simp
   ·rw[List.filter_cons,if_neg (by simpa using g1)]
    by_cases g2:sI ns r.block
    ·have e1:Nm ns now a r=((some (ol a.1.1++[⟨⟨a.1.2⟩,r.block,r.tries,0⟩]),IntKind.u64.wrap (a.1.2+1)),a.2):=(if_neg g1).trans (if_pos g2)
     rw[e1,hw];obtain⟨h1,h2,h3,h4,h5⟩:=Qi ns now l ((some (ol a.1.1++[(⟨⟨a.1.2⟩,r.block,r.tries,0⟩:Request)]),a.1.2+1),a.2) (h.app _ _) (hi.app g2.1) (by dsimp only;omega)
     exact⟨h1,h2,by dsimp only at h3;omega,by dsimp only at h4;omega,h5⟩
    ·have e1:Nm ns now a r=a:=(if_neg g1).trans (if_neg g2)
     rw[e1];obtain⟨h1,h2,h3,h4,h5⟩:=Qi ns now l a h hi (by omega)
     exact⟨h1,h2,h3,by omega,h5⟩
theorem JK (ns:List Node):∀(l:List cA) (a:Option (List Request) × Int),TQ (ol a.1) a.2→WK ns (ol a.1)→a.2+l.length≤1000000 →
 TQ (ol (Gz ns a l).1) (Gz ns a l).2∧WK ns (ol (Gz ns a l).1)∧a.2≤(Gz ns a l).2∧(Gz ns a l).2≤a.2+l.length
 | [],a,h,hi,hb=>⟨h,hi,by show a.2≤a.2;omega,by show a.2≤a.2+((0:Nat):Int);omega⟩
 | r :: l,a,h,hi,hb=>by
   have hp:=h.pos
   rw[List.length_cons] at hb;have hw:=aLI hp (by omega)
   have e0:Gz ns a (r :: l)=Gz ns (GU ns a r) l:=rfl
   rw[e0,List.length_cons];by_cases g2:sI ns r
   ·have e1:GU ns a r=(some (ol a.1++[⟨⟨a.2⟩,r,0,0⟩]),IntKind.u64.wrap (a.2+1)):=if_pos g2
    rw[e1,hw];obtain⟨h1,h2,h3,h4⟩:=JK ns l (some (ol a.1++[(⟨⟨a.2⟩,r,0,0⟩:Request)]),a.2+1) (h.app _ _) (hi.app g2.1) (by dsimp only;omega)
    exact⟨h1,h2,by dsimp only at h3;omega,by dsimp only at h4;omega⟩
   ·have e1:GU ns a r=a:=if_neg g2
    rw[e1];obtain⟨h1,h2,h3,h4⟩:=JK ns l a h hi (by omega)
    exact⟨h1,h2,h3,by omega⟩
theorem p4 (ns:List Node) (now:Int):∀(l:List Request) (a:(Option (List Request) × Int) × List Request),a.1.1≠some []→(Ad ns now a l).1.1≠some []
 | [],a,h=>h
 | r :: l,a,h=>by
   have e0:Ad ns now a (r :: l)=Ad ns now (Nm ns now a r) l:=rfl
   rw[e0];refine p4 ns now l _ ?_
   unfold Nm;split
   ·exact h
   split
   ·simp
   ·exact h
theorem U7 (ns:List Node):∀(l:List cA) (a:Option (List Request) × Int),a.1≠some []→(Gz ns a l).1≠some []
 | [],a,h=>h
 | r :: l,a,h=>by
   have e0:Gz ns a (r :: l)=Gz ns (GU ns a r) l:=rfl
   rw[e0];refine U7 ns l _ ?_
   unfold GU;split
   ·simp
   ·exact h
noncomputable def JL:List Request→Request→List Request→List Request
 | [],x,B=>x :: B
 | y :: A,x,B=>if xC x y then JL A x (y :: B) else (y :: A).reverse++x :: B
theorem GY:∀(A:List Request) (x:Request) (B:List Request),Cu A.length (A.reverse++x :: B)=JL A x B
 | [],x,B=>rfl
 | y :: A,x,B=>by
   have e1:gx bU ((y :: A).reverse++x :: B) ((A.length+1:Nat):Int)=x:=by
    unfold gx;rw[Int.toNat_natCast,List.reverse_cons,List.append_assoc,List.getD_eq_getElem?_getD,List.getElem?_append_right (by simp),List.length_reverse]
    simp
   have e2:gx bU ((y :: A).reverse++x :: B) (A.length:Int)=y:=by
    unfold gx;rw[Int.toNat_natCast,List.reverse_cons,List.append_assoc,List.getD_eq_getElem?_getD,List.getElem?_append_right (by simp),List.length_reverse]
    simp
   have e3:(((y :: A).reverse++x :: B).set (A.length+1) y).set A.length x=A.reverse++x :: y :: B:=by
    rw[List.reverse_cons,List.append_assoc,List.set_append_right _ _ (by simp),List.length_reverse,List.set_append_right _ _ (by simp),List.length_reverse]
    simp
   rw[List.length_cons];have e0:∀l,Cu (A.length+1) l=if xC (gx bU l ((A.length+1:Nat):Int)) (gx bU l (A.length:Int)) then Cu A.length ((l.set (A.length+1) (gx bU l (A.length:Int))).set A.length (gx bU l ((A.length+1:Nat):Int))) else l:=fun l=>rfl
   rw[e0,e1,e2,e3];unfold JL;split
   ·exact GY A x (y :: B)
   ·rfl
theorem Zv {r:Request}:∀(A:List Request) (x:Request) (B:List Request),r∈JL A x B↔r∈A∨r=x∨r∈B
 | [],x,B=>by simp[JL]
 | y :: A,x,B=>by
   unfold JL;split
   ·rw[Zv A x (y :: B)];simp only[List.mem_cons];constructor
    ·rintro (h|h|h|h)
     ·exact .inl (.inr h)
     ·exact .inr (.inl h)
     ·exact .inl (.inl h)
     ·exact .inr (.inr h)
    ·rintro ((h|h)|h|h)
     ·exact .inr (.inr (.inl h))
     ·exact .inl h
     ·exact .inr (.inl h)
     ·exact .inr (.inr (.inr h))
   ·simp[or_assoc,or_left_comm]
theorem Vc {a b:Request} (h:xC a b):¬xC b a:=by unfold xC at *;omega
theorem U8 {a b c:Request} (h1:¬xC b a) (h2:¬xC c b):¬xC c a:=by unfold xC at *;omega
theorem PG:∀(A:List Request) (x:Request) (B:List Request),(A.reverse++B).Pairwise (fun a b=>¬xC b a)→(∀b∈B,xC x b)→(JL A x B).Pairwise fun a b=>¬xC b a
 | [],x,B,h,hb=>List.pairwise_cons.2 ⟨fun b m=>Vc (hb b m),h⟩
 | y :: A,x,B,h,hb=>by
   unfold JL;have h0:=h
   rw[List.reverse_cons,List.append_assoc] at h;split
   ·rename_i g;exact PG A x (y :: B) h fun b m=>(List.mem_cons.1 m).elim (fun e=>by rw[e];exact g) (hb b)
   ·rename_i g;obtain⟨p1,p2,p3⟩:=List.pairwise_append.1 h0
    refine List.pairwise_append.2 ⟨p1,List.pairwise_cons.2 ⟨fun b m=>Vc (hb b m),p2⟩,fun a ha b m=>?_⟩
    rcases List.mem_cons.1 m with rfl|m
    ·rw[List.reverse_cons,List.mem_append,List.mem_singleton] at ha;rcases ha with ha|rfl
     ·have:=(List.pairwise_append.1 h).2.2 a ha y (by simp)
      exact U8 this g
     ·exact g
    ·exact p3 a ha b m
theorem U9 (R:List Request) (x:Request):Cu R.length (R++[x])=JL R.reverse x []:=by
 have:=GY R.reverse x []
 rwa [List.reverse_reverse,List.length_reverse] at this
theorem TR.bub {R:List Request} {tag:Int} (h:TR R tag) {x:Request} (hx:x.tagged.tag<tag):TR (Cu R.length (R++[x])) tag:=by
 rw[U9];refine⟨fun r hr=>?_,PG _ _ _ (by rw[List.reverse_reverse,List.append_nil];exact h.asc) (by simp)⟩
 rcases (Zv _ _ _).1 hr with hr|rfl|hr
 ·exact h.all r (List.mem_reverse.1 hr)
 ·exact hx
 ·cases hr
theorem WK.bub {ns:List Node} {R:List Request} (h:WK ns R) {x:Request} (hx:0≤aO ns x.block):WK ns (Cu R.length (R++[x])):=by
 rw[U9];intro r hr;rcases (Zv _ _ _).1 hr with hr|rfl|hr
 ·exact h r (List.mem_reverse.1 hr)
 ·exact hx
 ·cases hr
structure TI0 (t:State) (v:SV) (Q R:Option (List Request)) (q m:Int):Prop where
 td:TD t v Q R
 gi:GI t.store v q
 rg:RG t.store v
 cfg:∃b,Qe t.store.cFg b
 tq:TQ (ol Q) t.bB
 tr:TR (ol R) t.bB
 nt:t.bB≤1+m
 lq:((ol Q).length:Int)≤m
 lr:((ol R).length:Int)≤t.store.cFg.mD.oJ
 mB:m≤100000
 qn:Q≠some []
 rn:R≠some []
structure TI (t:State) (v:SV) (Q R:Option (List Request)) (q m:Int):Prop extends TI0 t v Q R q m where
 O0:WK v.ns (ol Q)
 O1:WK v.ns (ol R)
theorem TI0.mono {t:State} {v:SV} {Q R:Option (List Request)} {q m q' m':Int} (h:TI0 t v Q R q m) (h1:q≤q') (h2:q'≤900000) (h3:m≤m') (h4:m'≤100000):TI0 t v Q R q' m' :=
 ⟨h.td,h.gi.mono h1 h2,h.rg,h.cfg,h.tq,h.tr,by have:=h.nt;omega,by have:=h.lq;omega,h.lr,h4,h.qn,h.rn⟩
theorem TI.mono {t:State} {v:SV} {Q R:Option (List Request)} {q m q' m':Int} (h:TI t v Q R q m) (h1:q≤q') (h2:q'≤900000) (h3:m≤m') (h4:m'≤100000):TI t v Q R q' m':=⟨h.toTI0.mono h1 h2 h3 h4,h.O0,h.O1⟩
theorem TI0.store {t:State} {v:SV} {Q R:Option (List Request)} {q m:Int} (h:TI0 t v Q R q m) {s':aN} {v':SV} {q':Int} (g:GI s' v' q') (r:RG s' v') (c:s'.cFg=t.store.cFg):TI0 { t with store:=s' } v' Q R q' m :=
 ⟨⟨g.sd,h.td.Cp,h.td.ret,h.td.nQ,h.td.nR⟩,g,r,by show ∃b,Qe s'.cFg b;rw[c];exact h.cfg,h.tq,h.tr,h.nt,h.lq,by show _≤s'.cFg.mD.oJ;rw[c];exact h.lr,h.mB,h.qn,h.rn⟩
theorem TI.emit {t:State} {v:SV} {Q R:Option (List Request)} {q m:Int} (h:TI t v Q R q m) (b:Bool) (c:Command):TI { t with zX:=b,last:=c } v Q R q m :=
 ⟨⟨⟨h.td.sd,h.td.Cp,h.td.ret,h.td.nQ,h.td.nR⟩,h.gi,h.rg,h.cfg,h.tq,h.tr,h.nt,h.lq,h.lr,h.mB,h.qn,h.rn⟩,h.O0,h.O1⟩
theorem TI.halt {t:State} {v:SV} {Q R:Option (List Request)} {q m:Int} (h:TI t v Q R q m) (b:Bool):TI { t with halted:=b } v Q R q m :=
 ⟨⟨⟨h.td.sd,h.td.Cp,h.td.ret,h.td.nQ,h.td.nR⟩,h.gi,h.rg,h.cfg,h.tq,h.tr,h.nt,h.lq,h.lr,h.mB,h.qn,h.rn⟩,h.O0,h.O1⟩
theorem TI.over {t:State} {v:SV} {Q R:Option (List Request)} {q m:Int} (h:TI t v Q R q m) (b:Bool):TI { t with overflow:=b } v Q R q m :=
 ⟨⟨⟨h.td.sd,h.td.Cp,h.td.ret,h.td.nQ,h.td.nR⟩,h.gi,h.rg,h.cfg,h.tq,h.tr,h.nt,h.lq,h.lr,h.mB,h.qn,h.rn⟩,h.O0,h.O1⟩
theorem TI0.aCr {t:State} {v:SV} {Q R:Option (List Request)} {q m:Int} (h:TI0 t v Q R q m):t.store.cFg.mD.oJ≤256:=by obtain⟨b,hb⟩:=h.cfg;exact hb.oJ.2
theorem TI0.jO {t:State} {v:SV} {Q R:Option (List Request)} {q m:Int} (h:TI0 t v Q R q m):0<(ol v.B).length∧(ol v.B).length≤64:=by
 obtain⟨b,hb⟩:=h.cfg
 have e:=h.gi.sd.jO.symm.trans hb.jO
 have n:=hb.nb
 cases hB:v.B with
 | none=>rw[hB] at e;cases e
 | some l =>
   rw[hB] at e;have e:AV.sl l.length (bE l)=AV.sl b.length (bE b):=e
   injection e with e1 e2
   show 0<l.length∧l.length≤64
   omega
theorem TI0.drop {t:State} {v:SV} {Q R:Option (List Request)} {q m:Int} (h:TI0 t v Q R q m):TI (WE t v Q R) v (nz (pI v.ns (ol Q))) (nz (pI v.ns (ol R))) q m:=by
 have s1:(pI v.ns (ol Q)).Sublist (ol Q):=List.filter_sublist
 have s2:(pI v.ns (ol R)).Sublist (ol R):=List.filter_sublist
 have l1:=s1.length_le
 have l2:=s2.length_le
 have a1:=h.lq
 have a2:=h.lr
 refine⟨⟨h.td.drp,h.gi,h.rg,h.cfg, ?_, ?_,h.nt, ?_, ?_,h.mB,Zf _,Zf _⟩, ?_, ?_⟩
 ·rw[oV];exact h.tq.sub s1
 ·rw[oV];exact h.tr.sub s2
 ·rw[oV];omega
 ·rw[oV];show _≤t.store.cFg.mD.oJ;omega
 ·rw[oV];intro r hr;exact of_decide_eq_true (List.mem_filter.1 hr).2
 ·rw[oV];intro r hr;exact of_decide_eq_true (List.mem_filter.1 hr).2
theorem TI.due {t:State} {v:SV} {Q R:Option (List Request)} {q m:Int} (h:TI t v Q R q m) (hm:m+256≤100000):TI (aCp t v.ns Q R) v (JI t v.ns Q R).1.1 (nz (JI t v.ns Q R).2) q (m+256):=by
 have a1:=h.lq
 have a2:=h.lr
 have a3:=h.aCr
 have a4:=h.nt
 obtain⟨h1,h2,h3,h4,h5⟩:=Qi v.ns t.store.now (ol R) ((Q,t.bB),[]) h.tq h.O0 (by dsimp only;omega)
 have hl:=PA v.ns t.store.now (ol R) ((Q,t.bB),[])
 rw[List.nil_append] at h5;have e1:Ad v.ns t.store.now ((Q,t.bB),[]) (ol R)=JI t v.ns Q R:=rfl
 rw[e1] at h1 h2 h3 h4 h5 hl;dsimp only at h3 h4 hl
 have s2:(JI t v.ns Q R).2.Sublist (ol R):=by rw[h5];exact List.filter_sublist
 have l2:=s2.length_le
 have Si:=hl.1
 have:=h.mB
 refine⟨⟨⟨h.td.sd,rfl,rfl,by omega,by rw[oV];omega⟩,h.gi,h.rg,h.cfg,h1, ?_, ?_,by omega, ?_,hm,p4 v.ns t.store.now (ol R) ((Q,t.bB),[]) h.qn,Zf _⟩,h2, ?_⟩
 ·rw[oV];exact (h.tr.sub s2).mono h3
 ·show (JI t v.ns Q R).1.2≤_;omega
 ·rw[oV];show _≤t.store.cFg.mD.oJ;omega
 ·rw[oV];exact h.O1.sub s2
theorem TI.open {t:State} {v:SV} {Q R:Option (List Request)} {q m:Int} (h:TI t v Q R q m) (L:List cA) (hL:(L.length:Int)≤100) (hm:m+256≤100000):TI (DN t (Gz v.ns (Q,t.bB) L)) v (Gz v.ns (Q,t.bB) L).1 R q (m+256):=by
 have a1:=h.lq
 have a4:=h.nt
 obtain⟨h1,h2,h3,h4⟩:=JK v.ns L (Q,t.bB) h.tq h.O0 (by dsimp only;omega)
 have hl:=Qg v.ns (Q,t.bB) L
 dsimp only at h3 h4 hl
 refine⟨⟨h.td.DN _ (by omega),h.gi,h.rg,h.cfg,h1,h.tr.mono h3, ?_,by omega,h.lr,hm,U7 v.ns L (Q,t.bB) h.qn,h.rn⟩,h2,h.O1⟩
 show (Gz v.ns (Q,t.bB) L).2≤_;omega
theorem TI.V0 {t:State} {v:SV} {Q R:Option (List Request)} {q m:Int} (h:TI t v Q R q m) {r:Request} (hr:r.tagged.tag<t.bB):∃R',TI (G0 t v.ns (ol R) r) v Q R' q m:=by
 unfold G0;split
 ·exact⟨R,h⟩
 split
 ·exact⟨R,h.over true⟩
 ·rename_i g1 g2;have g1:=Classical.not_not.1 g1
  have hl:(Cu (ol R).length (ol R++[PE t r])).length=(ol R).length+1:=by rw[PD,List.length_append,List.length_cons,List.length_nil]
  have a3:=h.aCr
  refine⟨some (Cu (ol R).length (ol R++[PE t r])),⟨⟨h.td.sd,h.td.Cp,rfl,h.td.nQ, ?_⟩,h.gi,h.rg,h.cfg,h.tq,h.tr.bub (x:=PE t r) hr,h.nt,h.lq, ?_,h.mB,h.qn,fun e=>by injection e with e;rw[e] at hl;simp at hl⟩,h.O0,h.O1.bub (x:=PE t r) g1.1⟩
  ·show ((Cu (ol R).length (ol R++[PE t r])).length:Int)<_;omega
  ·show ((Cu (ol R).length (ol R++[PE t r])).length:Int)≤t.store.cFg.mD.oJ;omega
theorem TI.less {t:State} {v:SV} {Q R:Option (List Request)} {q m:Int} (h:TI t v Q R q m) (k:Nat):TI { t with cY:=ov aA (nz ((ol Q).take k++(ol Q).drop (k+1)))} v (nz ((ol Q).take k++(ol Q).drop (k+1))) R q m:=by
 have s:((ol Q).take k++(ol Q).drop (k+1)).Sublist (ol Q):=by rw[← List.eraseIdx_eq_take_drop_succ];exact List.eraseIdx_sublist ..
 have l1:=s.length_le
 have a1:=h.lq
 have:=h.td.nQ
 exact⟨⟨⟨h.td.sd,rfl,h.td.ret,by rw[oV];omega,h.td.nR⟩,h.gi,h.rg,h.cfg,by rw[oV];exact h.tq.sub s,h.tr,h.nt,by rw[oV];omega,h.lr,h.mB,Zf _,h.rn⟩,by rw[oV];exact h.O0.sub s,h.O1⟩
theorem TI.tree {t:State} {v:SV} {Q R:Option (List Request)} {q m:Int} (h:TI t v Q R q m) {r:List Node} (hs:SB v.ns r) (b:cA):TI { t with store:={ t.store with tree:=⟨.sl r.length (cB r)⟩,iG:=b }} { v with ns:=r } Q R q m:=by
 have g:=(h.gi.tree hs).iG b
 have e:=(h.rg.tree hs ⟨.sl r.length (cB r)⟩).iG b
 exact⟨h.toTI0.store g e rfl,fun x hx=>by show 0≤aO r x.block;rw[hs.aO];exact h.O0 x hx,fun x hx=>by show 0≤aO r x.block;rw[hs.aO];exact h.O1 x hx⟩
def Af (Q:List Request) (tag:Int) (k:Nat):Prop:=(gx bU Q (k:Int)).tagged.tag=tag
theorem x27 {t:State} {v:SV} {Q R:Option (List Request)} (h:TD t v Q R) (w:fL):∃x,aC Tryz.prog 27 [.agg (aF t),.agg (bW w)]=some x ∧
 (((∀j:Nat,j<(ol Q).length→¬Af (ol Q) w.tagged.tag j)∧x=.eG [.agg (bN bU),.agg (aF iW),.v (.int .i64 23)]) ∨
  ∃k:Nat,k<(ol Q).length∧Af (ol Q) w.tagged.tag k∧(∀j:Nat,j<k→¬Af (ol Q) w.tagged.tag j)∧x=.eG [.agg (bN (gx bU (ol Q) (k:Int))),.agg (aF { t with cY:=ov aA (nz ((ol Q).take k++(ol Q).drop (k+1)))}),.v (.int .i64 0)]):=by
 have kE:=h.fl
 have nQ:=h.nQ
 have nQ1:((ol Q).length:Int)<1000000:=by omega
 have Uw:Flat (.agg (aF iW)):=by simp only[dU,iW,gP,nH,Im,Bs,Nh,and_self]
 rw[cG Tryz.func27 rfl aQL (by kernel_rfl) rfl]
 simp only[ZG,seval,Bool.false_and,Prod.mk.injEq,JM];refine mE (fun m st=>∃k:Nat,(st.env 2=.ptr 2 0 0∧st.heap 2 0=some (.cells (aF t))∧st.env 3=.ptr 3 0 0∧st.heap 3 0=some (.cells (bW w))∧st.env 4=.ptr 4 0 0∧st.heap 4 0=some (.cells (bN bU))∧st.env 5=.ptr 5 0 0∧st.heap 5 0=some (.cells (aF iW))∧st.env 7=.v (.int .i64 k))∧(∀j:Nat,j<k→¬Af (ol Q) w.tagged.tag j)∧k≤(ol Q).length∧m=(ol Q).length-k)
  (fun e st=>(e=.ret∧∃(k:Nat) (X:AV),(st.env 4=.ptr 4 0 0∧st.heap 4 0=some (.cells (bN (gx bU (ol Q) (k:Int))))∧st.env 5=.ptr 5 0 0∧st.heap 5 0=some (.cells (aF { t with cY:=X }))∧st.env 6=.v (.int .i64 0))∧((X=.v (.slice none 0 0)∧(ol Q).take k++(ol Q).drop (k+1)=[])∨∃g,X=.own 42 g∧(ol Q).take k++(ol Q).drop (k+1)≠[]∧st.heap 42 g=some (.row 63 35 ((ol Q).take k++(ol Q).drop (k+1)).length (aA ((ol Q).take k++(ol Q).drop (k+1)))))∧k<(ol Q).length∧Af (ol Q) w.tagged.tag k∧(∀j:Nat,j<k→¬Af (ol Q) w.tagged.tag j)) ∨
   (e=.exit 0∧(st.env 4=.ptr 4 0 0∧st.heap 4 0=some (.cells (bN bU))∧st.env 5=.ptr 5 0 0∧st.heap 5 0=some (.cells (aF iW)))∧∀j:Nat,j<(ol Q).length→¬Af (ol Q) w.tagged.tag j)) (ol Q).length ?step ?start ?rest
 case step =>
  rintro m st ⟨k,hI,hj,hk,hm⟩
  by_cases aY:(k:Int)<(ol Q).length
  case neg =>
   apply MX (.exit 0)
   ·simp only[ZG,seval,Bool.false_and,Prod.mk.injEq,JM,hI,h.Cp,aY];rfl
   ·exact .inr ⟨rfl,by simp only[E8,seval,hI],fun j UD=>hj j (by omega)⟩
  have q0:(0:Int)≤k:=by omega
  have q2:(k:Int)≤((ol Q).length:Int):=by omega
  have q3:(0:Int)≤((k+1:Nat):Int):=by omega
  have q4:((k+1:Nat):Int)≤((ol Q).length:Int):=by omega
  have hw:IntKind.i64.wrap ((k:Int)+1)=((k+1:Nat):Int):=by rw[pZ _ (by omega) (by omega)];omega
  have n1:((((ol Q).take k).length:Nat):Int)<1000000:=by rw[List.length_take];omega
  have n2:((((ol Q).drop (k+1)).length:Nat):Int)<1000000:=by rw[List.length_drop];omega
  have e1:ol (Q.map (·.take k))=(ol Q).take k:=by cases Q<;>simp[ol]
  have e2:ol (Q.map (·.drop (k+1)))=(ol Q).drop (k+1):=by cases Q<;>simp[ol]
  by_cases hh:Af (ol Q) w.tagged.tag k
  ·have hh':(gx bU (ol Q) (k:Int)).tagged.tag=w.tagged.tag:=hh
   obtain⟨LL,DD⟩:∃LL,(ol Q).take k++(ol Q).drop (k+1)=LL:=⟨_,rfl⟩
   by_cases hz:LL=[]
   ·have hT:((ol Q).take k).length=0:=by have:=congrArg List.length DD;rw[hz,List.length_append] at this;simp only[List.length_nil] at this;omega
    have hD:((ol Q).drop (k+1)).length=0:=by have:=congrArg List.length DD;rw[hz,List.length_append] at this;simp only[List.length_nil] at this;omega
    apply MX (.ret)
    ·simp only[ZG,seval,Bool.false_and,Prod.mk.injEq,JM,hI,h.Cp,aY,q0,q2,q3,q4,hw,bt hh',Int.toNat_natCast,iI,iJ,Cv,Option.isSome_some,Option.map_some,Option.some.injEq,hT,hD,e1,e2];rfl
    ·exact .inl ⟨rfl,k,.v (.slice none 0 0),by simp only[E8,seval,hI]<;>rfl,.inl ⟨rfl,DD.trans hz⟩,by omega,hh,hj⟩
   have DM:(LL.length=0)=False:=eq_false fun h=>hz (List.length_eq_zero_iff.1 h)
   have n3:((LL.length:Nat):Int)<1000000:=by rw[← DD,List.length_append,List.length_take,List.length_drop];omega
   by_cases uW:k=0
   ·have hT:((ol Q).take k).length=0:=by rw[uW];rfl
    have hD:(ol Q).drop (k+1)=LL:=by rw[← DD,uW];rfl
    apply MX (.ret)
    ·simp only[ZG,seval,Bool.false_and,Prod.mk.injEq,JM,hI,h.Cp,aY,q0,q2,q3,q4,hw,bt hh',Int.toNat_natCast,iI,iJ,Cv,Option.isSome_some,Option.map_some,Option.some.injEq,hT,hD,DM,rA _ n3,e1,e2];rfl
    ·exact .inl ⟨rfl,k,_,by simp only[E8,seval,hI]<;>rfl,.inr ⟨_,rfl,by rw[DD];exact hz,by rw[DD];simp only[E8,seval]<;>rfl⟩,by omega,hh,hj⟩
   ·have hT:(((ol Q).take k).length=0)=False:=eq_false (by rw[List.length_take];omega)
    apply MX (.ret)
    ·simp only[ZG,seval,Bool.false_and,Prod.mk.injEq,JM,hI,h.Cp,aY,q0,q2,q3,q4,hw,bt hh',Int.toNat_natCast,iI,iJ,Cv,Option.isSome_some,Option.map_some,Option.some.injEq,hT,rA _ n1,Vd _ _ _ _ n1 n2,e1,e2];rfl
    ·exact .inl ⟨rfl,k,_,by simp only[E8,seval,hI]<;>rfl,.inr ⟨_,rfl,by rw[DD];exact hz,by simp only[E8,seval]<;>rfl⟩,by omega,hh,hj⟩
  ·have hh':¬(gx bU (ol Q) (k:Int)).tagged.tag=w.tagged.tag:=hh
   apply Ga ((ol Q).length-(k+1))
   ·simp only[ZG,seval,Bool.false_and,Prod.mk.injEq,JM,hI,h.Cp,aY,q0,hw,bf hh'];rfl
   ·exact⟨k+1,by simp only[E8,seval,hI],fun j UD=>(Nat.lt_succ_iff_lt_or_eq.1 UD).elim (hj j) fun e=>by subst e;exact hh,by omega,rfl⟩
 case start=>exact⟨0,by simp only[E8,seval]<;>rfl,fun j hj=>by omega,by omega,by omega⟩
 case rest =>
  rintro e st (⟨rfl,k,X,hI,hX,hk,hh,hj⟩|⟨rfl,hI,hj⟩)
  ·rcases hX with ⟨rfl,hz⟩|⟨g,rfl,hz,hg⟩
   ·have hfz:Flat (.agg (aF { t with cY:=.v (.slice none 0 0)})):=(oG _).2 ⟨kE.1,kE.2.1,kE.2.2.1,kE.2.2.2.1,kE.2.2.2.2.1,kE.2.2.2.2.2.1,kE.2.2.2.2.2.2.1,.v _,kE.2.2.2.2.2.2.2.2⟩
    simp only[ZG,seval,Bool.false_and,Prod.mk.injEq,JM,hI];exact⟨_,gO rfl (by simp only[bT,Z8,seval,hI]<;>rfl) (by simp only[bT,Z8,seval,hI]<;>rfl) (by simp only[bT,E8,seval,hI]<;>rfl) (dM (.agg _ (gL _))) (dM hfz) (by simp only[Z8,seval]<;>rfl),.inr ⟨k,hk,hh,hj,by rw[hz,show nz ([]:List Request)=none from if_pos rfl];rfl⟩⟩
   ·simp only[ZG,seval,Bool.false_and,Prod.mk.injEq,JM,hI,hg];exact⟨_,gO rfl (by simp only[bT,Z8,seval,hI]<;>rfl) (by simp only[bT,Z8,seval,hI]<;>rfl) (by simp only[bT,E8,seval,hI]<;>rfl) (dM (.agg _ (gL _))) (by simp only[Z8,seval,hI,hg,bP,vZ,gJ,bA,pH,bY,dU,kE]<;>rfl) (by simp only[Z8,seval]<;>rfl),.inr ⟨k,hk,hh,hj,by rw[show nz ((ol Q).take k++(ol Q).drop (k+1))=some _ from if_neg hz];rfl⟩⟩
  ·simp only[ZG,seval,Bool.false_and,Prod.mk.injEq,JM,hI];exact⟨_,by apply gO;rfl;all_goals simp only[aI,bT,Z8,seval,hI,Uw]<;>rfl,.inl ⟨hj,rfl⟩⟩
theorem aQM (ns:List Node) (hu:iA ns) (hr:(nd ns 0).up=-1) (hn:(ns.length:Int)<1000000) (i:Int) (w:fL) (l:List Int) (hl:(l.length:Int)<1000000) (st:St) (a g:Nat) (d:Option Nat) (hh:st.heap a g=some (.row 3 1 l.length (aJ l))) :
 eI (aC Tryz.prog) 222 [.agg (cT ⟨ns⟩),.v (.int .i64 i),.agg (bW w),.own a g] st d=some { dst:=d,val:=VE ns i w l,dJ:=some (a,g,none)}:=by
 rw[Gd (s:=a) (k:=g) (by rw[List.flatMap_cons,List.flatMap_cons,List.flatMap_cons,tP (mZ _),tP (.v _),tP (.agg _ (gM w))];rfl) (by intro y hy;simp only[List.mem_cons,List.not_mem_nil,or_false] at hy;rcases hy with rfl|rfl|rfl|rfl;exact .inl (mZ _);exact .inl (.v _);exact .inl (.agg _ (gM w));exact .inr (.inl ⟨a,g,rfl⟩)),
  List.map_cons,List.map_cons,List.map_cons,List.map_cons,List.map_nil,dM (mZ _),dM (.v _),dM (.agg _ (gM w)),Kc hh,bL,bL,bL,bL,gK]
 exact Zi (aOU ns hu hr hn i w l hl (.inl rfl)) (D6 ns i w l)
theorem aQN {t:State} {v:SV} {Q R:Option (List Request)} {q m:Int} (h:TI t v Q R q m) (w:fL) :
 ∃x,aC Tryz.prog 206 [.agg (aF t),.agg (bW w)]=some x∧∃(t':State) (e:Int) (v':SV) (Q' R':Option (List Request)),x=.eG [.agg (aF t'),.v (.int .i64 e)]∧TI t' v' Q' R' q m:=by
 have hf:=h.td.flat
 have kE:=h.td.fl
 have fw:Flat (.agg (bW w)):=.agg _ (gM w)
 have Uw:Flat (.agg (aF iW)):=by simp only[dU,iW,gP,nH,Im,Bs,Nh,and_self]
 obtain⟨y,hy,⟨hj,rfl⟩|⟨k,hk,hh,hj,rfl⟩⟩:=x27 h.td w
 ·have k27:=kx hy (bG hf fw) (.eG _ (nA (.agg _ (gL _)) Uw (.v _)))
  rw[cL Tryz.func206 rfl aEP rfl];simp only[Z8,seval,k27,dY];exact⟨_,by apply dO;rfl;all_goals simp only[aI,bT,Z8,seval,hf]<;>rfl,t,23,v,Q,R,rfl,h⟩
 obtain⟨r,er⟩:∃r,gx bU (ol Q) (k:Int)=r:=⟨_,rfl⟩
 obtain⟨t1,et⟩:∃t1,({ t with cY:=ov aA (nz ((ol Q).take k++(ol Q).drop (k+1)))}:State)=t1:=⟨_,rfl⟩
 have hr:r.tagged.tag<t.bB:=by rw[← er];exact (h.tq.all _ (vU (by omega) (by omega))).2.1
 have h1:=h.less k
 rw[et] at h1;rw[er,et] at hy;have nt1:t1.bB=t.bB:=by rw[← et]
 have hf1:=h1.td.flat
 have PH:=h1.td.fl
 have k27:=kx hy (bG hf fw) (.eG _ (nA (.agg _ (gL _)) hf1 (.v _)))
 have hn:=h1.gi.sd.nn
 rw[cL Tryz.func206 rfl aEP rfl];by_cases g3:w.kind=3
 ·obtain⟨R',hR'⟩:=h1.V0 (r:=r) (by rw[nt1];exact hr)
  have ff:=hR'.td.flat
  have k72:=kx (c72 h1.td r) (bG hf1 (.agg _ (gL _))) ff
  simp only[Z8,seval,k27,dY,bt g3,k72];exact⟨_,by apply dO;rfl;all_goals simp only[aI,bT,Z8,seval,ff]<;>rfl,_,0,v,_,R',rfl,hR'⟩
 by_cases g4:w.kind=4
 ·obtain⟨R',hR'⟩:=h1.V0 (r:=r) (by rw[nt1];exact hr)
  have ff:=hR'.td.flat
  have k72:=kx (c72 h1.td r) (bG hf1 (.agg _ (gL _))) ff
  simp only[Z8,seval,k27,dY,bf g3,bt g4,k72];exact⟨_,by apply dO;rfl;all_goals simp only[aI,bT,Z8,seval,ff]<;>rfl,_,0,v,_,R',rfl,hR'⟩
 have GZ:∀(st:St) (a g:Nat) (d:Option Nat),st.heap a g=some (.row 3 1 2 (aJ [aO v.ns t1.store.bJ.gW.root,aO v.ns t1.store.bJ.fin.root]))→_:=fun st a g d hh=>aQM v.ns h1.gi.up h1.gi.NM hn (aO v.ns r.block) w [aO v.ns t1.store.bJ.gW.root,aO v.ns t1.store.bJ.fin.root] (by show ((2:Nat):Int)<_;omega) st a g d hh
 rcases aGb v.ns (aO v.ns r.block) w [aO v.ns t1.store.bJ.gW.root,aO v.ns t1.store.bJ.fin.root] with ⟨e,he,ej⟩|⟨Zc,hs,ej⟩
 ·rw[ej] at GZ
  have hH:=h.halt true
  have fH:=hH.td.flat
  simp only[Z8,seval,k27,dY,bf g3,bf g4,Fu,h1.gi.sd.tree,mQ _ _ hn,GZ,bf he];exact⟨_,by apply dO;rfl;all_goals simp only[aI,bT,Z8,seval,fH]<;>rfl,_,21,v,Q,R,rfl,hH⟩
 rw[ej] at GZ
 have Ju:(Zc.length:Int)<1000000:=by rw[hs.len];exact hn
 have fr:=fN Zc t1.store.iG
 by_cases b0:0≤aO Zc t1.store.iG
 case neg =>
  have T:=h1.tree hs t1.store.iG
  have ft:=T.td.flat
  simp only[Z8,seval,k27,dY,bf g3,bf g4,Fu,h1.gi.sd.tree,mQ _ _ hn,mQ _ _ Ju,GZ,b0];exact⟨_,by apply dO;rfl;all_goals simp only[aI,bT,Z8,seval,ft]<;>rfl,_,0,_,_,R,rfl,T⟩
 by_cases b1:(nd Zc (aO Zc t1.store.iG)).status=2
 case neg =>
  have T:=h1.tree hs t1.store.iG
  have ft:=T.td.flat
  simp only[Z8,seval,k27,dY,bf g3,bf g4,Fu,h1.gi.sd.tree,mQ _ _ hn,mQ _ _ Ju,GZ,b0,fr.2,bf b1];exact⟨_,by apply dO;rfl;all_goals simp only[aI,bT,Z8,seval,ft]<;>rfl,_,0,_,_,R,rfl,T⟩
 have T:=h1.tree hs dE
 have ft:=T.td.flat
 simp only[Z8,seval,k27,dY,bf g3,bf g4,Fu,h1.gi.sd.tree,mQ _ _ hn,mQ _ _ Ju,GZ,b0,fr.2,bt b1];exact⟨_,by apply dO;rfl;all_goals simp only[aI,bT,Z8,seval,ft]<;>rfl,_,0,_,_,R,rfl,T⟩
end Go.Ab.Tryz
