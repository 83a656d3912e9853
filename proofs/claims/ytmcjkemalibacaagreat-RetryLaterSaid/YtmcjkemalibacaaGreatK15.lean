/-
  Part 15 of the proof: an evaluator of programs, its soundness, and what functions of this program compute.
-/
import Derived.Test.YtmcjkemalibacaaGreatK14
import Derived.Test.YtmcjkemalibacaaGreatK12
import Derived.Test.YtmcjkemalibacaaGreatK5
import Derived.Test.YtmcjkemalibacaaGreatK10
import Derived.Test.YtmcjkemalibacaaGreatK11
set_option linter.all false
set_option maxRecDepth 20000
set_option maxHeartbeats 40000000
namespace Go.Ab.Tryz
open Classical Go.Proofs Go.Ab
theorem QU {s:aO} (h:1<=s.cFg.rD) {x y:Int} (hx:0<=x) (hxy:x<=y) (hy:y<18446744073709551616):Fl s x<=Fl s y:=by
 have e:∀z:Int,0<=z->z<18446744073709551616->Fl s z=z / s.cFg.rD:=fun z h0 h1=>by
  unfold Fl;rw[Int.tdiv_eq_ediv_of_nonneg h0];have:=Int.ediv_le_self s.cFg.rD h0
  exact wrap_u64 _ (Int.ediv_nonneg h0 (by omega)) (by omega)
 rw[e x hx (by omega),e y (by omega) hy]
 exact Int.ediv_le_ediv (by omega) hxy
theorem aEk {acc:Bool × fU × fU} {n:Node} (h1:Rg acc.2.1.aL) (h2:Rg acc.2.2.aL) (hn:RB n.block):Rg (QB acc n).2.1.aL/\Rg (QB acc n).2.2.aL:=by
 unfold QB;split
 ·exact⟨h1,h2⟩
 ·refine⟨?_, ?_⟩
  ·dsimp only;split
   ·exact hn.pj
   ·exact h1
  ·dsimp only;split
   ·exact hn.pf
   ·exact h2
theorem aEl {ns:List Node} (h:∀n∈ns,RB n.block):Rg (Lz ns).pj.aL/\Rg (Lz ns).pf.aL:=by
 have key:∀(l:List Node) (acc:Bool × fU × fU),(∀n∈l,RB n.block)->Rg acc.2.1.aL->Rg acc.2.2.aL->Rg (l.foldl QB acc).2.1.aL/\Rg (l.foldl QB acc).2.2.aL:=by
  intro l;induction l with
  | nil=>intro acc _ h1 h2;exact⟨h1,h2⟩
  | cons n l ih =>
    intro acc hl h1 h2;have hs:=aEk h1 h2 (hl n (List.mem_cons_self ..))
    exact ih _ (fun x hx=>hl x (List.mem_cons_of_mem _ hx)) hs.1 hs.2
 exact key ns _ h ⟨by show (0:Int)<=0;omega,by show (0:Int)<_;omega⟩ ⟨by show (0:Int)<=0;omega,by show (0:Int)<_;omega⟩
theorem Ku (s:aO) (X:AV):(xK s X).now=s.now:=rfl
theorem zL (s:aO) (X:AV):(xK s X).dR.early=X:=rfl
theorem AX {s:aO} {v:SV} (h:SD s v) {L:List sP} (hL:∀x∈L,Flat x.eU) (st:St) {g:Nat} (hh:st.heap 61 g=some (.row 87 67 L.length (dE L))):eW st (.agg (aB (xK s (.own 61 g))))=some (.agg (aB (xK s (ov dE (some L))))):=by
 have lK:=h.fl
 have hx:=aAE L.length L hL
 unfold xK;simp only[bQ,gF,bG,hh,hx,cN,dN,lK,cI];rfl
theorem aOt {call:Nat->List AV->Option AV} {inl:Nat->List AV->St->Option (AV × St)} {ops:Array Oper} {st:St} {T:Nat} {pos:String} {eK:Array Edge} (x:Array Operand) (y:Array Nat) :
 gG Tryz.prog true call inl ops ⟨some 80,.call ⟨.value (.func 44),x,y⟩,T,pos,eK,none⟩ st=cA (inl 44 (x.toList.map st.ev) st) fun r=>some ((st.back r.2).put (some 80) r.1):=KQ 44 x y (Qt rfl)
noncomputable def Kv:Code:=kP (Tryz.f202.body.getD .skip)
def aTS (c0:Config) (E:Option (List sP)) (q:Int) (m:Nat) (st:St):Prop:=∃(k:Nat) (S:aO) (w:SV) (X:AV),(st.env 1=.ptr 1 0 0/\st.heap 1 0=some (.cells (aB (xK S X)))/\st.env 2=.ptr 2 0 0/\st.heap 2 0=some (.cells (aB gK))/\st.env 5=ov dE E/\st.env 6=.v (.int .i64 k)/\0<st.aK 1/\0<st.aK 2)/\((X=.v (.slice none 0 0)/\w.E=none)\/∃g L,w.E=some L/\X=.own 61 g/\g<st.aK 61/\st.heap 61 g=some (.row 87 67 L.length (dE L)))/\GI (xK S (ov dE w.E)) w q/\RG (xK S (ov dE w.E)) w/\S.cFg=c0/\(ol w.E).length<=k/\k<=(ol E).length/\m=(ol E).length-k
def aEm (c0:Config) (q:Int) (e:Ex) (st:St):Prop:=e=.exit 0/\∃(S:aO) (w:SV) (X:AV),(st.env 1=.ptr 1 0 0/\st.heap 1 0=some (.cells (aB (xK S X)))/\st.env 2=.ptr 2 0 0/\st.heap 2 0=some (.cells (aB gK)))/\((X=.v (.slice none 0 0)/\w.E=none)\/∃g L,w.E=some L/\X=.own 61 g/\st.heap 61 g=some (.row 87 67 L.length (dE L)))/\GI (xK S (ov dE w.E)) w q/\RG (xK S (ov dE w.E)) w/\S.cFg=c0
theorem aAF {c0:Config} {E:Option (List sP)} {q:Int} (hE:∀a∈ol E,Dt a) (hEa:∀a∈ol E,∃V,a.eU=ov aI (some V)/\V≠[]) (nE:((ol E).length:Int)<=c0.kF.qJ) (nE':((ol E).length:Int)<900000) {m:Nat} {st:St} (hs:aTS c0 E q m st):∃e st',wW Tryz.prog true Kv st=some (e,st')/\aEm c0 q e st':=by
 have key:∃r,cA (wW Tryz.prog true Kv st) some=some r/\aEm c0 q r.1 r.2:=by
  unfold Kv;simp only[Tryz.f202,Option.getD_some,kP];refine mD (fun m st=>∃(k:Nat) (S:aO) (w:SV) (X:AV),(st.env 1=.ptr 1 0 0/\st.heap 1 0=some (.cells (aB (xK S X)))/\st.env 2=.ptr 2 0 0/\st.heap 2 0=some (.cells (aB gK))/\st.env 5=ov dE E/\st.env 6=.v (.int .i64 k)/\0<st.aK 1/\0<st.aK 2)/\((X=.v (.slice none 0 0)/\w.E=none)\/∃g L,w.E=some L/\X=.own 61 g/\g<st.aK 61/\st.heap 61 g=some (.row 87 67 L.length (dE L)))/\GI (xK S (ov dE w.E)) w q/\RG (xK S (ov dE w.E)) w/\S.cFg=c0/\(ol w.E).length<=k/\k<=(ol E).length/\m=(ol E).length-k) (fun e st=>e=.exit 0/\∃(S:aO) (w:SV) (X:AV),(st.env 1=.ptr 1 0 0/\st.heap 1 0=some (.cells (aB (xK S X)))/\st.env 2=.ptr 2 0 0/\st.heap 2 0=some (.cells (aB gK)))/\((X=.v (.slice none 0 0)/\w.E=none)\/∃g L,w.E=some L/\X=.own 61 g/\st.heap 61 g=some (.row 87 67 L.length (dE L)))/\GI (xK S (ov dE w.E)) w q/\RG (xK S (ov dE w.E)) w/\S.cFg=c0) m ?step ?start ?rest
  case start=>exact hs
  case rest=>exact fun e st h=>⟨_,rfl,h⟩
  case step =>
   clear hs
   rintro m st ⟨k,S,w,X,hI,hX,hG,oL,hC,hF,hk,hm⟩
   by_cases aZ:(k:Int)<(ol E).length
   case neg =>
    have hX':(X=.v (.slice none 0 0)/\w.E=none)\/∃g L,w.E=some L/\X=.own 61 g/\st.heap 61 g=some (.row 87 67 L.length (dE L)):=hX.imp id fun ⟨g,L,h1,h2,_,h4⟩=>⟨g,L,h1,h2,h4⟩
    apply OS (.exit 0)
    ·simp only[ZG,seval,Ch,hI,aZ];rfl
    ·exact⟨rfl,S,w,X,by simp only[E8,seval,hI],by simpa only[E8,seval] using hX',hG,oL,hC⟩
   have q0:(0:Int)<=k:=by omega
   have hw:IntKind.i64.wrap ((k:Int)+1)=((k+1:Nat):Int):=by rw[pM _ (by omega) (by omega)];omega
   obtain⟨a,ea⟩:∃a,gx Ma (ol E) (k:Int)=a:=⟨_,rfl⟩
   have ha:Dt a:=by rw[<- ea];exact hE _ (uM q0 aZ)
   have hEa':∃V,a.eU=ov aI (some V)/\V≠[]:=by rw[<- ea];exact hEa _ (uM q0 aZ)
   obtain⟨V,hV,nV⟩:=id ha
   have fa:Flat (.agg (gZ a)):=(Ah a).2 ha.fl
   have fl9:=hG.sd.flat
   by_cases g1:S.now<=a.slot
   · -- kept
    rcases hX with ⟨rfl,AY⟩|⟨g,L,AY,rfl,hg,hh⟩
    ·have Qs:=hG.early (some [a]) (by intro b hb;rw[show b=a by simpa [ol] using hb];exact ha) (by show ((1:Nat):Int)<=S.cFg.kF.qJ;rw[hC];omega)
     have Eb:RG (xK S (ov dE (some [a]))) { w with E:=some [a]}:=⟨oL.now,oL.j,oL.f,oL.nd,oL.or,oL.rt,oL.fe,oL.ds,oL.tb,⟨oL.ne.q,by simp,oL.ne.o,oL.ne.t,fun b hb=>by rw[show b=a by simpa [ol] using hb];exact hEa' ,oL.ne.tb⟩⟩
     have an1:=KR a
     apply Ge ((ol E).length-(k+1))
     ·simp only[ZG,seval,Ch,hI,aZ,q0,ea,Ku,zL,g1,fa,an1,hw];rfl
     ·exact⟨k+1,S,{ w with E:=some [a]},_,by and_intros<;>(simp only[E8,seval,hI]<;>rfl),.inr ⟨_,[a],rfl,rfl,by simp only[E8,seval]<;>omega,by simp only[E8,seval]<;>rfl⟩,Qs,Eb,hC,by show 1<=k+1;omega,by omega,rfl⟩
    ·have hlL:L.length<=k:=by rw[AY] at hF;exact hF
     have nL:(L.length:Int)<1000000:=by omega
     have wB:(g=st.aK 61)=False:=eq_false (by omega)
     have Qs:=hG.early (some (L++[a])) (by
      intro b hb;rcases List.mem_append.1 (show b∈L++[a] from hb) with hb|hb
      ·exact hG.sd.eV b (by rw[AY];exact hb)
      ·rw[List.mem_singleton] at hb;rw[hb];exact ha) (by show (((L++[a]).length:Nat):Int)<=S.cFg.kF.qJ;rw[hC,List.length_append,List.length_cons,List.length_nil];omega)
     have Eb:RG (xK S (ov dE (some (L++[a])))) { w with E:=some (L++[a])}:=⟨oL.now,oL.j,oL.f,oL.nd,oL.or,oL.rt,oL.fe,oL.ds,oL.tb,⟨oL.ne.q,by simp,oL.ne.o,oL.ne.t,fun b hb=>by rcases List.mem_append.1 (show b∈L++[a] from hb) with hb|hb;exact oL.ne.ea b (by rw[AY];exact hb);rw[List.mem_singleton] at hb;rw[hb];exact hEa',oL.ne.tb⟩⟩
     apply Ge ((ol E).length-(k+1))
     ·simp only[ZG,seval,Ch,hI,hh,wB,aZ,q0,ea,Ku,zL,g1,fa,Yo _ _ _ _ nL,hw];rfl
     ·exact⟨k+1,S,{ w with E:=some (L++[a])},_,by and_intros<;>(simp only[E8,seval,hI]<;>rfl),.inr ⟨_,L++[a],rfl,rfl,by simp only[E8,seval]<;>omega,by simp only[E8,seval]<;>rfl⟩,Qs,Eb,hC,by show (L++[a]).length<=k+1;rw[List.length_append,List.length_cons,List.length_nil];omega,by omega,rfl⟩
   ·have c39':=c39 hG.sd hG.up hG.sp a V hV (by omega)
    have k39:∀(st:St) (d:Option Nat),eW st (.agg (aB (xK S X)))=some (.agg (aB (xK S (ov dE w.E))))->aN (aC Tryz.prog) 39 [.agg (aB (xK S X)),.agg (gZ a)] st d=some { dst:=d,val:=.dX [.v (.bool (Ia (xK S (ov dE w.E)) w a (ol V)).1),.v (.int .i64 (Ia (xK S (ov dE w.E)) w a (ol V)).2)]}:=by
     intro st d hx;rw[kJ,List.map_cons,List.map_cons,List.map_nil,hx,dQ fa,bJ,bJ,gB];exact XB c39' (by intro x hx;simp only[List.mem_cons,List.not_mem_nil,or_false] at hx;rcases hx with rfl|rfl<;>exact .v _) (.dX _ (bH (.v _) (.v _)))
    have Vz:GI (xK (Tl S w a (ol V)) (ov dE w.E)) { w with L:=some (uO (ol w.L) a.target.aL a.root (ol V)).1 } q:=hG.cast a (ol V)
    have Ec:RG (xK (Tl S w a (ol V)) (ov dE w.E)) { w with L:=some (uO (ol w.L) a.target.aL a.root (ol V)).1 }:=⟨oL.now,oL.j,oL.f,oL.nd,oL.or,oL.rt,oL.fe,oL.ds,oL.tb,⟨oL.ne.q,oL.ne.e,oL.ne.o,oL.ne.t,oL.ne.ea,oL.ne.tb⟩⟩
    rcases hX with ⟨rfl,AY⟩|⟨g,L,AY,rfl,hg,hh⟩
    ·have e0:ov dE w.E=.v (.slice none 0 0):=by rw[AY];rfl
     have k39n:=fun st d=>k39 st d (by rw[e0];rw[e0] at fl9;exact dQ fl9)
     by_cases g2:(Ia (xK S (ov dE w.E)) w a (ol V)).2=0
     case neg =>
      apply Ge ((ol E).length-(k+1))
      ·simp only[ZG,seval,Ch,hI,aZ,q0,ea,Ku,zL,g1,k39n,eC,bf g2,hw];rfl
      ·exact⟨k+1,S,w,_,by and_intros<;>(simp only[E8,seval,hI]<;>rfl),.inl ⟨rfl,AY⟩,hG,oL,hC,by omega,by omega,rfl⟩
     have hr:∀x∈ol V,0<=x/\x<(ol w.L).length:=by rw[hG.QF];exact YA (KK g2)
     obtain⟨G,Ts⟩:=aG3 hG.sd (.v (.slice none 0 0)) a V hV (by omega) hr
     have kG:∀st,rK Tryz.prog 44 [.agg (aB (xK S (.v (.slice none 0 0)))),.agg (gZ a)] st=some (.agg (aB (xK (Tl S w a (ol V)) (.v (.slice none 0 0)))),G st):=fun st=>(Ts st).1
     have f1:∀st:St,0<st.aK 1->(G st).heap 1 0=st.heap 1 0:=fun st h=>(Ts st).2.1 1 0 h
     have f2:∀st:St,0<st.aK 2->(G st).heap 2 0=st.heap 2 0:=fun st h=>(Ts st).2.1 2 0 h
     have c1:∀st:St,0<st.aK 1->(0<(G st).aK 1)=True:=fun st h=>eq_true (Nat.lt_of_lt_of_le h ((Ts st).2.2 1))
     have c2:∀st:St,0<st.aK 2->(0<(G st).aK 2)=True:=fun st h=>eq_true (Nat.lt_of_lt_of_le h ((Ts st).2.2 2))
     apply Ge ((ol E).length-(k+1))
     ·simp only[ZG,seval,Ch,hI,aZ,q0,ea,Ku,zL,g1,k39n,eC,bt g2,aOt,kG,f1,dW,bW,bM,hw];rfl
     ·exact⟨k+1,Tl S w a (ol V),{ w with L:=some (uO (ol w.L) a.target.aL a.root (ol V)).1 },_,⟨by simp only[E8,seval,hI,dW],by simp only[E8,seval,hI,bW,bM]<;>rfl,by simp only[E8,seval,hI,dW],by simp only[E8,seval,hI,bW,bM,f2],by simp only[E8,seval,hI,dW],by simp only[E8,seval,hI,dW],by simp only[E8,seval,hI,bM,c1],by simp only[E8,seval,hI,bM,c2]⟩,.inl ⟨rfl,AY⟩,Vz,Ec,hC,by show (ol w.E).length<=k+1;omega,by omega,rfl⟩
    ·have hLf:∀x∈L,Flat x.eU:=fun x hx=>(hG.sd.eV x (by rw[AY];exact hx)).fl
     have k39o:∀(st:St) (d:Option Nat),st.heap 61 g=some (.row 87 67 L.length (dE L))->_:=fun st d h61=>k39 st d (by rw[AY];exact AX hG.sd hLf st h61)
     by_cases g2:(Ia (xK S (ov dE w.E)) w a (ol V)).2=0
     case neg =>
      apply Ge ((ol E).length-(k+1))
      ·simp only[ZG,seval,Ch,hI,hh,aZ,q0,ea,Ku,zL,g1,k39o,eC,bf g2,hw];rfl
      ·exact⟨k+1,S,w,_,by and_intros<;>(simp only[E8,seval,hI]<;>rfl),.inr ⟨g,L,AY,rfl,by simp only[E8,seval]<;>omega,by simp only[E8,seval,hh]⟩,hG,oL,hC,by omega,by omega,rfl⟩
     have hr:∀x∈ol V,0<=x/\x<(ol w.L).length:=by rw[hG.QF];exact YA (KK g2)
     obtain⟨G,Ts⟩:=aG3 hG.sd (.own 61 g) a V hV (by omega) hr
     have kG:∀st,rK Tryz.prog 44 [.agg (aB (xK S (.own 61 g))),.agg (gZ a)] st=some (.agg (aB (xK (Tl S w a (ol V)) (.own 61 g))),G st):=fun st=>(Ts st).1
     have f1:∀st:St,0<st.aK 1->(G st).heap 1 0=st.heap 1 0:=fun st h=>(Ts st).2.1 1 0 h
     have f2:∀st:St,0<st.aK 2->(G st).heap 2 0=st.heap 2 0:=fun st h=>(Ts st).2.1 2 0 h
     have f3:∀st:St,g<st.aK 61->(G st).heap 61 g=st.heap 61 g:=fun st h=>(Ts st).2.1 61 g h
     have c1:∀st:St,0<st.aK 1->(0<(G st).aK 1)=True:=fun st h=>eq_true (Nat.lt_of_lt_of_le h ((Ts st).2.2 1))
     have c2:∀st:St,0<st.aK 2->(0<(G st).aK 2)=True:=fun st h=>eq_true (Nat.lt_of_lt_of_le h ((Ts st).2.2 2))
     have c3:∀st:St,g<st.aK 61->(g<(G st).aK 61)=True:=fun st h=>eq_true (Nat.lt_of_lt_of_le h ((Ts st).2.2 61))
     apply Ge ((ol E).length-(k+1))
     ·simp only[ZG,seval,Ch,hI,hh,aZ,q0,ea,Ku,zL,g1,k39o,eC,bt g2,aOt,kG,f1,dW,bW,bM,hw];rfl
     ·exact⟨k+1,Tl S w a (ol V),{ w with L:=some (uO (ol w.L) a.target.aL a.root (ol V)).1 },_,⟨by simp only[E8,seval,hI,dW],by simp only[E8,seval,hI,bW,bM]<;>rfl,by simp only[E8,seval,hI,dW],by simp only[E8,seval,hI,bW,bM,f2],by simp only[E8,seval,hI,dW],by simp only[E8,seval,hI,dW],by simp only[E8,seval,hI,bM,c1],by simp only[E8,seval,hI,bM,c2]⟩,.inr ⟨g,L,AY,rfl,by simp only[E8,seval,bM,hg,c3],by simp only[E8,seval,bW,bM,hg,hh,f3]⟩,Vz,Ec,hC,by show (ol w.E).length<=k+1;omega,by omega,rfl⟩
 obtain⟨r,h,hq⟩:=key
 cases hx:wW Tryz.prog true Kv st with
 | none=>rw[hx] at h;cases h
 | some y=>rw[hx] at h;simp only[cI,Option.some.injEq] at h;subst h;exact⟨y.1,y.2,rfl,hq⟩
theorem aTT {s:aO} {v:SV} {q:Int} (h:GI s v q) (r:RG s v):∃x,aC Tryz.prog 202 [.agg (aB s)]=some x/\StR s q x:=by
 have hz:=Kq
 have hf:=h.sd.flat
 have Pn:=h.sp
 rw[cG Tryz.func202 rfl aOv (by kernel_rfl) rfl]
 by_cases g1:1099511627776<=s.now
 ·simp only[ZG,seval,Ch,g1];exact⟨_,by apply dJ;rfl;all_goals simp only[aJ,bX,Z8,seval,hz]<;>rfl,gK,3,rfl,hz,by decide,fun h=>by cases h⟩
 have hw:IntKind.u64.wrap (s.now+1)=s.now+1:=wrap_u64 _ (by have:=r.now.1;omega) (by have:=r.now.2;omega)
 obtain⟨s1,hs1⟩:∃s1:aO,s1={ s with now:=s.now+1,iQ:=dK }:=⟨_,rfl⟩
 have h1:GI s1 v q:=by
  rw[hs1];exact⟨⟨h.sd.jQ,h.sd.dO,h.sd.gW,h.sd.early,h.sd.bV,h.sd.tree,h.sd.tables,h.sd.eV,h.sd.tB,h.sd.nB,h.sd.nL,h.sd.nQ,h.sd.nE,h.sd.nO,h.sd.nT,h.sd.nn⟩,h.up,h.PI,h.pos,h.nl,h.XS,h.rD,h.QF,h.nB,h.nO,h.QG,h.nE,h.WG,h.nT,h.XT,h.nQ,h.Z6,h.gX⟩
 have r1:RG s1 v:=by
  rw[hs1];exact⟨⟨by show 0<=s.now+1;have:=r.now.1;omega,by show s.now+1<=_;omega⟩,r.j,r.f,fun n hn=>⟨(r.nd n hn).1,by show n.block.slot<=s.now+1;have:=(r.nd n hn).2;omega⟩,r.or,r.rt,⟨r.fe.1,Int.le_trans r.fe.2 (show Fl s s.now<=Fl s (s.now+1) from QU h.rD.1 r.now.1 (by omega) (by have:=r.now.2;omega))⟩,r.ds,r.tb,r.ne⟩
 have c1:s1.cFg=s.cFg:=by rw[hs1]
 have nE:=h.nE
 have WG:=h.WG
 subst hs1;have uE:∀(S:aO) (w:SV) (a b:fU),(Ix S w a b).E=w.E:=fun S w a b=>by unfold Ix;split;rfl;split<;>rfl
 by_cases g2:(s.now+1).tmod s.cFg.rD=0
 case neg =>
  simp only[ZG,seval,Ch,g1,hw,Pn,bf g2,h.sd.early];refine Kx (a:=Kv) (aEm s.cFg q) (aAF (E:=v.E) h.sd.eV r.ne.ea (by omega) (by omega) (m:=(ol v.E).length) ⟨0,{ s with now:=s.now+1,iQ:=dK },{ v with E:=none },.v (.slice none 0 0),⟨by simp only[E8,seval],by simp only[E8,seval]<;>rfl,by simp only[E8,seval],by simp only[E8,seval],by simp only[E8,seval],by simp only[E8,seval]<;>rfl,by simp only[E8,seval]<;>omega,by simp only[E8,seval]<;>omega⟩,.inl ⟨rfl,rfl⟩,h1.early none (by simp[ol]) (by show ((0:Nat):Int)<=_;rw[c1];omega),⟨r1.now,r1.j,r1.f,r1.nd,r1.or,r1.rt,r1.fe,r1.ds,r1.tb,⟨r1.ne.q,nofun,r1.ne.o,r1.ne.t,(fun a ha=>by cases ha),r1.ne.tb⟩⟩,c1,by simp[ol],by omega,by omega⟩) ?rest
  rintro e st ⟨rfl,S,w,X,hI,hX,hG,oL,hC⟩
  have FD:=hG.sd.flat
  rcases hX with ⟨rfl,AY⟩|⟨g,L,AY,rfl,hh⟩
  ·rw[AY] at FD hG oL;have hf1:Flat (.agg (aB (xK S (.v (.slice none 0 0))))):=FD
   simp only[ZG,seval,Ch,hI];exact⟨_,by apply dJ;rfl;all_goals simp only[aJ,bX,Z8,seval,hI,hf1]<;>rfl,_,0,rfl,hf1,by decide,fun _=>⟨w,hG,oL,hC⟩⟩
  ·have hLf:∀x∈L,Flat x.eU:=fun x hx=>(hG.sd.eV x (by rw[AY];exact hx)).fl
   have hex:∀st:St,st.heap 61 g=some (.row 87 67 L.length (dE L))->eW st (.agg (aB (xK S (.own 61 g))))=some (.agg (aB (xK S (ov dE (some L))))):=fun st hh=>AX hG.sd hLf st hh
   rw[AY] at FD hG oL;simp only[ZG,seval,Ch,hI];exact⟨_,by apply dJ;rfl;all_goals simp only[aJ,bX,Z8,seval,hI,hh,hex]<;>rfl,_,0,rfl,FD,by decide,fun _=>⟨w,hG,oL,hC⟩⟩
 have k67':=k67 h1.sd
 have pv:=aEl fun n hn=>(r1.nd n hn).1
 have k61':=k61 h1.sd h1.up h1.sp (Lz v.ns).pj (Lz v.ns).pf
 have h2:=h1.dG (Lz v.ns).pj (Lz v.ns).pf
 have r2:=RG.dG r1 pv.1 pv.2
 have c2:=xJ { s with now:=s.now+1,iQ:=dK } v (Lz v.ns).pj (Lz v.ns).pf
 have e2:=h2.sd.early
 rw[uE] at e2;obtain⟨S2,hS2⟩:∃S2,xZ { s with now:=s.now+1,iQ:=dK } v (Lz v.ns).pj (Lz v.ns).pf=S2:=⟨_,rfl⟩
 rw[hS2] at k61' h2 r2 c2 e2
 have c3:S2.cFg=s.cFg:=c2
 simp only[ZG,seval,Ch,g1,hw,Pn,bt g2,k67',k61',e2];refine Kx (a:=Kv) (aEm s.cFg q) (aAF (E:=v.E) h.sd.eV r.ne.ea (by omega) (by omega) (m:=(ol v.E).length) ⟨0,S2,{ Ix { s with now:=s.now+1,iQ:=dK } v (Lz v.ns).pj (Lz v.ns).pf with E:=none },.v (.slice none 0 0),⟨by simp only[E8,seval],by simp only[E8,seval]<;>rfl,by simp only[E8,seval],by simp only[E8,seval],by simp only[E8,seval],by simp only[E8,seval]<;>rfl,by simp only[E8,seval]<;>omega,by simp only[E8,seval]<;>omega⟩,.inl ⟨rfl,rfl⟩,h2.early none (by simp[ol]) (by show ((0:Nat):Int)<=_;rw[c3];omega),⟨r2.now,r2.j,r2.f,r2.nd,r2.or,r2.rt,r2.fe,r2.ds,r2.tb,⟨r2.ne.q,nofun,r2.ne.o,r2.ne.t,(fun a ha=>by cases ha),r2.ne.tb⟩⟩,c3,by simp[ol],by omega,by omega⟩) ?QH
 rintro e st ⟨rfl,S,w,X,hI,hX,hG,oL,hC⟩
 have FD:=hG.sd.flat
 rcases hX with ⟨rfl,AY⟩|⟨g,L,AY,rfl,hh⟩
 ·rw[AY] at FD hG oL;have hf1:Flat (.agg (aB (xK S (.v (.slice none 0 0))))):=FD
  simp only[ZG,seval,Ch,hI];exact⟨_,by apply dJ;rfl;all_goals simp only[aJ,bX,Z8,seval,hI,hf1]<;>rfl,_,0,rfl,hf1,by decide,fun _=>⟨w,hG,oL,hC⟩⟩
 ·have hLf:∀x∈L,Flat x.eU:=fun x hx=>(hG.sd.eV x (by rw[AY];exact hx)).fl
  have hex:∀st:St,st.heap 61 g=some (.row 87 67 L.length (dE L))->eW st (.agg (aB (xK S (.own 61 g))))=some (.agg (aB (xK S (ov dE (some L))))):=fun st hh=>AX hG.sd hLf st hh
  rw[AY] at FD hG oL;simp only[ZG,seval,Ch,hI];exact⟨_,by apply dJ;rfl;all_goals simp only[aJ,bX,Z8,seval,hI,hh,hex]<;>rfl,_,0,rfl,FD,by decide,fun _=>⟨w,hG,oL,hC⟩⟩
def Ed (t:State) (X Y:AV) (tag:Int):State:={ t with iM:=X,kU:=Y,cV:=tag }
theorem aOw:aE 0 3 (some 3)=[]/\aE 1 8 (some 8)=[]/\aE 2 8 (some 14)=[]/\aE 3 5 (some 21)=[]/\aE 4 2 (some 25)=[]:=⟨rfl,rfl,rfl,rfl,rfl⟩
theorem aG6 (t:State) (Y:AV) (o:Option (List Request)) (tag:Int) (hn:((ol o).length:Int)<1000000) (r:cJ) (n:Int) :
 ∃G:St->St,∀st,rK Tryz.prog 86 [.agg (aF (Ed t (ov aA o) Y tag)),.agg (aX r),.v (.int .i64 n)] st=some (.agg (aF (Ed t (.own 19 (st.aK 19)) Y (IntKind.u64.wrap (tag+1)))),G st)/\Hx st (G st)/\(G st).heap 19 (st.aK 19)=some (.row 63 35 (ol o++[(⟨⟨tag⟩,r,n,0⟩:Request)]).length (aA (ol o++[(⟨⟨tag⟩,r,n,0⟩:Request)])))/\st.aK 19<(G st).aK 19:=by
 have one:∀st,∃st',rK Tryz.prog 86 [.agg (aF (Ed t (ov aA o) Y tag)),.agg (aX r),.v (.int .i64 n)] st=some (.agg (aF (Ed t (.own 19 (st.aK 19)) Y (IntKind.u64.wrap (tag+1)))),st')/\Hx st (st')/\(st').heap 19 (st.aK 19)=some (.row 63 35 (ol o++[(⟨⟨tag⟩,r,n,0⟩:Request)]).length (aA (ol o++[(⟨⟨tag⟩,r,n,0⟩:Request)])))/\st.aK 19<(st').aK 19:=by
  intro st;by_cases hy:True
  case neg=>exact⟨st,absurd trivial hy⟩
  suffices h:∃st',rK Tryz.prog 86 [.agg (aF (Ed t (ov aA o) Y tag)),.agg (aX r),.v (.int .i64 n)] st=some (.agg (aF (Ed t (.own 19 (st.aK 19)) Y (IntKind.u64.wrap (tag+1)))),st')/\Hx st (st')/\(st').heap 19 (st.aK 19)=some (.row 63 35 (ol o++[(⟨⟨tag⟩,r,n,0⟩:Request)]).length (aA (ol o++[(⟨⟨tag⟩,r,n,0⟩:Request)])))/\st.aK 19<(st').aK 19 by
   obtain⟨st',h⟩:=h
   exact⟨st',h⟩
  have e1:(Ed t (ov aA o) Y tag).iM=ov aA o:=rfl
  have e2:(Ed t (ov aA o) Y tag).cV=tag:=rfl
  have zR:bB.due=0:=rfl
  rw[Kt Tryz.prog Tryz.func86 rfl (by kernel_rfl)]
  simp only[ZG,seval,aOw,e1,e2,zR,rH _ hn,rI _ _ _ _ hn];refine⟨_,Je (P:=Tryz.prog) (fn:=Tryz.f86) (r:=.cell 6 58) (x:=.agg (aF (Ed t (.own 19 (st.aK 19)) Y (IntKind.u64.wrap (tag+1))))) (.inl rfl) rfl ?h1,⟨fun x g hg=>?h2,fun x=>?h3⟩, ?h4, ?h5⟩
  case h1 =>
   rw[wU];simp only[bX,Z8,seval];rfl
  case h2 =>
   have n3:(x=3/\g=st.aK 3)=False:=eq_false (by rintro⟨rfl,rfl⟩;omega)
   have n4:(x=4/\g=st.aK 4)=False:=eq_false (by rintro⟨rfl,rfl⟩;omega)
   have n6:(x=6/\g=st.aK 6)=False:=eq_false (by rintro⟨rfl,rfl⟩;omega)
   have n7:(x=7/\g=st.aK 7)=False:=eq_false (by rintro⟨rfl,rfl⟩;omega)
   have n16:(x=16/\g=st.aK 16)=False:=eq_false (by rintro⟨rfl,rfl⟩;omega)
   have n18:(x=18/\g=st.aK 18)=False:=eq_false (by rintro⟨rfl,rfl⟩;omega)
   have n19:(x=19/\g=st.aK 19)=False:=eq_false (by rintro⟨rfl,rfl⟩;omega)
   simp only[E8,seval,bW,bM,n3,n4,n6,n7,n16,n18,n19,if_false]
  case h3 =>
   simp only[E8,seval,bW,bM];split<;>(try split)<;>(try split)<;>(try split)<;>(try split)<;>(try split)<;>(try split)<;>subst_vars<;>omega
  case h4=>simp only[E8,seval,bW,bM]
  case h5=>simp only[E8,seval,bW,bM]<;>omega
 exact⟨fun st=>Classical.choose (one st),fun st=>Classical.choose_spec (one st)⟩
theorem aAG (t:State) (Y:AV) (g0:Nat) (L:List Request) (tag:Int) (hn:((L).length:Int)<1000000) (r:cJ) (n:Int) :
 ∃G:St->St,∀st,(st.heap 19 g0=some (.row 63 35 L.length (aA L))/\g0<st.aK 19)->rK Tryz.prog 86 [.agg (aF (Ed t (.own 19 g0) Y tag)),.agg (aX r),.v (.int .i64 n)] st=some (.agg (aF (Ed t (.own 19 (st.aK 19)) Y (IntKind.u64.wrap (tag+1)))),G st)/\Hx st (G st)/\(G st).heap 19 (st.aK 19)=some (.row 63 35 (L++[(⟨⟨tag⟩,r,n,0⟩:Request)]).length (aA (L++[(⟨⟨tag⟩,r,n,0⟩:Request)])))/\st.aK 19<(G st).aK 19:=by
 have one:∀st,∃st',(st.heap 19 g0=some (.row 63 35 L.length (aA L))/\g0<st.aK 19)->rK Tryz.prog 86 [.agg (aF (Ed t (.own 19 g0) Y tag)),.agg (aX r),.v (.int .i64 n)] st=some (.agg (aF (Ed t (.own 19 (st.aK 19)) Y (IntKind.u64.wrap (tag+1)))),st')/\Hx st (st')/\(st').heap 19 (st.aK 19)=some (.row 63 35 (L++[(⟨⟨tag⟩,r,n,0⟩:Request)]).length (aA (L++[(⟨⟨tag⟩,r,n,0⟩:Request)])))/\st.aK 19<(st').aK 19:=by
  intro st;by_cases hy:(st.heap 19 g0=some (.row 63 35 L.length (aA L))/\g0<st.aK 19)
  case neg=>exact⟨st,fun h=>absurd h hy⟩
  suffices h:∃st',rK Tryz.prog 86 [.agg (aF (Ed t (.own 19 g0) Y tag)),.agg (aX r),.v (.int .i64 n)] st=some (.agg (aF (Ed t (.own 19 (st.aK 19)) Y (IntKind.u64.wrap (tag+1)))),st')/\Hx st (st')/\(st').heap 19 (st.aK 19)=some (.row 63 35 (L++[(⟨⟨tag⟩,r,n,0⟩:Request)]).length (aA (L++[(⟨⟨tag⟩,r,n,0⟩:Request)])))/\st.aK 19<(st').aK 19 by
   obtain⟨st',h⟩:=h
   exact⟨st',fun _=>h⟩
  have e1:(Ed t (.own 19 g0) Y tag).iM=.own 19 g0:=rfl
  have e2:(Ed t (.own 19 g0) Y tag).cV=tag:=rfl
  have zR:bB.due=0:=rfl
  have wB:(g0=st.aK 19)=False:=eq_false (by have:=hy.2;omega)
  rw[Kt Tryz.prog Tryz.func86 rfl (by kernel_rfl)]
  simp only[ZG,seval,aOw,e1,e2,zR,hy.1,wB,rH _ hn,rI _ _ _ _ hn];refine⟨_,Je (P:=Tryz.prog) (fn:=Tryz.f86) (r:=.cell 6 58) (x:=.agg (aF (Ed t (.own 19 (st.aK 19)) Y (IntKind.u64.wrap (tag+1))))) (.inl rfl) rfl ?h1,⟨fun x g hg=>?h2,fun x=>?h3⟩, ?h4, ?h5⟩
  case h1 =>
   rw[wU];simp only[bX,Z8,seval];rfl
  case h2 =>
   have n3:(x=3/\g=st.aK 3)=False:=eq_false (by rintro⟨rfl,rfl⟩;omega)
   have n4:(x=4/\g=st.aK 4)=False:=eq_false (by rintro⟨rfl,rfl⟩;omega)
   have n6:(x=6/\g=st.aK 6)=False:=eq_false (by rintro⟨rfl,rfl⟩;omega)
   have n7:(x=7/\g=st.aK 7)=False:=eq_false (by rintro⟨rfl,rfl⟩;omega)
   have n16:(x=16/\g=st.aK 16)=False:=eq_false (by rintro⟨rfl,rfl⟩;omega)
   have n18:(x=18/\g=st.aK 18)=False:=eq_false (by rintro⟨rfl,rfl⟩;omega)
   have n19:(x=19/\g=st.aK 19)=False:=eq_false (by rintro⟨rfl,rfl⟩;omega)
   simp only[E8,seval,bW,bM,n3,n4,n6,n7,n16,n18,n19,if_false]
  case h3 =>
   simp only[E8,seval,bW,bM];split<;>(try split)<;>(try split)<;>(try split)<;>(try split)<;>(try split)<;>(try split)<;>subst_vars<;>omega
  case h4=>simp only[E8,seval,bW,bM]
  case h5=>simp only[E8,seval,bW,bM]<;>omega
 exact⟨fun st=>Classical.choose (one st),fun st=>Classical.choose_spec (one st)⟩
noncomputable def Oc (ns:List Node) (now:Int) (a:(Option (List Request) × Int) × List Request) (r:Request):(Option (List Request) × Int) × List Request :=
 if now<r.due then (a.1,a.2++[r]) else if uP ns r.block then ((some (ol a.1.1++[⟨⟨a.1.2⟩,r.block,r.tries,0⟩]),IntKind.u64.wrap (a.1.2+1)),a.2) else a
noncomputable def Aq (ns:List Node) (now:Int) (a:(Option (List Request) × Int) × List Request) (l:List Request):(Option (List Request) × Int) × List Request:=l.foldl (Oc ns now) a
theorem N2 (ns:List Node) (now:Int) (a:(Option (List Request) × Int) × List Request) (l:List Request) (k:Nat) (h:k<l.length):Aq ns now a (l.take (k+1))=Oc ns now (Aq ns now a (l.take k)) (gx bB l k):=by
 unfold Aq;rw[List.take_succ_eq_append_getElem h,List.foldl_append];simp[gx,h]
theorem aAH (ns:List Node) (now:Int) (a:(Option (List Request) × Int) × List Request) (r:Request):(ol (Oc ns now a r).1.1).length<=(ol a.1.1).length+1/\(Oc ns now a r).2.length<=a.2.length+1:=by
 unfold Oc;split
 ·refine⟨by dsimp only;omega, ?_⟩
  dsimp only;rw[List.length_append,List.length_cons,List.length_nil];omega
 ·split
  ·refine⟨?_,by dsimp only;omega⟩
   show (ol a.1.1++[_]).length<=_;rw[List.length_append,List.length_cons,List.length_nil];omega
  ·omega
theorem QV (ns:List Node) (now:Int) (l:List Request):∀(a:(Option (List Request) × Int) × List Request),(ol (Aq ns now a l).1.1).length<=(ol a.1.1).length+l.length/\(Aq ns now a l).2.length<=a.2.length+l.length:=by
 induction l with
 | nil=>intro a;exact⟨Nat.le_refl _,Nat.le_refl _⟩
 | cons r l ih =>
   intro a;have h1:=ih (Oc ns now a r)
   have h2:=aAH ns now a r
   rw[List.length_cons];show (ol (Aq ns now (Oc ns now a r) l).1.1).length<=_/\(Aq ns now (Oc ns now a r) l).2.length<=_
   omega
theorem pU {st:St} (o:Option (List Request)):cC st (ov aA o)=some (ov aA o):=AP (eD o)
theorem kA {st:St} {a g:Nat} {L:List Request} (h:st.heap a g=some (.row 63 35 L.length (aA L))):cC st (.own a g)=some (ov aA (some L)):=by
 rw[bG,h];exact pI _ _
theorem E2 {t:State} {v:SV} {Q R:Option (List Request)} (h:TD t v Q R) (st:St) {X Y X' Y':AV} (hx:cC st X=some X') (hy:cC st Y=some Y') (tag:Int):eW st (.agg (aF (Ed t X Y tag)))=some (.agg (aF (Ed t X' Y' tag))):=by
 have lK:=h.fl
 unfold Ed;simp only[bQ,wE,gF,hx,hy,cN,dN,lK,cI]
theorem TD.rq {t:State} {v:SV} {Q R:Option (List Request)} (h:TD t v Q R) (q z:Option (List Request)) (tag:Int) (hq:((ol q).length:Int)<900000) (hz:((ol z).length:Int)<900000):TD (Ed t (ov aA q) (ov aA z) tag) v q z:=⟨h.sd,rfl,rfl,hq,hz⟩
theorem QW {t:State} {v:SV} {Q R:Option (List Request)} (h:TD t v Q R) (q z:Option (List Request)) (tag:Int) (hq:((ol q).length:Int)<900000) (hz:((ol z).length:Int)<900000) (r:cJ) (st:St) (d:Option Nat) {X Y:AV} (hx:cC st X=some (ov aA q)) (hy:cC st Y=some (ov aA z)) :
 aN (aC Tryz.prog) 85 [.agg (aF (Ed t X Y tag)),.agg (aX r)] st d=some { dst:=d,val:=.v (.bool (decide (uP v.ns r)))}:=by
 rw[kJ,List.map_cons,List.map_cons,List.map_nil,E2 h st hx hy,To,bJ,bJ,gB];exact Zh (c85 (h.rq q z tag hq hz) r)
theorem aEo {call:Nat->List AV->Option AV} {inl:Nat->List AV->St->Option (AV × St)} {ops:Array Oper} {st:St} {T:Nat} {pos:String} {eK:Array Edge} (x:Array Operand) (y:Array Nat) :
 gG Tryz.prog true call inl ops ⟨some 50,.call ⟨.value (.func 86),x,y⟩,T,pos,eK,none⟩ st=cA (inl 86 (x.toList.map st.ev) st) fun r=>some ((st.back r.2).put (some 50) r.1):=KQ 86 x y (Qt rfl)
noncomputable def KS (t:State) (ns:List Node) (Q R:Option (List Request)):(Option (List Request) × Int) × List Request:=Aq ns t.store.now ((Q,t.cV),[]) (ol R)
noncomputable def aEp (t:State) (ns:List Node) (Q R:Option (List Request)):State:=Ed t (ov aA (KS t ns Q R).1.1) (ov aA (nz (KS t ns Q R).2)) (KS t ns Q R).1.2
theorem Cw (t:State) (X Y:AV) (tag:Int):(Ed t X Y tag).iM=X:=rfl
theorem Cx (t:State) (X Y:AV) (tag:Int):(Ed t X Y tag).kU=Y:=rfl
theorem Cy (t:State) (X Y:AV) (tag:Int):(Ed t X Y tag).cV=tag:=rfl
theorem Cz (t:State) (X Y:AV) (tag:Int):(Ed t X Y tag).store=t.store:=rfl
theorem c74 {t:State} {v:SV} {Q R:Option (List Request)} (h:TD t v Q R) (hn:((ol Q).length:Int)+(ol R).length<800000):aC Tryz.prog 74 [.agg (aF t)]=some (.agg (aF (aEp t v.ns Q R))):=by
 have lK:=h.fl
 have nR:=h.nR
 have hlen:∀k:Nat,(ol (Aq v.ns t.store.now ((Q,t.cV),[]) ((ol R).take k)).1.1).length<=(ol Q).length+(ol R).length/\(Aq v.ns t.store.now ((Q,t.cV),[]) ((ol R).take k)).2.length<=(ol R).length:=fun k=>by
  have h1:=QV v.ns t.store.now ((ol R).take k) ((Q,t.cV),[])
  have h2:=List.length_take_le' k (ol R)
  have e:(ol ((Q,t.cV),([]:List Request)).1.1).length=(ol Q).length:=rfl
  have e2:((Q,t.cV),([]:List Request)).2.length=0:=rfl
  rw[e,e2] at h1;omega
 rw[cG Tryz.func74 rfl aTX (by kernel_rfl) rfl]
 refine iX ?_
 simp only[ZG,seval,Mb,h.ret];refine mD (fun m st=>∃(k:Nat) (X Y:AV) (p:(Option (List Request) × Int) × List Request),(st.env 1=.ptr 1 0 0/\st.heap 1 0=some (.cells (aF (Ed t X Y p.1.2)))/\st.env 2=.ptr 2 0 0/\st.heap 2 0=some (.cells (aF lD))/\st.env 3=ov aA R/\st.env 4=.v (.int .i64 k)/\0<st.aK 1/\0<st.aK 2)/\(X=ov aA p.1.1\/∃g L,p.1.1=some L/\X=.own 19 g/\g<st.aK 19/\st.heap 19 g=some (.row 63 35 L.length (aA L)))/\((Y=.v (.slice none 0 0)/\p.2=[])\/∃g,p.2≠[]/\Y=.own 30 g/\g<st.aK 30/\st.heap 30 g=some (.row 63 35 p.2.length (aA p.2)))/\p=Aq v.ns t.store.now ((Q,t.cV),[]) ((ol R).take k)/\k<=(ol R).length/\m=(ol R).length-k)
  (fun e st=>e=.exit 0/\∃(X Y:AV) (p:(Option (List Request) × Int) × List Request),(st.env 1=.ptr 1 0 0/\st.heap 1 0=some (.cells (aF (Ed t X Y p.1.2)))/\st.env 2=.ptr 2 0 0/\st.heap 2 0=some (.cells (aF lD)))/\(X=ov aA p.1.1\/∃g L,p.1.1=some L/\X=.own 19 g/\st.heap 19 g=some (.row 63 35 L.length (aA L)))/\((Y=.v (.slice none 0 0)/\p.2=[])\/∃g,p.2≠[]/\Y=.own 30 g/\st.heap 30 g=some (.row 63 35 p.2.length (aA p.2)))/\p=KS t v.ns Q R) (ol R).length ?step ?start ?rest
 case step =>
  rintro m st ⟨k,X,Y,p,hI,hX,hY,hp,hk,hm⟩
  by_cases aZ:(k:Int)<(ol R).length
  case neg =>
   have Hy:k=(ol R).length:=by omega
   rw[Hy,List.take_length] at hp;have hX':(X=ov aA p.1.1\/∃g L,p.1.1=some L/\X=.own 19 g/\st.heap 19 g=some (.row 63 35 L.length (aA L))):=hX.imp id fun ⟨g,L,a,b,_,c⟩=>⟨g,L,a,b,c⟩
   have hY':((Y=.v (.slice none 0 0)/\p.2=[])\/∃g,p.2≠[]/\Y=.own 30 g/\st.heap 30 g=some (.row 63 35 p.2.length (aA p.2))):=hY.imp id fun ⟨g,a,b,_,c⟩=>⟨g,a,b,c⟩
   apply OS (.exit 0)
   ·simp only[ZG,seval,Mb,hI,aZ];rfl
   ·exact⟨rfl,X,Y,p,by simp only[E8,seval,hI],by simpa only[E8,seval] using hX',by simpa only[E8,seval] using hY',hp⟩
  have q0:(0:Int)<=k:=by omega
  have hw:IntKind.i64.wrap ((k:Int)+1)=((k+1:Nat):Int):=by rw[pM _ (by omega) (by omega)];omega
  have hs:=N2 v.ns t.store.now ((Q,t.cV),[]) (ol R) k (by omega)
  have hl:=hlen k
  have Sz:=hlen (k+1)
  rw[<- hp] at hs hl;obtain⟨r,er⟩:∃r,gx bB (ol R) (k:Int)=r:=⟨_,rfl⟩
  rw[er] at hs;unfold Oc at hs;have X0:((ol p.1.1).length:Int)<900000:=by omega
  have nZ9:(p.2.length:Int)<900000:=by omega
  have nZ:(p.2.length:Int)<1000000:=by omega
  by_cases g1:t.store.now<r.due
  ·rw[if_pos g1] at hs;rcases hY with ⟨rfl,hz⟩|⟨g,hz,rfl,hg,hh⟩
   ·apply Ge ((ol R).length-(k+1))
    ·simp only[ZG,seval,Mb,hI,aZ,q0,er,Cw,Cx,Cy,Cz,g1,hw];rfl
    ·exact⟨k+1,X,_,(p.1,p.2++[r]),by and_intros<;>(simp only[E8,seval,hI]<;>rfl),by simpa only[E8,seval] using hX,.inr ⟨_,by simp,rfl,by simp only[E8,seval]<;>omega,by rw[hz];simp only[E8,seval]<;>rfl⟩,hs.symm,by omega,rfl⟩
   ·have wB:(g=st.aK 30)=False:=eq_false (by omega)
    apply Ge ((ol R).length-(k+1))
    ·simp only[ZG,seval,Mb,hI,aZ,q0,er,Cw,Cx,Cy,Cz,hh,wB,g1,hw,rI _ _ _ _ nZ];rfl
    ·exact⟨k+1,X,_,(p.1,p.2++[r]),by and_intros<;>(simp only[E8,seval,hI]<;>rfl),by simpa only[E8,seval] using hX,.inr ⟨_,by simp,rfl,by simp only[E8,seval]<;>omega,by simp only[E8,seval]<;>rfl⟩,hs.symm,by omega,rfl⟩
  rw[if_neg g1] at hs;by_cases g2:uP v.ns r.block
  case neg =>
   rw[if_neg g2] at hs;rcases hX with rfl|⟨g,L,hL,rfl,hg,hh⟩
   ·rcases hY with ⟨rfl,hz⟩|⟨g9,hz,rfl,hg9,QX⟩
    ·have Od:∀(st:St) (d:Option Nat),aN (aC Tryz.prog) 85 [.agg (aF (Ed t (ov aA p.1.1) (.v (.slice none 0 0)) p.1.2)),.agg (aX r.block)] st d=some { dst:=d,val:=.v (.bool (decide (uP v.ns r.block)))}:=fun st d=>QW h p.1.1 none p.1.2 X0 (by show ((0:Nat):Int)<_;omega) r.block st d (pU _) (show cC st (.v (.slice none 0 0))=some (ov aA none) from pU none)
     apply Ge ((ol R).length-(k+1))
     ·simp only[ZG,seval,Mb,hI,aZ,q0,er,Cw,Cx,Cy,Cz,g1,Od,g2,hw];rfl
     ·exact⟨k+1,_,_,p,by and_intros<;>(simp only[E8,seval,hI]<;>rfl),.inl rfl,.inl ⟨rfl,hz⟩,hs.symm,by omega,rfl⟩
    ·have Od:∀(st:St) (d:Option Nat),st.heap 30 g9=some (.row 63 35 p.2.length (aA p.2))->aN (aC Tryz.prog) 85 [.agg (aF (Ed t (ov aA p.1.1) (.own 30 g9) p.1.2)),.agg (aX r.block)] st d=some { dst:=d,val:=.v (.bool (decide (uP v.ns r.block)))}:=fun st d h2=>QW h p.1.1 (some p.2) p.1.2 X0 nZ9 r.block st d (pU _) (show cC st (.own 30 g9)=some (ov aA (some p.2)) from kA h2)
     apply Ge ((ol R).length-(k+1))
     ·simp only[ZG,seval,Mb,hI,aZ,q0,er,Cw,Cx,Cy,Cz,g1,Od,QX,g2,hw];rfl
     ·exact⟨k+1,_,_,p,by and_intros<;>(simp only[E8,seval,hI]<;>rfl),.inl rfl,.inr ⟨g9,hz,rfl,by simp only[E8,seval]<;>omega,by simp only[E8,seval,QX]⟩,hs.symm,by omega,rfl⟩
   ·rcases hY with ⟨rfl,hz⟩|⟨g9,hz,rfl,hg9,QX⟩
    ·have Od:∀(st:St) (d:Option Nat),st.heap 19 g=some (.row 63 35 L.length (aA L))->aN (aC Tryz.prog) 85 [.agg (aF (Ed t (.own 19 g) (.v (.slice none 0 0)) p.1.2)),.agg (aX r.block)] st d=some { dst:=d,val:=.v (.bool (decide (uP v.ns r.block)))}:=fun st d h1=>QW h p.1.1 none p.1.2 X0 (by show ((0:Nat):Int)<_;omega) r.block st d (by rw[hL];exact kA h1) (show cC st (.v (.slice none 0 0))=some (ov aA none) from pU none)
     apply Ge ((ol R).length-(k+1))
     ·simp only[ZG,seval,Mb,hI,aZ,q0,er,Cw,Cx,Cy,Cz,g1,Od,hh,g2,hw];rfl
     ·exact⟨k+1,_,_,p,by and_intros<;>(simp only[E8,seval,hI]<;>rfl),.inr ⟨g,L,hL,rfl,by simp only[E8,seval]<;>omega,by simp only[E8,seval,hh]⟩,.inl ⟨rfl,hz⟩,hs.symm,by omega,rfl⟩
    ·have Od:∀(st:St) (d:Option Nat),st.heap 19 g=some (.row 63 35 L.length (aA L))->st.heap 30 g9=some (.row 63 35 p.2.length (aA p.2))->aN (aC Tryz.prog) 85 [.agg (aF (Ed t (.own 19 g) (.own 30 g9) p.1.2)),.agg (aX r.block)] st d=some { dst:=d,val:=.v (.bool (decide (uP v.ns r.block)))}:=fun st d h1 h2=>QW h p.1.1 (some p.2) p.1.2 X0 nZ9 r.block st d (by rw[hL];exact kA h1) (show cC st (.own 30 g9)=some (ov aA (some p.2)) from kA h2)
     apply Ge ((ol R).length-(k+1))
     ·simp only[ZG,seval,Mb,hI,aZ,q0,er,Cw,Cx,Cy,Cz,g1,Od,hh,QX,g2,hw];rfl
     ·exact⟨k+1,_,_,p,by and_intros<;>(simp only[E8,seval,hI]<;>rfl),.inr ⟨g,L,hL,rfl,by simp only[E8,seval]<;>omega,by simp only[E8,seval,hh]⟩,.inr ⟨g9,hz,rfl,by simp only[E8,seval]<;>omega,by simp only[E8,seval,QX]⟩,hs.symm,by omega,rfl⟩
  rw[if_pos g2] at hs;rcases hX with rfl|⟨g,L,hL,rfl,hg,hh⟩
  ·rcases hY with ⟨rfl,hz⟩|⟨g9,hz,rfl,hg9,QX⟩
   ·have Od:∀(st:St) (d:Option Nat),aN (aC Tryz.prog) 85 [.agg (aF (Ed t (ov aA p.1.1) (.v (.slice none 0 0)) p.1.2)),.agg (aX r.block)] st d=some { dst:=d,val:=.v (.bool (decide (uP v.ns r.block)))}:=fun st d=>QW h p.1.1 none p.1.2 X0 (by show ((0:Nat):Int)<_;omega) r.block st d (pU _) (show cC st (.v (.slice none 0 0))=some (ov aA none) from pU none)
    obtain⟨G,hG⟩:=aG6 t (.v (.slice none 0 0)) p.1.1 p.1.2 (by omega) r.block r.tries
    have kG:=fun st=>(hG st).1
    have f1:∀st:St,0<st.aK 1->(G st).heap 1 0=st.heap 1 0:=fun st h=>(hG st).2.1.1 1 0 h
    have f2:∀st:St,0<st.aK 2->(G st).heap 2 0=st.heap 2 0:=fun st h=>(hG st).2.1.1 2 0 h
    have c1:∀st:St,0<st.aK 1->(0<(G st).aK 1)=True:=fun st h=>eq_true (Nat.lt_of_lt_of_le h ((hG st).2.1.2 1))
    have c2:∀st:St,0<st.aK 2->(0<(G st).aK 2)=True:=fun st h=>eq_true (Nat.lt_of_lt_of_le h ((hG st).2.1.2 2))
    have fn:∀(st:St) (c:Nat),c=st.aK 19->(G st).heap 19 c=_:=fun st c e=>e ▸ (hG st).2.2.1
    have cn:∀(st:St) (c:Nat),c=st.aK 19->(c<(G st).aK 19)=True:=fun st c e=>e ▸ eq_true (hG st).2.2.2
    apply Ge ((ol R).length-(k+1))
    ·simp only[ZG,seval,Mb,hI,aZ,q0,er,Cw,Cx,Cy,Cz,g1,Od,g2,aEo,kG,f1,dW,bW,bM,hw];rfl
    ·exact⟨k+1,_,_,((some (ol p.1.1++[(⟨⟨p.1.2⟩,r.block,r.tries,0⟩:Request)]),IntKind.u64.wrap (p.1.2+1)),p.2),⟨by simp only[E8,seval,hI,dW],by simp only[E8,seval,hI,bW,bM]<;>rfl,by simp only[E8,seval,hI,dW],by simp only[E8,seval,hI,bW,bM,f2],by simp only[E8,seval,hI,dW],by simp only[E8,seval,hI,dW],by simp only[E8,seval,hI,bM,c1],by simp only[E8,seval,hI,bM,c2]⟩,.inr ⟨_,(ol p.1.1++[(⟨⟨p.1.2⟩,r.block,r.tries,0⟩:Request)]),rfl,rfl,by simp only[E8,seval,bM,cn],by simp only[E8,seval,bW,bM,fn]⟩,.inl ⟨rfl,hz⟩,hs.symm,by omega,rfl⟩
   ·have Od:∀(st:St) (d:Option Nat),st.heap 30 g9=some (.row 63 35 p.2.length (aA p.2))->aN (aC Tryz.prog) 85 [.agg (aF (Ed t (ov aA p.1.1) (.own 30 g9) p.1.2)),.agg (aX r.block)] st d=some { dst:=d,val:=.v (.bool (decide (uP v.ns r.block)))}:=fun st d h2=>QW h p.1.1 (some p.2) p.1.2 X0 nZ9 r.block st d (pU _) (show cC st (.own 30 g9)=some (ov aA (some p.2)) from kA h2)
    obtain⟨G,hG⟩:=aG6 t (.own 30 g9) p.1.1 p.1.2 (by omega) r.block r.tries
    have kG:=fun st=>(hG st).1
    have f1:∀st:St,0<st.aK 1->(G st).heap 1 0=st.heap 1 0:=fun st h=>(hG st).2.1.1 1 0 h
    have f2:∀st:St,0<st.aK 2->(G st).heap 2 0=st.heap 2 0:=fun st h=>(hG st).2.1.1 2 0 h
    have c1:∀st:St,0<st.aK 1->(0<(G st).aK 1)=True:=fun st h=>eq_true (Nat.lt_of_lt_of_le h ((hG st).2.1.2 1))
    have c2:∀st:St,0<st.aK 2->(0<(G st).aK 2)=True:=fun st h=>eq_true (Nat.lt_of_lt_of_le h ((hG st).2.1.2 2))
    have fn:∀(st:St) (c:Nat),c=st.aK 19->(G st).heap 19 c=_:=fun st c e=>e ▸ (hG st).2.2.1
    have cn:∀(st:St) (c:Nat),c=st.aK 19->(c<(G st).aK 19)=True:=fun st c e=>e ▸ eq_true (hG st).2.2.2
    have f3:∀st:St,g9<st.aK 30->(G st).heap 30 g9=st.heap 30 g9:=fun st h=>(hG st).2.1.1 30 g9 h
    have c3:∀st:St,g9<st.aK 30->(g9<(G st).aK 30)=True:=fun st h=>eq_true (Nat.lt_of_lt_of_le h ((hG st).2.1.2 30))
    apply Ge ((ol R).length-(k+1))
    ·simp only[ZG,seval,Mb,hI,aZ,q0,er,Cw,Cx,Cy,Cz,g1,Od,QX,g2,aEo,kG,f1,dW,bW,bM,hw];rfl
    ·exact⟨k+1,_,_,((some (ol p.1.1++[(⟨⟨p.1.2⟩,r.block,r.tries,0⟩:Request)]),IntKind.u64.wrap (p.1.2+1)),p.2),⟨by simp only[E8,seval,hI,dW],by simp only[E8,seval,hI,bW,bM]<;>rfl,by simp only[E8,seval,hI,dW],by simp only[E8,seval,hI,bW,bM,f2],by simp only[E8,seval,hI,dW],by simp only[E8,seval,hI,dW],by simp only[E8,seval,hI,bM,c1],by simp only[E8,seval,hI,bM,c2]⟩,.inr ⟨_,(ol p.1.1++[(⟨⟨p.1.2⟩,r.block,r.tries,0⟩:Request)]),rfl,rfl,by simp only[E8,seval,bM,cn],by simp only[E8,seval,bW,bM,fn]⟩,.inr ⟨g9,hz,rfl,by simp only[E8,seval,bM,hg9,c3],by simp only[E8,seval,bW,bM,hg9,QX,f3]⟩,hs.symm,by omega,rfl⟩
  ·rcases hY with ⟨rfl,hz⟩|⟨g9,hz,rfl,hg9,QX⟩
   ·have Od:∀(st:St) (d:Option Nat),st.heap 19 g=some (.row 63 35 L.length (aA L))->aN (aC Tryz.prog) 85 [.agg (aF (Ed t (.own 19 g) (.v (.slice none 0 0)) p.1.2)),.agg (aX r.block)] st d=some { dst:=d,val:=.v (.bool (decide (uP v.ns r.block)))}:=fun st d h1=>QW h p.1.1 none p.1.2 X0 (by show ((0:Nat):Int)<_;omega) r.block st d (by rw[hL];exact kA h1) (show cC st (.v (.slice none 0 0))=some (ov aA none) from pU none)
    have nL:(L.length:Int)<1000000:=by rw[hL] at X0;have:(L.length:Int)<900000:=X0;omega
    obtain⟨G,hG⟩:=aAG t (.v (.slice none 0 0)) g L p.1.2 nL r.block r.tries
    have kG:∀st:St,st.heap 19 g=some (.row 63 35 L.length (aA L))->g<st.aK 19->_:=fun st a b=>(hG st ⟨a,b⟩).1
    have f1:∀st:St,st.heap 19 g=some (.row 63 35 L.length (aA L))->g<st.aK 19->0<st.aK 1->(G st).heap 1 0=st.heap 1 0:=fun st a b h=>(hG st ⟨a,b⟩).2.1.1 1 0 h
    have f2:∀st:St,st.heap 19 g=some (.row 63 35 L.length (aA L))->g<st.aK 19->0<st.aK 2->(G st).heap 2 0=st.heap 2 0:=fun st a b h=>(hG st ⟨a,b⟩).2.1.1 2 0 h
    have c1:∀st:St,st.heap 19 g=some (.row 63 35 L.length (aA L))->g<st.aK 19->0<st.aK 1->(0<(G st).aK 1)=True:=fun st a b h=>eq_true (Nat.lt_of_lt_of_le h ((hG st ⟨a,b⟩).2.1.2 1))
    have c2:∀st:St,st.heap 19 g=some (.row 63 35 L.length (aA L))->g<st.aK 19->0<st.aK 2->(0<(G st).aK 2)=True:=fun st a b h=>eq_true (Nat.lt_of_lt_of_le h ((hG st ⟨a,b⟩).2.1.2 2))
    have fn:∀(st:St) (c:Nat),st.heap 19 g=some (.row 63 35 L.length (aA L))->g<st.aK 19->c=st.aK 19->(G st).heap 19 c=_:=fun st c a b e=>e ▸ (hG st ⟨a,b⟩).2.2.1
    have cn:∀(st:St) (c:Nat),st.heap 19 g=some (.row 63 35 L.length (aA L))->g<st.aK 19->c=st.aK 19->(c<(G st).aK 19)=True:=fun st c a b e=>e ▸ eq_true (hG st ⟨a,b⟩).2.2.2
    have eL:ol p.1.1=L:=by rw[hL];rfl
    rw[eL] at hs;apply Ge ((ol R).length-(k+1))
    ·simp only[ZG,seval,Mb,hI,aZ,q0,er,Cw,Cx,Cy,Cz,g1,Od,hh,hg,g2,aEo,kG,f1,dW,bW,bM,hw];rfl
    ·exact⟨k+1,_,_,((some (L++[(⟨⟨p.1.2⟩,r.block,r.tries,0⟩:Request)]),IntKind.u64.wrap (p.1.2+1)),p.2),⟨by simp only[E8,seval,hI,dW],by simp only[E8,seval,hI,bW,bM]<;>rfl,by simp only[E8,seval,hI,dW],by simp only[E8,seval,hI,hh,hg,bW,bM,f2],by simp only[E8,seval,hI,dW],by simp only[E8,seval,hI,dW],by simp only[E8,seval,hI,hh,hg,bM,c1],by simp only[E8,seval,hI,hh,hg,bM,c2]⟩,.inr ⟨_,(L++[(⟨⟨p.1.2⟩,r.block,r.tries,0⟩:Request)]),rfl,rfl,by simp only[E8,seval,bM,hh,hg,cn],by simp only[E8,seval,bW,bM,hh,hg,fn]⟩,.inl ⟨rfl,hz⟩,hs.symm,by omega,rfl⟩
   ·have Od:∀(st:St) (d:Option Nat),st.heap 19 g=some (.row 63 35 L.length (aA L))->st.heap 30 g9=some (.row 63 35 p.2.length (aA p.2))->aN (aC Tryz.prog) 85 [.agg (aF (Ed t (.own 19 g) (.own 30 g9) p.1.2)),.agg (aX r.block)] st d=some { dst:=d,val:=.v (.bool (decide (uP v.ns r.block)))}:=fun st d h1 h2=>QW h p.1.1 (some p.2) p.1.2 X0 nZ9 r.block st d (by rw[hL];exact kA h1) (show cC st (.own 30 g9)=some (ov aA (some p.2)) from kA h2)
    have nL:(L.length:Int)<1000000:=by rw[hL] at X0;have:(L.length:Int)<900000:=X0;omega
    obtain⟨G,hG⟩:=aAG t (.own 30 g9) g L p.1.2 nL r.block r.tries
    have kG:∀st:St,st.heap 19 g=some (.row 63 35 L.length (aA L))->g<st.aK 19->_:=fun st a b=>(hG st ⟨a,b⟩).1
    have f1:∀st:St,st.heap 19 g=some (.row 63 35 L.length (aA L))->g<st.aK 19->0<st.aK 1->(G st).heap 1 0=st.heap 1 0:=fun st a b h=>(hG st ⟨a,b⟩).2.1.1 1 0 h
    have f2:∀st:St,st.heap 19 g=some (.row 63 35 L.length (aA L))->g<st.aK 19->0<st.aK 2->(G st).heap 2 0=st.heap 2 0:=fun st a b h=>(hG st ⟨a,b⟩).2.1.1 2 0 h
    have c1:∀st:St,st.heap 19 g=some (.row 63 35 L.length (aA L))->g<st.aK 19->0<st.aK 1->(0<(G st).aK 1)=True:=fun st a b h=>eq_true (Nat.lt_of_lt_of_le h ((hG st ⟨a,b⟩).2.1.2 1))
    have c2:∀st:St,st.heap 19 g=some (.row 63 35 L.length (aA L))->g<st.aK 19->0<st.aK 2->(0<(G st).aK 2)=True:=fun st a b h=>eq_true (Nat.lt_of_lt_of_le h ((hG st ⟨a,b⟩).2.1.2 2))
    have fn:∀(st:St) (c:Nat),st.heap 19 g=some (.row 63 35 L.length (aA L))->g<st.aK 19->c=st.aK 19->(G st).heap 19 c=_:=fun st c a b e=>e ▸ (hG st ⟨a,b⟩).2.2.1
    have cn:∀(st:St) (c:Nat),st.heap 19 g=some (.row 63 35 L.length (aA L))->g<st.aK 19->c=st.aK 19->(c<(G st).aK 19)=True:=fun st c a b e=>e ▸ eq_true (hG st ⟨a,b⟩).2.2.2
    have f3:∀st:St,st.heap 19 g=some (.row 63 35 L.length (aA L))->g<st.aK 19->g9<st.aK 30->(G st).heap 30 g9=st.heap 30 g9:=fun st a b h=>(hG st ⟨a,b⟩).2.1.1 30 g9 h
    have c3:∀st:St,st.heap 19 g=some (.row 63 35 L.length (aA L))->g<st.aK 19->g9<st.aK 30->(g9<(G st).aK 30)=True:=fun st a b h=>eq_true (Nat.lt_of_lt_of_le h ((hG st ⟨a,b⟩).2.1.2 30))
    have eL:ol p.1.1=L:=by rw[hL];rfl
    rw[eL] at hs;apply Ge ((ol R).length-(k+1))
    ·simp only[ZG,seval,Mb,hI,aZ,q0,er,Cw,Cx,Cy,Cz,g1,Od,hh,QX,hg,g2,aEo,kG,f1,dW,bW,bM,hw];rfl
    ·exact⟨k+1,_,_,((some (L++[(⟨⟨p.1.2⟩,r.block,r.tries,0⟩:Request)]),IntKind.u64.wrap (p.1.2+1)),p.2),⟨by simp only[E8,seval,hI,dW],by simp only[E8,seval,hI,bW,bM]<;>rfl,by simp only[E8,seval,hI,dW],by simp only[E8,seval,hI,hh,hg,bW,bM,f2],by simp only[E8,seval,hI,dW],by simp only[E8,seval,hI,dW],by simp only[E8,seval,hI,hh,hg,bM,c1],by simp only[E8,seval,hI,hh,hg,bM,c2]⟩,.inr ⟨_,(L++[(⟨⟨p.1.2⟩,r.block,r.tries,0⟩:Request)]),rfl,rfl,by simp only[E8,seval,bM,hh,hg,cn],by simp only[E8,seval,bW,bM,hh,hg,fn]⟩,.inr ⟨g9,hz,rfl,by simp only[E8,seval,bM,hg9,hh,hg,c3],by simp only[E8,seval,bW,bM,hg9,QX,hh,hg,f3]⟩,hs.symm,by omega,rfl⟩
 case start=>exact⟨0,ov aA Q,.v (.slice none 0 0),((Q,t.cV),[]),⟨by simp only[E8,seval],by simp only[E8,seval,h.Cf]<;>rfl,by simp only[E8,seval],by simp only[E8,seval],by simp only[E8,seval],by simp only[E8,seval]<;>rfl,by simp only[E8,seval]<;>omega,by simp only[E8,seval]<;>omega⟩,.inl rfl,.inl ⟨rfl,rfl⟩,rfl,by omega,by omega⟩
 case rest =>
  rintro e st ⟨rfl,X,Y,p,hI,hX,hY,hp⟩
  have hv:aEp t v.ns Q R=Ed t (ov aA p.1.1) (ov aA (nz p.2)) p.1.2:=by unfold aEp;rw[<- hp]
  have hex:∀st:St,∀X' Y',cC st X=some X'->cC st Y=some Y'->eW st (.agg (aF (Ed t X Y p.1.2)))=some (.agg (aF (Ed t X' Y' p.1.2))):=fun st X' Y' hx hy=>E2 h st hx hy p.1.2
  rcases hX with rfl|⟨g,L,hL,rfl,hh⟩
  ·rcases hY with ⟨rfl,hz⟩|⟨g9,hz,rfl,QX⟩
   ·rw[hz,show nz ([]:List Request)=none from if_pos rfl] at hv
    simp only[ZG,seval,Mb,hI];exact⟨_,dY rfl (by simp only[E8,seval,hI]<;>rfl) (by simp only[ZG,seval,hI]<;>rfl) (hex _ _ _ (pU _) (pU none)),by rw[hv]⟩
   ·rw[show nz p.2=some p.2 from if_neg hz] at hv;simp only[ZG,seval,Mb,hI,QX];exact⟨_,dY rfl (by simp only[E8,seval,hI]<;>rfl) (by simp only[ZG,seval,hI]<;>rfl) (hex _ _ _ (pU _) (kA (by simp only[E8,seval,QX]<;>rfl))),by rw[hv]⟩
  ·rcases hY with ⟨rfl,hz⟩|⟨g9,hz,rfl,QX⟩
   ·rw[hz,show nz ([]:List Request)=none from if_pos rfl,hL] at hv
    simp only[ZG,seval,Mb,hI,hh];exact⟨_,dY rfl (by simp only[E8,seval,hI]<;>rfl) (by simp only[ZG,seval,hI]<;>rfl) (hex _ _ _ (kA (by simp only[E8,seval,hh]<;>rfl)) (pU none)),by rw[hv]⟩
   ·rw[show nz p.2=some p.2 from if_neg hz,hL] at hv;simp only[ZG,seval,Mb,hI,hh,QX];exact⟨_,dY rfl (by simp only[E8,seval,hI]<;>rfl) (by simp only[ZG,seval,hI]<;>rfl) (hex _ _ _ (kA (by simp only[E8,seval,hh]<;>rfl)) (kA (by simp only[E8,seval,QX]<;>rfl))),by rw[hv]⟩
theorem aIA (x:Int):IntKind.i64.wrap x<=9223372036854775807:=by
 rw[IntKind.wrap_i64];omega
def jA (a b:Request):Prop:=a.due<b.due\/(a.due=b.due/\a.tagged.tag<b.tagged.tag)
noncomputable def wG:Nat->List Request->List Request
 | 0,l=>l
 | k+1,l=>if jA (gx bB l ((k+1:Nat):Int)) (gx bB l (k:Int)) then wG k ((l.set (k+1) (gx bB l (k:Int))).set k (gx bB l ((k+1:Nat):Int))) else l
theorem AZ:∀(k:Nat) (l:List Request),(wG k l).length=l.length
 | 0,l=>rfl
 | k+1,l=>by
   unfold wG;split
   ·rw[AZ k,List.length_set,List.length_set]
   ·rfl
noncomputable def FE (t:State) (r:Request):Request:={ r with tries:=IntKind.i64.wrap (r.tries+1),due:=IntKind.u64.wrap (t.store.now+Xd (IntKind.i64.wrap (r.tries+1)) t.store.cFg.kF.kZ)}
noncomputable def Tt (t:State) (ns:List Node) (R:List Request) (r:Request):State :=
 if ¬uP ns r.block then t else if t.store.cFg.kF.lM<=(R.length:Int) then { t with overflow:=true } else { t with kU:=ov aA (some (wG R.length (R++[FE t r])))}
theorem c72 {t:State} {v:SV} {Q R:Option (List Request)} (h:TD t v Q R) (r:Request):aC Tryz.prog 72 [.agg (aF t),.agg (bA r)]=some (.agg (aF (Tt t v.ns (ol R) r))):=by
 have hf:=h.flat
 have lK:=h.fl
 have nR:=h.nR
 have nR1:((ol R).length:Int)<1000000:=by omega
 have N0:=k85 h r.block
 have fr:Flat (.agg (bA r)):=.agg _ (fN r)
 rw[cL Tryz.func72 rfl aTZ rfl];refine iX ?_
 by_cases g1:uP v.ns r.block
 case neg =>
  simp only[Z8,seval,N0,g1];exact⟨_,fK rfl (by simp only[E8,seval,hf]<;>rfl) (by simp only[Z8,seval,hf]<;>rfl) (by simp only[dN,and_self,hf]),by rw[Tt,if_pos g1]⟩
 by_cases g2:t.store.cFg.kF.lM<=((ol R).length:Int)
 ·have hf2:Flat (.agg (aF { t with overflow:=true })):=(pP _).2 lK
  simp only[Z8,seval,N0,g1,h.ret,g2];exact⟨_,fK rfl (by simp only[E8,seval,lK]<;>rfl) (by simp only[Z8,seval,lK]<;>rfl) (by simp only[dN,and_self,lK]),by rw[Tt,if_neg (fun hh=>hh g1),if_pos g2,<- h.ret]⟩
 have hv:Tt t v.ns (ol R) r=_:=(if_neg (fun hh=>hh g1)).trans (if_neg g2)
 rw[hv];have k143':=aTG (IntKind.i64.wrap (r.tries+1)) t.store.cFg.kF.kZ (aIA _)
 obtain⟨L0,hL0⟩:∃L0,ol R++[FE t r]=L0:=⟨_,rfl⟩
 have hlL:L0.length=(ol R).length+1:=by rw[<- hL0,List.length_append,List.length_cons,List.length_nil]
 have hL0':ol R++[({ tagged:=r.tagged,block:=r.block,tries:=IntKind.i64.wrap (r.tries+1),due:=IntKind.u64.wrap (t.store.now+Xd (IntKind.i64.wrap (r.tries+1)) t.store.cFg.kF.kZ)}:Request)]=L0:=hL0
 rw[hL0];have w1:IntKind.i64.wrap ((L0.length:Int)-1)=((ol R).length:Int):=by rw[pM _ (by omega) (by omega)];omega
 simp only[Z8,seval,N0,g1,h.ret,g2,k143',qG,qI,rH _ nR1,rI _ _ _ _ nR1,hL0',w1];refine cB (fun m st=>∃(k:Nat) (l:List Request),(st.env 2=.ptr 2 0 0/\st.heap 2 0=some (.cells (aF t))/\st.env 4=.ptr 4 0 0/\st.heap 4 0=some (.cells (aF lD))/\st.env 5=.own 46 0/\st.heap 46 0=some (.row 63 35 l.length (aA l))/\st.env 6=.v (.int .i64 k))/\wG k l=wG (ol R).length L0/\l.length=L0.length/\k<=(ol R).length/\m=k)
  (fun e st=>e=.exit 0/\∃(l:List Request),(st.env 2=.ptr 2 0 0/\st.heap 2 0=some (.cells (aF t))/\st.env 4=.ptr 4 0 0/\st.heap 4 0=some (.cells (aF lD))/\st.env 5=.own 46 0/\st.heap 46 0=some (.row 63 35 l.length (aA l)))/\l=wG (ol R).length L0) (ol R).length ?step ?start ?rest
 case step =>
  rintro m st ⟨k,l,hI,hb,hl,hk,hm⟩
  cases k with
  | zero =>
    have z0:¬((0:Int)<((0:Nat):Int)):=by omega
    have hI':=hI
    apply oT (.exit 0)
    ·simp only[Z8,seval,hI,Int.lt_irrefl,qG,qI];rfl
    ·exact⟨rfl,l,by simp only[E8,seval,hI],by rw[<- hb];rfl⟩
  | succ j =>
    obtain⟨i,hi⟩:∃i:Int,i=((j+1:Nat):Int):=⟨_,rfl⟩
    obtain⟨i',Dm⟩:∃i':Int,i'=(j:Int):=⟨_,rfl⟩
    rw[<- hi] at hI;have p0:(0:Int)<i:=by omega
    have p1:(0:Int)<=i:=by omega
    have p2:i<(l.length:Int):=by omega
    have q1:(0:Int)<=i':=by omega
    have q2:i'<(l.length:Int):=by omega
    have hw:IntKind.i64.wrap (i-1)=i':=by rw[pM _ (by omega) (by omega)];omega
    have ti:i.toNat=j+1:=by omega
    have ti':i'.toNat=j:=by omega
    obtain⟨a,ea⟩:∃a,gx bB l i=a:=⟨_,rfl⟩
    obtain⟨b,eb⟩:∃b,gx bB l i'=b:=⟨_,rfl⟩
    have d1:=Gk (T:=23) (n:=l.length) (k:=1) (off:=34) p1 p2 XQ (by decide) (by decide)
    have d2:=Gk (T:=23) (n:=l.length) (k:=1) (off:=34) q1 q2 XQ (by decide) (by decide)
    have d3:=Ar (T:=23) (n:=l.length) (k:=1) p1 p2 XQ (by decide) (by decide)
    have d4:=Ar (T:=23) (n:=l.length) (k:=1) q1 q2 XQ (by decide) (by decide)
    have d5:=Ar (T:=63) (n:=l.length) (k:=35) p1 p2 aIB (by decide) (by decide)
    have d6:=Ar (T:=63) (n:=l.length) (k:=35) q1 q2 aIB (by decide) (by decide)
    rw[ea] at d1 d3 d5;rw[eb] at d2 d4 d6;have N3:∀P:Prop,(jA a b↔P)->wG (j+1) l=if P then wG j ((l.set (j+1) b).set j a) else l:=fun P hP=>by
     have e1:gx bB l ((j+1:Nat):Int)=a:=by rw[<- hi];exact ea
     have e2:gx bB l (j:Int)=b:=by rw[<- Dm];exact eb
     have e0:wG (j+1) l=if jA (gx bB l ((j+1:Nat):Int)) (gx bB l (j:Int)) then wG j ((l.set (j+1) (gx bB l (j:Int))).set j (gx bB l ((j+1:Nat):Int))) else l:=rfl
     rw[e0,e1,e2];by_cases hh:jA a b
     ·rw[if_pos hh,if_pos (hP.1 hh)]
     ·rw[if_neg hh,if_neg (fun x=>hh (hP.2 x))]
    have x3:i.toNat * 35+35<=l.length * 35:=by omega
    have x4:i'.toNat * 35+35<=(l.set i.toNat b).length * 35:=by rw[List.length_set];omega
    have x4':i'.toNat * 35+35<=l.length * 35:=by omega
    have u1:=Oe l i b (by omega)
    have u2:=Oe (l.set i.toNat b) i' a (by rw[List.length_set];omega)
    have swp:(l.set i.toNat b).set i'.toNat a=(l.set (j+1) b).set j a:=by rw[ti,ti']
    by_cases g3:a.due<b.due
    ·have nA:=N3 True (iff_of_true (.inl g3) trivial)
     rw[if_pos trivial] at nA
     apply oN (j)
     ·simp only[Z8,seval,hI,p0,p1,p2,q1,q2,hw,d1,d2,d3,d4,d5,d6,g3,x3,x4,x4',u1,u2,List.length_set,qG,qI];rfl
     ·exact⟨j,(l.set i.toNat b).set i'.toNat a,⟨by simp only[E8,seval,hI],by simp only[E8,seval,hI],by simp only[E8,seval,hI],by simp only[E8,seval,hI],by simp only[E8,seval,hI],by rw[List.length_set,List.length_set];simp only[E8,seval,List.length_set]<;>rfl,by simp only[E8,seval,Dm]⟩,by rw[swp,<- nA];exact hb,by rw[List.length_set,List.length_set];exact hl,by omega,rfl⟩
    by_cases g4:a.due=b.due
    case neg =>
     have nA:=N3 False (iff_of_false (fun x=>x.elim g3 fun y=>g4 y.1) id)
     rw[if_neg id] at nA
     apply oT (.exit 0)
     ·simp only[Z8,seval,hI,p0,p1,p2,q1,q2,hw,d1,d2,d3,d4,d5,d6,g3,bf g4,qG,qI];rfl
     ·exact⟨rfl,l,by simp only[E8,seval,hI],by rw[<- hb,nA]⟩
    by_cases g5:a.tagged.tag<b.tagged.tag
    ·have nA:=N3 True (iff_of_true (.inr ⟨g4,g5⟩) trivial)
     rw[if_pos trivial] at nA
     apply oN (j)
     ·simp only[Z8,seval,hI,p0,p1,p2,q1,q2,hw,d1,d2,d3,d4,d5,d6,g3,bt g4,g5,x3,x4,x4',u1,u2,List.length_set,qG,qI];rfl
     ·exact⟨j,(l.set i.toNat b).set i'.toNat a,⟨by simp only[E8,seval,hI],by simp only[E8,seval,hI],by simp only[E8,seval,hI],by simp only[E8,seval,hI],by simp only[E8,seval,hI],by rw[List.length_set,List.length_set];simp only[E8,seval,List.length_set]<;>rfl,by simp only[E8,seval,Dm]⟩,by rw[swp,<- nA];exact hb,by rw[List.length_set,List.length_set];exact hl,by omega,rfl⟩
    ·have nA:=N3 False (iff_of_false (fun x=>x.elim g3 fun y=>g5 y.2) id)
     rw[if_neg id] at nA
     apply oT (.exit 0)
     ·simp only[Z8,seval,hI,p0,p1,p2,q1,q2,hw,d1,d2,d3,d4,d5,d6,g3,bt g4,g5,qG,qI];rfl
     ·exact⟨rfl,l,by simp only[E8,seval,hI],by rw[<- hb,nA]⟩
 case start=>exact⟨(ol R).length,L0,by simp only[E8,seval]<;>rfl,rfl,rfl,by omega,rfl⟩
 case rest =>
  rintro e st ⟨rfl,l,hI,hl⟩
  have hex:=pI l.length l
  subst hl;simp only[Z8,seval,hI];exact⟨_,by apply dY;rfl;all_goals simp only[aJ,Z8,seval,hI,hex,lK,bQ,wE,gF,bG,cN,pI,dN]<;>rfl,rfl⟩
theorem YL {m:Nat} (h:m<=63):(0:Int)<2 ^ m/\(2:Int) ^ m<=9223372036854775808:=by
 constructor
 ·exact Int.pow_pos (by decide)
 ·have h1:(2:Nat) ^ m<=2 ^ 63:=Nat.pow_le_pow_right (by decide) h
  have h2:((2 ^ m:Nat):Int)=2 ^ m:=by simp
  rw[<- h2];have:(2:Nat) ^ 63=9223372036854775808:=by decide
  omega
theorem QY (b:Int) (hb:b<18446744073709551616):∀(k j:Nat),k+j<=63->(2:Int) ^ j<=b->AS b k (2 ^ j)=if b<2 ^ (j+k) then b else 2 ^ (j+k)
 | 0,j,h,hj=>by
   rw[AS,Nat.add_zero,if_neg (by omega)]
 | k+1,j,h,hj=>by
   obtain⟨p1,p2⟩:=YL (m:=j) (by omega)
   obtain⟨_,p3⟩:=YL (m:=j+1) (by omega)
   have e1:(2:Int) ^ (j+1)=2 * 2 ^ j:=by rw[Int.pow_succ];omega
   obtain⟨p,hp⟩:∃p:Int,2 ^ j=p:=⟨_,rfl⟩
   have ih:=QY b hb k (j+1) (by omega)
   rw[e1,hp] at ih;rw[hp] at p1 p2 hj;rw[e1,hp] at p3;have w1:IntKind.u64.wrap (b-p)=b-p:=by rw[aD7 _ (by omega) (by omega)]
   have w2:IntKind.u64.wrap (2 * p)=2 * p:=by rw[aD7 _ (by omega) (by omega)]
   have ej:j+(k+1)=j+1+k:=by omega
   have mono:(2:Int) * p<=2 ^ (j+(k+1)):=by
    rw[ej,Int.pow_add,e1,hp];have:(1:Int)<=2 ^ k:=Int.pow_pos (by decide)
    have h2:2 * p * 1<=2 * p * 2 ^ k:=Int.mul_le_mul_of_nonneg_left this (by omega)
    omega
   rw[AS,hp,w1,w2];by_cases hc:b-p<=p
   ·rw[if_pos hc];split
    ·rfl
    ·omega
   ·rw[if_neg hc,ih (by omega),ej]
theorem aAI (n b:Int) (hn:1<=n/\n<=64) (hb:0<=b/\b<18446744073709551616):Xd n b=if b<2 ^ (n-1).toNat then b else 2 ^ (n-1).toNat:=by
 unfold Xd;by_cases h:b=0
 ·have:(0:Int)<2 ^ (n-1).toNat:=Int.pow_pos (by decide)
  rw[if_pos h,if_pos (by omega),h]
 ·have e:=QY b hb.2 (n-1).toNat 0 (by omega) (by show (1:Int)<=b;omega)
  rw[if_neg h];rw[Nat.zero_add] at e;exact e
theorem aT0 (n b:Int) (hn:1<=n/\n<=64) (hb:0<=b/\b<18446744073709551616):aC Tryz.prog 138 [.v (.int .i64 n),.v (.int .u64 b)]=some (.v (.int .u64 (Xd n b))):=by
 obtain⟨h2,h3⟩:=YL (m:=(n-1).toNat) (by omega)
 have g1:¬(64:Int)<n:=by omega
 have w1:IntKind.i64.wrap (n-1)=n-1:=by rw[pM _ (by omega) (by omega)]
 have n0:¬n-1<0:=by omega
 have e2:fP Tryz.prog .shl 23 (.v (.int .u64 1)) (.v (.int .i64 (n-1)))=some (.v (.int .u64 (2 ^ (n-1).toNat))):=by
  rw[E3 n0];have:min (n-1).toNat IntKind.u64.bits=(n-1).toNat:=by show min _ 64=_;omega
  rw[this,Int.one_mul,aD7 _ (by omega) (by omega)]
 have e1:N4 (.v (.int .i64 n)) (.v (.int .i64 1))=some (.v (.int .i64 n)):=by
  rw[As,if_neg (by omega)]
 have hv:=aAI n b hn hb
 obtain⟨p,hp⟩:∃p:Int,2 ^ (n-1).toNat=p:=⟨_,rfl⟩
 rw[hp] at e2 hv;have e3:N5 (.v (.int .u64 p)) (.v (.int .u64 b))=some (.v (.int .u64 (Xd n b))):=by
  rw[At,hv]
 rw[cL Tryz.func138 rfl aOy rfl];refine iX ?_
 simp only[Z8,seval,g1,e1,w1,e2,e3];exact⟨_,bT rfl (by simp only[E8,seval]<;>rfl) (by first|exact .v _|simp only[dN]),rfl⟩
theorem aT1 (n:Int):aC Tryz.prog 197 [.v (.int .u64 n)]=some (.v (.bool false)):=by
 rw[cL Tryz.func197 rfl aOz rfl];refine iX ?_
 simp only[Z8,seval];exact⟨_,bT rfl (by simp only[E8,seval]<;>rfl) (by first|exact .v _|simp only[dN]),by simp⟩
def QZ (a b:Int):Int:=if a<b then -1 else if b<a then 1 else 0
theorem aT2 (a b:Int):aC Tryz.prog 178 [.v (.int .u64 a),.v (.int .u64 b)]=some (.v (.int .i64 (QZ a b))):=by
 have aIC:=fun n=>kx (aT1 n) (cT (.v _)) (.v _)
 rw[cL Tryz.func178 rfl aOA rfl];refine iX ?_
 unfold QZ;by_cases h1:a<b
 ·simp only[Z8,seval,aIC,h1];exact⟨_,bT rfl (by simp only[E8,seval]<;>rfl) (by first|exact .v _|simp only[dN]),rfl⟩
 by_cases h2:b<a
 ·simp only[Z8,seval,aIC,h1,h2];exact⟨_,bT rfl (by simp only[E8,seval]<;>rfl) (by first|exact .v _|simp only[dN]),rfl⟩
 ·simp only[Z8,seval,aIC,h1,h2];exact⟨_,bT rfl (by simp only[E8,seval]<;>rfl) (by first|exact .v _|simp only[dN]),rfl⟩
theorem aT3 {t:State} {v:SV} {Q R:Option (List Request)} {q:Int} (hT:TD t v Q R) (h:GI t.store v q) (r:RG t.store v) (hB:0<(ol v.B).length/\(ol v.B).length<=64) (hq:∀r∈ol Q,Rg r.tagged.tag) (n k:Int) (hk:0<=k) :
 ∃x,aC Tryz.prog 146 [.agg (aF t),.v (.int .i64 n),.v (.int .i64 k)]=some x/\∃y:xU,x=.agg (kX y)/\pH y/\(y.kind=2->y.block.root=mkRoot n\/∃m∈v.ns,y.block.root=m.block.root):=by
 have z:=zOk
 have hm:=yS hk (min 4 IntKind.i64.bits)
 have hf:=hT.flat
 have B6:=h.sd.flat
 obtain⟨x1,e1,b,rfl,rb⟩:=x50 h r n (k.fdiv (2 ^ min 4 IntKind.i64.bits)) hm
 obtain⟨x2,e2,a,V,rfl,hV,nV,ra1,ra2⟩:=x37 h r hB (k.fdiv (2 ^ min 4 IntKind.i64.bits)) hm
 obtain⟨x3,e3,sl,rfl,c1,c2,s1,s2,s3,s4⟩:=aTu (ol v.B).length (k.fdiv (2 ^ min 4 IntKind.i64.bits)) (by omega) (by omega)
 obtain⟨x4,e4,tb,bl,rfl,hb,nb,rbl,rt⟩:=aTv h r hB (k.fdiv (2 ^ min 4 IntKind.i64.bits)) hm
 obtain⟨x5,e5,w,rfl,rw5⟩:=x25 hT h hq (k.fdiv (2 ^ min 4 IntKind.i64.bits)) hm
 have fA:Flat a.eU:=by rw[hV];exact bR _
 have fT:Flat tb.jQ:=by rw[hb];exact dP _
 have k50:=kx e1 (oW B6 (.v _) (.v _)) (vJ b)
 have k37:=kx e2 (bH B6 (.v _)) ((Ah a).2 fA)
 have k182:=kx e3 (bH (.v _) (.v _)) ((nF sl).2 ⟨(Ai _).1 c1.fl,(Ai _).1 c2.fl⟩)
 have k183:=kx e4 (bH B6 (.v _)) ((kK tb).2 fT)
 have k25:=kx e5 (bH hf (.v _)) (.agg _ (jT w))
 have y1:pH { Ao with kind:=1 }:=⟨z.Hp,z.c1,z.c2,z.YG,z.rb,z.ra,z.rs,z.rt,z.rv⟩
 have y2:pH { Ao with kind:=2,block:=b }:=⟨z.Hp,z.c1,z.c2,z.YG,rb.toRB,z.ra,z.rs,z.rt,z.rv⟩
 have y3:pH { Ao with kind:=3,Hp:=a }:=⟨⟨some V,hV,nV⟩,z.c1,z.c2,z.YG,z.rb,⟨ra1,ra2⟩,z.rs,z.rt,z.rv⟩
 have y4:pH { Ao with kind:=4,oX:=sl }:=⟨z.Hp,c1,c2,z.YG,z.rb,z.ra,⟨s1,s2,s3,s4⟩,z.rt,z.rv⟩
 have y5:pH { Ao with kind:=5,table:=tb }:=⟨z.Hp,z.c1,z.c2,⟨some bl,hb,nb,rbl⟩,z.rb,z.ra,z.rs,rt,z.rv⟩
 have y6:pH { Ao with kind:=6,verdict:=w }:=⟨z.Hp,z.c1,z.c2,z.YG,z.rb,z.ra,z.rs,z.rt,rw5⟩
 rw[cL Tryz.func146 rfl aOC rfl];by_cases c0:((k).tmod 16)=0
 ·simp only[Z8,seval,bt c0];exact⟨_,fK rfl (by simp only[E8,seval]<;>rfl) (by simp only[Z8,seval]<;>rfl) y1.flat,_,rfl,y1,fun h=>absurd (show (1:Int)=2 from h) (by decide)⟩
 by_cases c1:((k).tmod 16)=1
 ·simp only[Z8,seval,bf c0,bt c1];exact⟨_,fK rfl (by simp only[E8,seval]<;>rfl) (by simp only[Z8,seval]<;>rfl) y1.flat,_,rfl,y1,fun h=>absurd (show (1:Int)=2 from h) (by decide)⟩
 by_cases c2:((k).tmod 16)=2
 ·simp only[Z8,seval,bf c0,bf c1,bt c2];exact⟨_,fK rfl (by simp only[E8,seval]<;>rfl) (by simp only[Z8,seval]<;>rfl) y1.flat,_,rfl,y1,fun h=>absurd (show (1:Int)=2 from h) (by decide)⟩
 by_cases c3:((k).tmod 16)=3
 ·simp only[Z8,seval,bf c0,bf c1,bf c2,bt c3,k50];exact⟨_,fK rfl (by simp only[E8,seval]<;>rfl) (by simp only[Z8,seval]<;>rfl) y2.flat,_,rfl,y2,fun _=>rb.rt⟩
 by_cases c4:((k).tmod 16)=4
 ·simp only[Z8,seval,bf c0,bf c1,bf c2,bf c3,bt c4,k50];exact⟨_,fK rfl (by simp only[E8,seval]<;>rfl) (by simp only[Z8,seval]<;>rfl) y2.flat,_,rfl,y2,fun _=>rb.rt⟩
 by_cases c5:((k).tmod 16)=5
 ·simp only[Z8,seval,bf c0,bf c1,bf c2,bf c3,bf c4,bt c5,k50];exact⟨_,fK rfl (by simp only[E8,seval]<;>rfl) (by simp only[Z8,seval]<;>rfl) y2.flat,_,rfl,y2,fun _=>rb.rt⟩
 by_cases c6:((k).tmod 16)=6
 ·simp only[Z8,seval,bf c0,bf c1,bf c2,bf c3,bf c4,bf c5,bt c6,k50];exact⟨_,fK rfl (by simp only[E8,seval]<;>rfl) (by simp only[Z8,seval]<;>rfl) y2.flat,_,rfl,y2,fun _=>rb.rt⟩
 by_cases c7:((k).tmod 16)=7
 ·simp only[Z8,seval,bf c0,bf c1,bf c2,bf c3,bf c4,bf c5,bf c6,bt c7,k50];exact⟨_,fK rfl (by simp only[E8,seval]<;>rfl) (by simp only[Z8,seval]<;>rfl) y2.flat,_,rfl,y2,fun _=>rb.rt⟩
 by_cases c8:((k).tmod 16)=8
 ·simp only[Z8,seval,bf c0,bf c1,bf c2,bf c3,bf c4,bf c5,bf c6,bf c7,bt c8,k37];exact⟨_,fK rfl (by simp only[E8,seval]<;>rfl) (by simp only[Z8,seval]<;>rfl) y3.flat,_,rfl,y3,fun h=>absurd (show (3:Int)=2 from h) (by decide)⟩
 by_cases c9:((k).tmod 16)=9
 ·simp only[Z8,seval,bf c0,bf c1,bf c2,bf c3,bf c4,bf c5,bf c6,bf c7,bf c8,bt c9,k37];exact⟨_,fK rfl (by simp only[E8,seval]<;>rfl) (by simp only[Z8,seval]<;>rfl) y3.flat,_,rfl,y3,fun h=>absurd (show (3:Int)=2 from h) (by decide)⟩
 by_cases c10:((k).tmod 16)=10
 ·simp only[Z8,seval,bf c0,bf c1,bf c2,bf c3,bf c4,bf c5,bf c6,bf c7,bf c8,bf c9,bt c10,k37];exact⟨_,fK rfl (by simp only[E8,seval]<;>rfl) (by simp only[Z8,seval]<;>rfl) y3.flat,_,rfl,y3,fun h=>absurd (show (3:Int)=2 from h) (by decide)⟩
 by_cases c11:((k).tmod 16)=11
 ·simp only[Z8,seval,bf c0,bf c1,bf c2,bf c3,bf c4,bf c5,bf c6,bf c7,bf c8,bf c9,bf c10,bt c11,h.sd.jQ,k182];exact⟨_,fK rfl (by simp only[E8,seval]<;>rfl) (by simp only[Z8,seval]<;>rfl) y4.flat,_,rfl,y4,fun h=>absurd (show (4:Int)=2 from h) (by decide)⟩
 by_cases c12:((k).tmod 16)=12
 ·simp only[Z8,seval,bf c0,bf c1,bf c2,bf c3,bf c4,bf c5,bf c6,bf c7,bf c8,bf c9,bf c10,bf c11,bt c12,k183];exact⟨_,fK rfl (by simp only[E8,seval]<;>rfl) (by simp only[Z8,seval]<;>rfl) y5.flat,_,rfl,y5,fun h=>absurd (show (5:Int)=2 from h) (by decide)⟩
 simp only[Z8,seval,bf c0,bf c1,bf c2,bf c3,bf c4,bf c5,bf c6,bf c7,bf c8,bf c9,bf c10,bf c11,bf c12,k25];exact⟨_,fK rfl (by simp only[E8,seval]<;>rfl) (by simp only[Z8,seval]<;>rfl) y6.flat,_,rfl,y6,fun h=>absurd (show (6:Int)=2 from h) (by decide)⟩
theorem aT6 (l:List Int) (hl:(l.length:Int)<=9223372036854775807):∃x,aC Tryz.prog 101 [.sl l.length (aI l)]=some x/\∃(c:Config) (b:List Int),x=.agg (bU c)/\Vy c b:=by
 have k0:=Pz l hl 0 (by omega) (by omega)
 obtain⟨a0,b0⟩:=eB (n:=8) (Py l hl 0 (by omega) (by omega)).2.1 (by omega)
 obtain⟨x0,h0⟩:∃x,(JR l 0).tmod 8=x:=⟨_,rfl⟩
 rw[h0] at a0 b0;have k1:=Pz l hl 1 (by omega) (by omega)
 obtain⟨a1,b1⟩:=eB (n:=4) (Py l hl 1 (by omega) (by omega)).2.1 (by omega)
 obtain⟨x1,h1⟩:∃x,(JR l 1).tmod 4=x:=⟨_,rfl⟩
 rw[h1] at a1 b1;have k2:=Pz l hl 2 (by omega) (by omega)
 obtain⟨a2,b2⟩:=eB (n:=4) (Py l hl 2 (by omega) (by omega)).2.1 (by omega)
 obtain⟨x2,h2⟩:∃x,(JR l 2).tmod 4=x:=⟨_,rfl⟩
 rw[h2] at a2 b2;have k3:=Pz l hl 3 (by omega) (by omega)
 obtain⟨a3,b3⟩:=eB (n:=4) (Py l hl 3 (by omega) (by omega)).2.1 (by omega)
 obtain⟨x3,h3⟩:∃x,(JR l 3).tmod 4=x:=⟨_,rfl⟩
 rw[h3] at a3 b3;have k4:=Pz l hl 4 (by omega) (by omega)
 obtain⟨a4,b4⟩:=eB (n:=4) (Py l hl 4 (by omega) (by omega)).2.1 (by omega)
 obtain⟨x4,h4⟩:∃x,(JR l 4).tmod 4=x:=⟨_,rfl⟩
 rw[h4] at a4 b4;have k5:=Pz l hl 5 (by omega) (by omega)
 obtain⟨a5,b5⟩:=eB (n:=5) (Py l hl 5 (by omega) (by omega)).2.1 (by omega)
 obtain⟨x5,h5⟩:∃x,(JR l 5).tmod 5=x:=⟨_,rfl⟩
 rw[h5] at a5 b5;have k6:=Pz l hl 6 (by omega) (by omega)
 obtain⟨a6,b6⟩:=eB (n:=4) (Py l hl 6 (by omega) (by omega)).2.1 (by omega)
 obtain⟨x6,h6⟩:∃x,(JR l 6).tmod 4=x:=⟨_,rfl⟩
 rw[h6] at a6 b6;have k7:=Pz l hl 7 (by omega) (by omega)
 obtain⟨a7,b7⟩:=eB (n:=3) (Py l hl 7 (by omega) (by omega)).2.1 (by omega)
 obtain⟨x7,h7⟩:∃x,(JR l 7).tmod 3=x:=⟨_,rfl⟩
 rw[h7] at a7 b7;have k8:=Pz l hl 8 (by omega) (by omega)
 obtain⟨a8,b8⟩:=eB (n:=2) (Py l hl 8 (by omega) (by omega)).2.1 (by omega)
 obtain⟨x8,h8⟩:∃x,(JR l 8).tmod 2=x:=⟨_,rfl⟩
 rw[h8] at a8 b8;have k9:=Pz l hl 9 (by omega) (by omega)
 obtain⟨a9,b9⟩:=eB (n:=5) (Py l hl 9 (by omega) (by omega)).2.1 (by omega)
 obtain⟨x9,h9⟩:∃x,(JR l 9).tmod 5=x:=⟨_,rfl⟩
 rw[h9] at a9 b9;have w0:IntKind.i64.wrap (6+x0)=6+x0:=pM _ (by omega) (by omega)
 have w3:IntKind.i64.wrap (1+x3)=1+x3:=pM _ (by omega) (by omega)
 have w5:IntKind.i64.wrap (1+x5)=1+x5:=pM _ (by omega) (by omega)
 have w5':IntKind.u64.wrap (1+x5)=1+x5:=wrap_u64 _ (by omega) (by omega)
 have w6:IntKind.i64.wrap (1+x6)=1+x6:=pM _ (by omega) (by omega)
 have w6':IntKind.u64.wrap (1+x6)=1+x6:=wrap_u64 _ (by omega) (by omega)
 have w9:IntKind.i64.wrap (2+x9)=2+x9:=pM _ (by omega) (by omega)
 have g7:=nU (l:=[0,40,100]) a7 (by show x7<((3:Nat):Int);omega)
 obtain⟨bp,hbp⟩:∃y,it [0,40,100] x7=y:=⟨_,rfl⟩
 have hbp1:0<=bp/\bp<=100:=by
  rcases (by omega:x7=0\/x7=1\/x7=2) with e|e|e<;>(rw[e] at hbp;rw[<- hbp];decide)
 have w7:IntKind.u64.wrap bp=bp:=wrap_u64 _ (by omega) (by omega)
 rw[cL Tryz.func101 rfl aOD rfl];simp only[Z8,seval,qG,qI,k0,k1,k2,k3,k4,k5,k6,k7,k8,h0,h1,h2,h3,h4,h5,h6,h7,h8,w0,w3,w5,w5',w6,w6',a7,b7,g7,hbp,w7,rG,Nat.reduceLT,Vt];have n9:(2+x9).toNat<=6:=by omega
 refine cB (fun m st=>∃(j:Nat) (kF:lN) (sp bq:Int) (tt:rC) (X:AV) (b:List Int),(st.env 0=.sl l.length (aI l)/\st.env 2=.ptr 2 0 0/\st.heap 2 0=some (.cells (bU oA))/\st.env 3=.ptr 3 0 0/\st.heap 3 0=some (.cells (bU ⟨kF,sp,bq,tt,mkRoot 1,X⟩))/\st.env 4=.v (.int .i64 j))/\(kF=⟨6+x0,x1,x2,1+x3,x4,1+x5⟩/\sp=1+x6/\bq=bp)/\((X=.v (.slice none 0 0)/\b=[])\/∃g,X=.own 64 g/\g<st.aK 64/\st.heap 64 g=some (.row 23 1 b.length (bD b)))/\(∀y∈b,0<=y/\y<=1000)/\b.length=j/\j<=(2+x9).toNat/\m=(2+x9).toNat-j)
  (fun e st=>e=.exit 0/\∃(kF:lN) (sp bq:Int) (tt:rC) (g:Nat) (b:List Int),(st.env 2=.ptr 2 0 0/\st.heap 2 0=some (.cells (bU oA))/\st.env 3=.ptr 3 0 0/\st.heap 3 0=some (.cells (bU ⟨kF,sp,bq,tt,mkRoot 1,.own 64 g⟩))/\st.heap 64 g=some (.row 23 1 b.length (bD b)))/\(kF=⟨6+x0,x1,x2,1+x3,x4,1+x5⟩/\sp=1+x6/\bq=bp)/\(∀y∈b,0<=y/\y<=1000)/\1<=b.length/\b.length<=6) (2+x9).toNat ?step ?start ?rest
 case step =>
  rintro m st ⟨j,kF,sp,bq,tt,X,b,hI,hC,hX,hb,hj,hjn,hm⟩
  by_cases aZ:(j:Int)<2+x9
  ·have q0:(0:Int)<=j:=by omega
   have hw:IntKind.i64.wrap ((j:Int)+1)=((j+1:Nat):Int):=by rw[pM _ (by omega) (by omega)];omega
   obtain⟨jj,hjj⟩:∃jj:Int,jj=10+(j:Int):=⟨_,rfl⟩
   have K6:IntKind.i64.wrap (10+(j:Int))=jj:=by rw[pM _ (by omega) (by omega),hjj]
   have kj:=Pz l hl jj (by omega) (by omega)
   obtain⟨aj,bj⟩:=eB (n:=40) (Py l hl jj (by omega) (by omega)).2.1 (by omega)
   obtain⟨y,hy⟩:∃y,(JR l jj).tmod 40=y:=⟨_,rfl⟩
   rw[hy] at aj bj;have wy:IntKind.u64.wrap y=y:=wrap_u64 _ (by omega) (by omega)
   have nL:(b.length:Int)<1000000:=by omega
   have EY:∀z∈b++[y],0<=z/\z<=1000:=fun z hz=>(List.mem_append.1 hz).elim (hb z) fun e=>by rw[List.mem_singleton] at e;rw[e];omega
   have Sz:(b++[y]).length=j+1:=by rw[List.length_append,List.length_cons,List.length_nil];omega
   rcases hX with ⟨rfl,rfl⟩|⟨g,rfl,hg,hh⟩
   ·apply oN ((2+x9).toNat-(j+1))
    ·simp only[Z8,seval,hI,k9,h9,w9,aZ,K6,kj,hy,wy,hw];rfl
    ·exact⟨j+1,_,_,_,_,_,[]++[y],⟨by simp only[E8,seval,hI],by simp only[E8,seval,hI],by simp only[E8,seval,hI],by simp only[E8,seval,hI],by simp only[E8,seval,hI]<;>rfl,by simp only[E8,seval]⟩,hC,.inr ⟨_,rfl,by simp only[E8,seval]<;>omega,by simp only[E8,seval]<;>rfl⟩,EY,Sz,by omega,rfl⟩
   ·have wB:(g=st.aK 64)=False:=eq_false (by omega)
    apply oN ((2+x9).toNat-(j+1))
    ·simp only[Z8,seval,hI,hh,wB,k9,h9,w9,aZ,K6,kj,hy,wy,hw,yX _ _ _ _ nL];rfl
    ·exact⟨j+1,_,_,_,_,_,b++[y],⟨by simp only[E8,seval,hI],by simp only[E8,seval,hI],by simp only[E8,seval,hI],by simp only[E8,seval,hI],by simp only[E8,seval,hI]<;>rfl,by simp only[E8,seval]⟩,hC,.inr ⟨_,rfl,by simp only[E8,seval]<;>omega,by simp only[E8,seval]<;>rfl⟩,EY,Sz,by omega,rfl⟩
  ·rcases hX with ⟨rfl,rfl⟩|⟨g,rfl,hg,hh⟩
   ·simp at hj;omega
   ·apply oT (.exit 0)
    ·simp only[Z8,seval,hI,k9,h9,w9,aZ];rfl
    ·exact⟨rfl,_,_,_,_,g,b,⟨by simp only[E8,seval,hI],by simp only[E8,seval,hI],by simp only[E8,seval,hI],by simp only[E8,seval,hI]<;>rfl,by simp only[E8,seval,hh]⟩,hC,hb,by omega,by omega⟩
 case start=>exact⟨0,_,_,_,_,_,[],by and_intros<;>(simp only[E8,seval]<;>rfl),⟨rfl,rfl,rfl⟩,.inl ⟨rfl,rfl⟩,by simp,rfl,by omega,by omega⟩
 case rest =>
  rintro e st ⟨rfl,kF,sp,bq,tt,g,b,hI,⟨rfl,rfl,rfl⟩,hb,Sz,I9⟩
  simp only[Z8,seval,hI];exact⟨_,by apply dY;rfl;all_goals simp only[aJ,Z8,seval,hI,bQ,BA,bG,vZ,dN]<;>rfl,⟨⟨6+x0,x1,x2,1+x3,x4,1+x5⟩,1+x6,bq,tt,mkRoot 1,ov bD (some b)⟩,b,rfl,⟨rfl,by omega,hb,by dsimp only;omega,by dsimp only;omega,by dsimp only;omega,by dsimp only;omega,by dsimp only;omega,by dsimp only;omega,by dsimp only;omega,by dsimp only;omega,rfl,by dsimp only;omega⟩⟩
structure SB (a r:List Node):Prop where
 WB:r.map (·.block)=a.map (·.block)
 up:r.map (·.up)=a.map (·.up)
theorem SB.refl (a:List Node):SB a a:=⟨rfl,rfl⟩
theorem SB.trans {a b c:List Node} (h:SB a b) (g:SB b c):SB a c:=⟨g.WB.trans h.WB,g.up.trans h.up⟩
theorem SB.len {a r:List Node} (h:SB a r):r.length=a.length:=by have:=congrArg List.length h.WB;simpa using this
theorem SB.block {a r:List Node} (h:SB a r) {j:Int} (j1:j.toNat<a.length):(nd r j).block=(nd a j).block:=by
 have h2:j.toNat<r.length:=by rw[h.len];exact j1
 have:=congrArg (fun l:List Block=>l[j.toNat]?) h.WB
 simpa [nd,j1,h2] using this
theorem SB.upE {a r:List Node} (h:SB a r) {j:Int} (j1:j.toNat<a.length):(nd r j).up=(nd a j).up:=by
 have h2:j.toNat<r.length:=by rw[h.len];exact j1
 have:=congrArg (fun l:List Int=>l[j.toNat]?) h.up
 simpa [nd,j1,h2] using this
theorem IK (l:List Node) (x:cJ):aP l x=match (l.map (·.block)).findIdx? (fun b=>decide (b.root=x)) with
 | some k=>(k:Int)
 | none=>-1:=by
 unfold aP;rw[List.findIdx?_map];rfl
theorem SB.aP {a r:List Node} (h:SB a r) (x:cJ):aP r x=aP a x:=by rw[IK,IK,h.WB]
theorem aAJ (ns:List Node) (i to:Int):SB ns (setAt ns i to):=by
 have key:∀ {β:Type} (f:Node->β),(∀n s,f (Zw n s)=f n)->(setAt ns i to).map f=ns.map f:=by
  intro β f hf;unfold setAt;rw[List.map_set];apply List.ext_getElem (by simp)
  intro j h1 h2;rw[List.getElem_set];split
  ·rename_i e;have h3:j<ns.length:=by simpa using h2
   subst e;simp[hf,nd,h3]
  ·rfl
 exact⟨key _ fun _ _=>rfl,key _ fun _ _=>rfl⟩
theorem KT {to never:Int}:∀(l:List Int) (ns r:List Node),HP to never l ns=some r->SB ns r
 | [],ns,r,h=>by simp only[HP,Option.some.injEq] at h;rw[h];exact SB.refl _
 | i :: l,ns,r,h=>by
   simp only[HP] at h;split at h
   ·cases h
   ·exact (aAJ ns i to).trans (KT l _ _ h)
def RA (ns:List Node) (x:AV):Prop:=(∃e:Int,e≠0/\x=.dX [.agg [.v (.slice none 0 0)],.v (.int .i64 e)])\/∃r,SB ns r/\x=.dX [.agg (cU ⟨r⟩),.v (.int .i64 0)]
theorem RA.err (ns:List Node) {e:Int} (h:e≠0):RA ns (EW e):=.inl ⟨e,h,rfl⟩
theorem aID (ns:List Node) (i:Int):RA ns (W4 ns i):=by
 unfold W4;split
 ·unfold stA;split
  ·exact .err _ (by decide)
  ·rename_i r hr;exact .inr ⟨r,KT _ _ _ hr,rfl⟩
 ·exact .err _ (by decide)
theorem aAK (ns:List Node) (i:Int):RA ns (W5 ns i):=by
 unfold W5;split
 ·unfold stA;split
  ·exact .err _ (by decide)
  ·rename_i r hr;exact .inr ⟨r,KT _ _ _ hr,rfl⟩
 ·exact .err _ (by decide)
theorem RA.of {a b:List Node} (h:SB a b) {x:AV} (g:RA b x):RA a x:=g.imp id fun ⟨r,h1,h2⟩=>⟨r,h.trans h1,h2⟩
theorem aIE (ns:List Node) (i:Int) (v:gO) (l:List Int):RA ns (XI ns i v l):=by
 unfold XI;split
 ·exact .err _ (by decide)
 split
 ·exact aID ns i
 split
 ·unfold Y9;split
  ·exact .err _ (by decide)
  split
  ·split
   ·exact .err _ (by decide)
   ·rename_i r hr;exact .of (KT _ _ _ hr) (aAK _ _)
  ·exact aAK _ _
 split
 ·exact .inr ⟨ns,SB.refl ns,rfl⟩
 ·exact .err _ (by decide)
theorem GI.tree {s:aO} {v:SV} {q:Int} (h:GI s v q) {r:List Node} (hs:SB v.ns r):GI { s with tree:=⟨.sl r.length (cD r)⟩} { v with ns:=r } q:=by
 have hl:=hs.len
 have hp:=h.pos
 refine⟨⟨h.sd.jQ,h.sd.dO,h.sd.gW,h.sd.early,h.sd.bV,rfl,h.sd.tables,h.sd.eV,h.sd.tB,h.sd.nB,h.sd.nL,h.sd.nQ,h.sd.nE,h.sd.nO,h.sd.nT,by rw[hl];exact h.sd.nn⟩,fun i i0 i1=>?_, ?_,by show 0<r.length;omega,by rw[hl];exact h.nl,h.XS,h.rD,h.QF,h.nB,h.nO,h.QG,h.nE,h.WG,h.nT,h.XT,h.nQ,h.Z6, ?_⟩
 ·have i1:i<(r.length:Int):=i1
  show 0<=(nd r i).up/\(nd r i).up<i
  rw[hs.upE (by omega)];exact h.up i i0 (by omega)
 ·show (nd r 0).up=-1
  rw[hs.upE (by show (0:Nat)<_;omega)];exact h.PI
 ·show 0<=aP r s.bO.gX.root
  rw[hs.aP];exact h.gX
theorem RG.tree {s:aO} {v:SV} (h:RG s v) {r:List Node} (hs:SB v.ns r) (x:Hd):RG { s with tree:=x } { v with ns:=r } :=
 ⟨h.now,h.j,h.f,fun n hn=>by
  have:n.block∈r.map (·.block):=List.mem_map.2 ⟨n,hn,rfl⟩
  rw[hs.WB] at this;obtain⟨a,ha,e⟩:=List.mem_map.1 this
  rw[<- e];exact h.nd a ha,h.or,fun n hn=>by
  have:n.block∈r.map (·.block):=List.mem_map.2 ⟨n,hn,rfl⟩
  rw[hs.WB] at this;obtain⟨a,ha,e⟩:=List.mem_map.1 this
  rw[<- e];exact h.rt a ha,h.fe,by
  have e:=congrArg (List.map fun b:Block=>b.root) hs.WB
  rw[List.map_map,List.map_map] at e;show (r.map ((fun b:Block=>b.root) ∘ fun n=>n.block)).Nodup
  rw[e];exact h.ds,h.tb,⟨h.ne.q,h.ne.e,h.ne.o,h.ne.t,h.ne.ea,h.ne.tb⟩⟩
structure TQ (Q:List Request) (tag:Int):Prop where
 pos:1<=tag
 all:∀r∈Q,1<=r.tagged.tag/\r.tagged.tag<tag/\r.due=0
 asc:Q.Pairwise fun a b=>a.tagged.tag<b.tagged.tag
structure TR (R:List Request) (tag:Int):Prop where
 all:∀r∈R,r.tagged.tag<tag
 asc:R.Pairwise fun a b=>¬jA b a
def YM (ns:List Node) (l:List Request):Prop:=∀r∈l,0<=aP ns r.block
theorem TQ.sub {P Q:List Request} {tag:Int} (h:TQ Q tag) (s:P.Sublist Q):TQ P tag:=⟨h.pos,fun r hr=>h.all r (s.subset hr),h.asc.sublist s⟩
theorem TR.sub {P Q:List Request} {tag:Int} (h:TR Q tag) (s:P.Sublist Q):TR P tag:=⟨fun r hr=>h.all r (s.subset hr),h.asc.sublist s⟩
theorem TR.mono {Q:List Request} {t t':Int} (h:TR Q t) (l:t<=t'):TR Q t':=⟨fun r hr=>by have:=h.all r hr;omega,h.asc⟩
theorem YM.sub {ns:List Node} {P Q:List Request} (h:YM ns Q) (s:P.Sublist Q):YM ns P:=fun r hr=>h r (s.subset hr)
theorem TQ.app {Q:List Request} {tag:Int} (h:TQ Q tag) (b:cJ) (n:Int):TQ (Q++[⟨⟨tag⟩,b,n,0⟩]) (tag+1):=by
 refine⟨by have:=h.pos;omega,fun r hr=>?_,List.pairwise_append.2 ⟨h.asc,List.pairwise_singleton ..,fun a ha b hb=>?_⟩⟩
 ·rcases List.mem_append.1 hr with hr|hr
  ·obtain⟨h1,h2,h3⟩:=h.all r hr;exact⟨h1,by omega,h3⟩
  ·rw[List.mem_singleton] at hr;subst hr;exact⟨h.pos,by show tag<tag+1;omega,rfl⟩
 ·rw[List.mem_singleton] at hb;subst hb;exact (h.all a ha).2.1
theorem YM.app {ns:List Node} {Q:List Request} (h:YM ns Q) {x:Request} (hx:0<=aP ns x.block):YM ns (Q++[x]):=fun r hr=>by
 rcases List.mem_append.1 hr with hr|hr
 ·exact h r hr
 ·rw[List.mem_singleton] at hr;subst hr;exact hx
theorem aOE {x:Int} (h1:1<=x) (h2:x<=1000000):IntKind.u64.wrap (x+1)=x+1:=wrap_u64 _ (by omega) (by omega)
theorem Qu (ns:List Node) (now:Int):∀(l:List Request) (a:(Option (List Request) × Int) × List Request),TQ (ol a.1.1) a.1.2->YM ns (ol a.1.1)->a.1.2+l.length<=1000000 ->
 TQ (ol (Aq ns now a l).1.1) (Aq ns now a l).1.2/\YM ns (ol (Aq ns now a l).1.1)/\a.1.2<=(Aq ns now a l).1.2/\(Aq ns now a l).1.2<=a.1.2+l.length/\(Aq ns now a l).2=a.2++l.filter fun r=>decide (now<r.due)
 | [],a,h,hi,hb=>⟨h,hi,by show a.1.2<=a.1.2;omega,by show a.1.2<=a.1.2+((0:Nat):Int);omega,(List.append_nil _).symm⟩
 | r :: l,a,h,hi,hb=>by
   have hp:=h.pos
   rw[List.length_cons] at hb;have hw:=aOE hp (by omega)
   have e0:Aq ns now a (r :: l)=Aq ns now (Oc ns now a r) l:=rfl
   rw[e0,List.length_cons];by_cases g1:now<r.due
   ·have e1:Oc ns now a r=(a.1,a.2++[r]):=if_pos g1
    rw[e1];obtain⟨h1,h2,h3,h4,h5⟩:=Qu ns now l (a.1,a.2++[r]) h hi (by dsimp only;omega)
    refine⟨h1,h2,h3,by dsimp only at h4;omega, ?_⟩
    rw[h5,List.filter_cons,if_pos (decide_eq_true g1)];simp
   ·rw[List.filter_cons,if_neg (by simpa using g1)]
    by_cases g2:uP ns r.block
    ·have e1:Oc ns now a r=((some (ol a.1.1++[⟨⟨a.1.2⟩,r.block,r.tries,0⟩]),IntKind.u64.wrap (a.1.2+1)),a.2):=(if_neg g1).trans (if_pos g2)
     rw[e1,hw];obtain⟨h1,h2,h3,h4,h5⟩:=Qu ns now l ((some (ol a.1.1++[(⟨⟨a.1.2⟩,r.block,r.tries,0⟩:Request)]),a.1.2+1),a.2) (h.app _ _) (hi.app g2.1) (by dsimp only;omega)
     exact⟨h1,h2,by dsimp only at h3;omega,by dsimp only at h4;omega,h5⟩
    ·have e1:Oc ns now a r=a:=(if_neg g1).trans (if_neg g2)
     rw[e1];obtain⟨h1,h2,h3,h4,h5⟩:=Qu ns now l a h hi (by omega)
     exact⟨h1,h2,h3,by omega,h5⟩
theorem KU (ns:List Node):∀(l:List cJ) (a:Option (List Request) × Int),TQ (ol a.1) a.2->YM ns (ol a.1)->a.2+l.length<=1000000 ->
 TQ (ol (Po ns a l).1) (Po ns a l).2/\YM ns (ol (Po ns a l).1)/\a.2<=(Po ns a l).2/\(Po ns a l).2<=a.2+l.length
 | [],a,h,hi,hb=>⟨h,hi,by show a.2<=a.2;omega,by show a.2<=a.2+((0:Nat):Int);omega⟩
 | r :: l,a,h,hi,hb=>by
   have hp:=h.pos
   rw[List.length_cons] at hb;have hw:=aOE hp (by omega)
   have e0:Po ns a (r :: l)=Po ns (E0 ns a r) l:=rfl
   rw[e0,List.length_cons];by_cases g2:uP ns r
   ·have e1:E0 ns a r=(some (ol a.1++[⟨⟨a.2⟩,r,0,0⟩]),IntKind.u64.wrap (a.2+1)):=if_pos g2
    rw[e1,hw];obtain⟨h1,h2,h3,h4⟩:=KU ns l (some (ol a.1++[(⟨⟨a.2⟩,r,0,0⟩:Request)]),a.2+1) (h.app _ _) (hi.app g2.1) (by dsimp only;omega)
    exact⟨h1,h2,by dsimp only at h3;omega,by dsimp only at h4;omega⟩
   ·have e1:E0 ns a r=a:=if_neg g2
    rw[e1];obtain⟨h1,h2,h3,h4⟩:=KU ns l a h hi (by omega)
    exact⟨h1,h2,h3,by omega⟩
theorem E4 (ns:List Node) (now:Int):∀(l:List Request) (a:(Option (List Request) × Int) × List Request),a.1.1≠some []->(Aq ns now a l).1.1≠some []
 | [],a,h=>h
 | r :: l,a,h=>by
   have e0:Aq ns now a (r :: l)=Aq ns now (Oc ns now a r) l:=rfl
   rw[e0];refine E4 ns now l _ ?_
   unfold Oc;split
   ·exact h
   split
   ·simp
   ·exact h
theorem aAL (ns:List Node):∀(l:List cJ) (a:Option (List Request) × Int),a.1≠some []->(Po ns a l).1≠some []
 | [],a,h=>h
 | r :: l,a,h=>by
   have e0:Po ns a (r :: l)=Po ns (E0 ns a r) l:=rfl
   rw[e0];refine aAL ns l _ ?_
   unfold E0;split
   ·simp
   ·exact h
noncomputable def KV:List Request->Request->List Request->List Request
 | [],x,B=>x :: B
 | y :: A,x,B=>if jA x y then KV A x (y :: B) else (y :: A).reverse++x :: B
theorem IL:∀(A:List Request) (x:Request) (B:List Request),wG A.length (A.reverse++x :: B)=KV A x B
 | [],x,B=>rfl
 | y :: A,x,B=>by
   have e1:gx bB ((y :: A).reverse++x :: B) ((A.length+1:Nat):Int)=x:=by
    unfold gx;rw[Int.toNat_natCast,List.reverse_cons,List.append_assoc,List.getD_eq_getElem?_getD,List.getElem?_append_right (by simp),List.length_reverse]
    simp
   have e2:gx bB ((y :: A).reverse++x :: B) (A.length:Int)=y:=by
    unfold gx;rw[Int.toNat_natCast,List.reverse_cons,List.append_assoc,List.getD_eq_getElem?_getD,List.getElem?_append_right (by simp),List.length_reverse]
    simp
   have e3:(((y :: A).reverse++x :: B).set (A.length+1) y).set A.length x=A.reverse++x :: y :: B:=by
    rw[List.reverse_cons,List.append_assoc,List.set_append_right _ _ (by simp),List.length_reverse,List.set_append_right _ _ (by simp),List.length_reverse]
    simp
   rw[List.length_cons];have e0:∀l,wG (A.length+1) l=if jA (gx bB l ((A.length+1:Nat):Int)) (gx bB l (A.length:Int)) then wG A.length ((l.set (A.length+1) (gx bB l (A.length:Int))).set A.length (gx bB l ((A.length+1:Nat):Int))) else l:=fun l=>rfl
   rw[e0,e1,e2,e3];unfold KV;split
   ·exact IL A x (y :: B)
   ·rfl
theorem BB {r:Request}:∀(A:List Request) (x:Request) (B:List Request),r∈KV A x B↔r∈A\/r=x\/r∈B
 | [],x,B=>by simp[KV]
 | y :: A,x,B=>by
   unfold KV;split
   ·rw[BB A x (y :: B)];simp only[List.mem_cons];constructor
    ·rintro (h|h|h|h)
     ·exact .inl (.inr h)
     ·exact .inr (.inl h)
     ·exact .inl (.inl h)
     ·exact .inr (.inr h)
    ·rintro ((h|h)|h|h)
     ·exact .inr (.inr (.inl h))
     ·exact .inl h
     ·exact .inr (.inl h)
     ·exact .inr (.inr (.inr h))
   ·simp[or_assoc,or_left_comm]
theorem Wa {a b:Request} (h:jA a b):¬jA b a:=by unfold jA at *;omega
theorem aAM {a b c:Request} (h1:¬jA b a) (h2:¬jA c b):¬jA c a:=by unfold jA at *;omega
theorem RC:∀(A:List Request) (x:Request) (B:List Request),(A.reverse++B).Pairwise (fun a b=>¬jA b a)->(∀b∈B,jA x b)->(KV A x B).Pairwise fun a b=>¬jA b a
 | [],x,B,h,hb=>List.pairwise_cons.2 ⟨fun b m=>Wa (hb b m),h⟩
 | y :: A,x,B,h,hb=>by
   unfold KV;have h0:=h
   rw[List.reverse_cons,List.append_assoc] at h;split
   ·rename_i g;exact RC A x (y :: B) h fun b m=>(List.mem_cons.1 m).elim (fun e=>by rw[e];exact g) (hb b)
   ·rename_i g;obtain⟨p1,p2,p3⟩:=List.pairwise_append.1 h0
    refine List.pairwise_append.2 ⟨p1,List.pairwise_cons.2 ⟨fun b m=>Wa (hb b m),p2⟩,fun a ha b m=>?_⟩
    rcases List.mem_cons.1 m with rfl|m
    ·rw[List.reverse_cons,List.mem_append,List.mem_singleton] at ha;rcases ha with ha|rfl
     ·have:=(List.pairwise_append.1 h).2.2 a ha y (by simp)
      exact aAM this g
     ·exact g
    ·exact p3 a ha b m
theorem aAN (R:List Request) (x:Request):wG R.length (R++[x])=KV R.reverse x []:=by
 have:=IL R.reverse x []
 rwa [List.reverse_reverse,List.length_reverse] at this
theorem TR.bub {R:List Request} {tag:Int} (h:TR R tag) {x:Request} (hx:x.tagged.tag<tag):TR (wG R.length (R++[x])) tag:=by
 rw[aAN];refine⟨fun r hr=>?_,RC _ _ _ (by rw[List.reverse_reverse,List.append_nil];exact h.asc) (by simp)⟩
 rcases (BB _ _ _).1 hr with hr|rfl|hr
 ·exact h.all r (List.mem_reverse.1 hr)
 ·exact hx
 ·cases hr
theorem YM.bub {ns:List Node} {R:List Request} (h:YM ns R) {x:Request} (hx:0<=aP ns x.block):YM ns (wG R.length (R++[x])):=by
 rw[aAN];intro r hr;rcases (BB _ _ _).1 hr with hr|rfl|hr
 ·exact h r (List.mem_reverse.1 hr)
 ·exact hx
 ·cases hr
structure TI0 (t:State) (v:SV) (Q R:Option (List Request)) (q m:Int):Prop where
 td:TD t v Q R
 gi:GI t.store v q
 rg:RG t.store v
 cfg:∃b,Vy t.store.cFg b
 tq:TQ (ol Q) t.cV
 tr:TR (ol R) t.cV
 nt:t.cV<=1+m
 lq:((ol Q).length:Int)<=m
 lr:((ol R).length:Int)<=t.store.cFg.kF.lM
 mB:m<=100000
 qn:Q≠some []
 rn:R≠some []
structure TI (t:State) (v:SV) (Q R:Option (List Request)) (q m:Int):Prop extends TI0 t v Q R q m where
 X3:YM v.ns (ol Q)
 X4:YM v.ns (ol R)
theorem TI0.mono {t:State} {v:SV} {Q R:Option (List Request)} {q m q' m':Int} (h:TI0 t v Q R q m) (h1:q<=q') (h2:q'<=900000) (h3:m<=m') (h4:m'<=100000):TI0 t v Q R q' m' :=
 ⟨h.td,h.gi.mono h1 h2,h.rg,h.cfg,h.tq,h.tr,by have:=h.nt;omega,by have:=h.lq;omega,h.lr,h4,h.qn,h.rn⟩
theorem TI.mono {t:State} {v:SV} {Q R:Option (List Request)} {q m q' m':Int} (h:TI t v Q R q m) (h1:q<=q') (h2:q'<=900000) (h3:m<=m') (h4:m'<=100000):TI t v Q R q' m':=⟨h.toTI0.mono h1 h2 h3 h4,h.X3,h.X4⟩
theorem TI0.store {t:State} {v:SV} {Q R:Option (List Request)} {q m:Int} (h:TI0 t v Q R q m) {s':aO} {v':SV} {q':Int} (g:GI s' v' q') (r:RG s' v') (c:s'.cFg=t.store.cFg):TI0 { t with store:=s' } v' Q R q' m :=
 ⟨⟨g.sd,h.td.Cf,h.td.ret,h.td.nQ,h.td.nR⟩,g,r,by show ∃b,Vy s'.cFg b;rw[c];exact h.cfg,h.tq,h.tr,h.nt,h.lq,by show _<=s'.cFg.kF.lM;rw[c];exact h.lr,h.mB,h.qn,h.rn⟩
theorem TI.emit {t:State} {v:SV} {Q R:Option (List Request)} {q m:Int} (h:TI t v Q R q m) (b:Bool) (c:Command):TI { t with Ny:=b,last:=c } v Q R q m :=
 ⟨⟨⟨h.td.sd,h.td.Cf,h.td.ret,h.td.nQ,h.td.nR⟩,h.gi,h.rg,h.cfg,h.tq,h.tr,h.nt,h.lq,h.lr,h.mB,h.qn,h.rn⟩,h.X3,h.X4⟩
theorem TI.halt {t:State} {v:SV} {Q R:Option (List Request)} {q m:Int} (h:TI t v Q R q m) (b:Bool):TI { t with halted:=b } v Q R q m :=
 ⟨⟨⟨h.td.sd,h.td.Cf,h.td.ret,h.td.nQ,h.td.nR⟩,h.gi,h.rg,h.cfg,h.tq,h.tr,h.nt,h.lq,h.lr,h.mB,h.qn,h.rn⟩,h.X3,h.X4⟩
theorem TI.over {t:State} {v:SV} {Q R:Option (List Request)} {q m:Int} (h:TI t v Q R q m) (b:Bool):TI { t with overflow:=b } v Q R q m :=
 ⟨⟨⟨h.td.sd,h.td.Cf,h.td.ret,h.td.nQ,h.td.nR⟩,h.gi,h.rg,h.cfg,h.tq,h.tr,h.nt,h.lq,h.lr,h.mB,h.qn,h.rn⟩,h.X3,h.X4⟩
theorem TI0.aAO {t:State} {v:SV} {Q R:Option (List Request)} {q m:Int} (h:TI0 t v Q R q m):t.store.cFg.kF.lM<=256:=by obtain⟨b,hb⟩:=h.cfg;exact hb.lM.2
theorem TI0.jQ {t:State} {v:SV} {Q R:Option (List Request)} {q m:Int} (h:TI0 t v Q R q m):0<(ol v.B).length/\(ol v.B).length<=64:=by
 obtain⟨b,hb⟩:=h.cfg
 have e:=h.gi.sd.jQ.symm.trans hb.jQ
 have n:=hb.nb
 cases hB:v.B with
 | none=>rw[hB] at e;cases e
 | some l =>
   rw[hB] at e;have e:AV.sl l.length (bD l)=AV.sl b.length (bD b):=e
   injection e with e1 e2
   show 0<l.length/\l.length<=64
   omega
theorem TI0.drop {t:State} {v:SV} {Q R:Option (List Request)} {q m:Int} (h:TI0 t v Q R q m):TI (YI t v Q R) v (nz (pJ v.ns (ol Q))) (nz (pJ v.ns (ol R))) q m:=by
 have s1:(pJ v.ns (ol Q)).Sublist (ol Q):=List.filter_sublist
 have s2:(pJ v.ns (ol R)).Sublist (ol R):=List.filter_sublist
 have l1:=s1.length_le
 have l2:=s2.length_le
 have a1:=h.lq
 have a2:=h.lr
 refine⟨⟨h.td.drp,h.gi,h.rg,h.cfg, ?_, ?_,h.nt, ?_, ?_,h.mB,AM _,AM _⟩, ?_, ?_⟩
 ·rw[oY];exact h.tq.sub s1
 ·rw[oY];exact h.tr.sub s2
 ·rw[oY];omega
 ·rw[oY];show _<=t.store.cFg.kF.lM;omega
 ·rw[oY];intro r hr;exact of_decide_eq_true (List.mem_filter.1 hr).2
 ·rw[oY];intro r hr;exact of_decide_eq_true (List.mem_filter.1 hr).2
theorem TI.due {t:State} {v:SV} {Q R:Option (List Request)} {q m:Int} (h:TI t v Q R q m) (hm:m+256<=100000):TI (aEp t v.ns Q R) v (KS t v.ns Q R).1.1 (nz (KS t v.ns Q R).2) q (m+256):=by
 have a1:=h.lq
 have a2:=h.lr
 have a3:=h.aAO
 have a4:=h.nt
 obtain⟨h1,h2,h3,h4,h5⟩:=Qu v.ns t.store.now (ol R) ((Q,t.cV),[]) h.tq h.X3 (by dsimp only;omega)
 have hl:=QV v.ns t.store.now (ol R) ((Q,t.cV),[])
 rw[List.nil_append] at h5;have e1:Aq v.ns t.store.now ((Q,t.cV),[]) (ol R)=KS t v.ns Q R:=rfl
 rw[e1] at h1 h2 h3 h4 h5 hl;dsimp only at h3 h4 hl
 have s2:(KS t v.ns Q R).2.Sublist (ol R):=by rw[h5];exact List.filter_sublist
 have l2:=s2.length_le
 have Sz:=hl.1
 have:=h.mB
 refine⟨⟨⟨h.td.sd,rfl,rfl,by omega,by rw[oY];omega⟩,h.gi,h.rg,h.cfg,h1, ?_, ?_,by omega, ?_,hm,E4 v.ns t.store.now (ol R) ((Q,t.cV),[]) h.qn,AM _⟩,h2, ?_⟩
 ·rw[oY];exact (h.tr.sub s2).mono h3
 ·show (KS t v.ns Q R).1.2<=_;omega
 ·rw[oY];show _<=t.store.cFg.kF.lM;omega
 ·rw[oY];exact h.X4.sub s2
theorem TI.open {t:State} {v:SV} {Q R:Option (List Request)} {q m:Int} (h:TI t v Q R q m) (L:List cJ) (hL:(L.length:Int)<=100) (hm:m+256<=100000):TI (YJ t (Po v.ns (Q,t.cV) L)) v (Po v.ns (Q,t.cV) L).1 R q (m+256):=by
 have a1:=h.lq
 have a4:=h.nt
 obtain⟨h1,h2,h3,h4⟩:=KU v.ns L (Q,t.cV) h.tq h.X3 (by dsimp only;omega)
 have hl:=E1 v.ns (Q,t.cV) L
 dsimp only at h3 h4 hl
 refine⟨⟨h.td.YJ _ (by omega),h.gi,h.rg,h.cfg,h1,h.tr.mono h3, ?_,by omega,h.lr,hm,aAL v.ns L (Q,t.cV) h.qn,h.rn⟩,h2,h.X4⟩
 show (Po v.ns (Q,t.cV) L).2<=_;omega
theorem TI.aAP {t:State} {v:SV} {Q R:Option (List Request)} {q m:Int} (h:TI t v Q R q m) {r:Request} (hr:r.tagged.tag<t.cV):∃R',TI (Tt t v.ns (ol R) r) v Q R' q m:=by
 unfold Tt;split
 ·exact⟨R,h⟩
 split
 ·exact⟨R,h.over true⟩
 ·rename_i g1 g2;have g1:=Classical.not_not.1 g1
  have hl:(wG (ol R).length (ol R++[FE t r])).length=(ol R).length+1:=by rw[AZ,List.length_append,List.length_cons,List.length_nil]
  have a3:=h.aAO
  refine⟨some (wG (ol R).length (ol R++[FE t r])),⟨⟨h.td.sd,h.td.Cf,rfl,h.td.nQ, ?_⟩,h.gi,h.rg,h.cfg,h.tq,h.tr.bub (x:=FE t r) hr,h.nt,h.lq, ?_,h.mB,h.qn,fun e=>by injection e with e;rw[e] at hl;simp at hl⟩,h.X3,h.X4.bub (x:=FE t r) g1.1⟩
  ·show ((wG (ol R).length (ol R++[FE t r])).length:Int)<_;omega
  ·show ((wG (ol R).length (ol R++[FE t r])).length:Int)<=t.store.cFg.kF.lM;omega
theorem TI.less {t:State} {v:SV} {Q R:Option (List Request)} {q m:Int} (h:TI t v Q R q m) (k:Nat):TI { t with iM:=ov aA (nz ((ol Q).take k++(ol Q).drop (k+1)))} v (nz ((ol Q).take k++(ol Q).drop (k+1))) R q m:=by
 have s:((ol Q).take k++(ol Q).drop (k+1)).Sublist (ol Q):=by rw[<- List.eraseIdx_eq_take_drop_succ];exact List.eraseIdx_sublist ..
 have l1:=s.length_le
 have a1:=h.lq
 have:=h.td.nQ
 exact⟨⟨⟨h.td.sd,rfl,h.td.ret,by rw[oY];omega,h.td.nR⟩,h.gi,h.rg,h.cfg,by rw[oY];exact h.tq.sub s,h.tr,h.nt,by rw[oY];omega,h.lr,h.mB,AM _,h.rn⟩,by rw[oY];exact h.X3.sub s,h.X4⟩
theorem TI.tree {t:State} {v:SV} {Q R:Option (List Request)} {q m:Int} (h:TI t v Q R q m) {r:List Node} (hs:SB v.ns r) (b:cJ):TI { t with store:={ t.store with tree:=⟨.sl r.length (cD r)⟩,iQ:=b }} { v with ns:=r } Q R q m:=by
 have g:=(h.gi.tree hs).iQ b
 have e:=(h.rg.tree hs ⟨.sl r.length (cD r)⟩).iQ b
 exact⟨h.toTI0.store g e rfl,fun x hx=>by show 0<=aP r x.block;rw[hs.aP];exact h.X3 x hx,fun x hx=>by show 0<=aP r x.block;rw[hs.aP];exact h.X4 x hx⟩
def RE (Q:List Request) (tag:Int) (k:Nat):Prop:=(gx bB Q (k:Int)).tagged.tag=tag
theorem x27 {t:State} {v:SV} {Q R:Option (List Request)} (h:TD t v Q R) (w:gO):∃x,aC Tryz.prog 27 [.agg (aF t),.agg (dD w)]=some x /\
 (((∀j:Nat,j<(ol Q).length->¬RE (ol Q) w.tagged.tag j)/\x=.dX [.agg (bA bB),.agg (aF lD),.v (.int .i64 23)]) \/
  ∃k:Nat,k<(ol Q).length/\RE (ol Q) w.tagged.tag k/\(∀j:Nat,j<k->¬RE (ol Q) w.tagged.tag j)/\x=.dX [.agg (bA (gx bB (ol Q) (k:Int))),.agg (aF { t with iM:=ov aA (nz ((ol Q).take k++(ol Q).drop (k+1)))}),.v (.int .i64 0)]):=by
 have lK:=h.fl
 have nQ:=h.nQ
 have nQ1:((ol Q).length:Int)<1000000:=by omega
 have Xa:Flat (.agg (aF lD)):=by simp only[dN,lD,gK,oA,Nw,Gg,Tj,and_self]
 rw[cG Tryz.func27 rfl aT9 (by kernel_rfl) rfl]
 simp only[ZG,seval,KW];refine mD (fun m st=>∃k:Nat,(st.env 2=.ptr 2 0 0/\st.heap 2 0=some (.cells (aF t))/\st.env 3=.ptr 3 0 0/\st.heap 3 0=some (.cells (dD w))/\st.env 4=.ptr 4 0 0/\st.heap 4 0=some (.cells (bA bB))/\st.env 5=.ptr 5 0 0/\st.heap 5 0=some (.cells (aF lD))/\st.env 7=.v (.int .i64 k))/\(∀j:Nat,j<k->¬RE (ol Q) w.tagged.tag j)/\k<=(ol Q).length/\m=(ol Q).length-k)
  (fun e st=>(e=.ret/\∃(k:Nat) (X:AV),(st.env 4=.ptr 4 0 0/\st.heap 4 0=some (.cells (bA (gx bB (ol Q) (k:Int))))/\st.env 5=.ptr 5 0 0/\st.heap 5 0=some (.cells (aF { t with iM:=X }))/\st.env 6=.v (.int .i64 0))/\((X=.v (.slice none 0 0)/\(ol Q).take k++(ol Q).drop (k+1)=[])\/∃g,X=.own 42 g/\(ol Q).take k++(ol Q).drop (k+1)≠[]/\st.heap 42 g=some (.row 63 35 ((ol Q).take k++(ol Q).drop (k+1)).length (aA ((ol Q).take k++(ol Q).drop (k+1)))))/\k<(ol Q).length/\RE (ol Q) w.tagged.tag k/\(∀j:Nat,j<k->¬RE (ol Q) w.tagged.tag j)) \/
   (e=.exit 0/\(st.env 4=.ptr 4 0 0/\st.heap 4 0=some (.cells (bA bB))/\st.env 5=.ptr 5 0 0/\st.heap 5 0=some (.cells (aF lD)))/\∀j:Nat,j<(ol Q).length->¬RE (ol Q) w.tagged.tag j)) (ol Q).length ?step ?start ?rest
 case step =>
  rintro m st ⟨k,hI,hj,hk,hm⟩
  by_cases aZ:(k:Int)<(ol Q).length
  case neg =>
   apply OS (.exit 0)
   ·simp only[ZG,seval,KW,hI,h.Cf,aZ];rfl
   ·exact .inr ⟨rfl,by simp only[E8,seval,hI],fun j hj'=>hj j (by omega)⟩
  have q0:(0:Int)<=k:=by omega
  have q2:(k:Int)<=((ol Q).length:Int):=by omega
  have q3:(0:Int)<=((k+1:Nat):Int):=by omega
  have q4:((k+1:Nat):Int)<=((ol Q).length:Int):=by omega
  have hw:IntKind.i64.wrap ((k:Int)+1)=((k+1:Nat):Int):=by rw[pM _ (by omega) (by omega)];omega
  have n1:((((ol Q).take k).length:Nat):Int)<1000000:=by rw[List.length_take];omega
  have n2:((((ol Q).drop (k+1)).length:Nat):Int)<1000000:=by rw[List.length_drop];omega
  have e1:ol (Q.map (·.take k))=(ol Q).take k:=by cases Q<;>simp[ol]
  have e2:ol (Q.map (·.drop (k+1)))=(ol Q).drop (k+1):=by cases Q<;>simp[ol]
  by_cases hh:RE (ol Q) w.tagged.tag k
  ·have hh':(gx bB (ol Q) (k:Int)).tagged.tag=w.tagged.tag:=hh
   obtain⟨LL,EM⟩:∃LL,(ol Q).take k++(ol Q).drop (k+1)=LL:=⟨_,rfl⟩
   by_cases hz:LL=[]
   ·have hT:((ol Q).take k).length=0:=by have:=congrArg List.length EM;rw[hz,List.length_append] at this;simp only[List.length_nil] at this;omega
    have hD:((ol Q).drop (k+1)).length=0:=by have:=congrArg List.length EM;rw[hz,List.length_append] at this;simp only[List.length_nil] at this;omega
    apply OS (.ret)
    ·simp only[ZG,seval,KW,hI,h.Cf,aZ,q0,q2,q3,q4,hw,bt hh',Int.toNat_natCast,iJ,iK,Mc,Option.isSome_some,Option.map_some,Option.some.injEq,hT,hD,e1,e2];rfl
    ·exact .inl ⟨rfl,k,.v (.slice none 0 0),by simp only[E8,seval,hI]<;>rfl,.inl ⟨rfl,EM.trans hz⟩,by omega,hh,hj⟩
   have FC:(LL.length=0)=False:=eq_false fun h=>hz (List.length_eq_zero_iff.1 h)
   have n3:((LL.length:Nat):Int)<1000000:=by rw[<- EM,List.length_append,List.length_take,List.length_drop];omega
   by_cases xE:k=0
   ·have hT:((ol Q).take k).length=0:=by rw[xE];rfl
    have hD:(ol Q).drop (k+1)=LL:=by rw[<- EM,xE];rfl
    apply OS (.ret)
    ·simp only[ZG,seval,KW,hI,h.Cf,aZ,q0,q2,q3,q4,hw,bt hh',Int.toNat_natCast,iJ,iK,Mc,Option.isSome_some,Option.map_some,Option.some.injEq,hT,hD,FC,rH _ n3,e1,e2];rfl
    ·exact .inl ⟨rfl,k,_,by simp only[E8,seval,hI]<;>rfl,.inr ⟨_,rfl,by rw[EM];exact hz,by rw[EM];simp only[E8,seval]<;>rfl⟩,by omega,hh,hj⟩
   ·have hT:(((ol Q).take k).length=0)=False:=eq_false (by rw[List.length_take];omega)
    apply OS (.ret)
    ·simp only[ZG,seval,KW,hI,h.Cf,aZ,q0,q2,q3,q4,hw,bt hh',Int.toNat_natCast,iJ,iK,Mc,Option.isSome_some,Option.map_some,Option.some.injEq,hT,rH _ n1,Wb _ _ _ _ n1 n2,e1,e2];rfl
    ·exact .inl ⟨rfl,k,_,by simp only[E8,seval,hI]<;>rfl,.inr ⟨_,rfl,by rw[EM];exact hz,by simp only[E8,seval]<;>rfl⟩,by omega,hh,hj⟩
  ·have hh':¬(gx bB (ol Q) (k:Int)).tagged.tag=w.tagged.tag:=hh
   apply Ge ((ol Q).length-(k+1))
   ·simp only[ZG,seval,KW,hI,h.Cf,aZ,q0,hw,bf hh'];rfl
   ·exact⟨k+1,by simp only[E8,seval,hI],fun j hj'=>(Nat.lt_succ_iff_lt_or_eq.1 hj').elim (hj j) fun e=>by subst e;exact hh,by omega,rfl⟩
 case start=>exact⟨0,by simp only[E8,seval]<;>rfl,fun j hj=>by omega,by omega,by omega⟩
 case rest =>
  rintro e st (⟨rfl,k,X,hI,hX,hk,hh,hj⟩|⟨rfl,hI,hj⟩)
  ·rcases hX with ⟨rfl,hz⟩|⟨g,rfl,hz,hg⟩
   ·have hfz:Flat (.agg (aF { t with iM:=.v (.slice none 0 0)})):=(pP _).2 ⟨lK.1,lK.2.1,lK.2.2.1,lK.2.2.2.1,lK.2.2.2.2.1,lK.2.2.2.2.2.1,lK.2.2.2.2.2.2.1,.v _,lK.2.2.2.2.2.2.2.2⟩
    simp only[ZG,seval,KW,hI];exact⟨_,gR rfl (by simp only[bX,Z8,seval,hI]<;>rfl) (by simp only[bX,Z8,seval,hI]<;>rfl) (by simp only[bX,E8,seval,hI]<;>rfl) (dQ (.agg _ (fN _))) (dQ hfz) (by simp only[Z8,seval]<;>rfl),.inr ⟨k,hk,hh,hj,by rw[hz,show nz ([]:List Request)=none from if_pos rfl];rfl⟩⟩
   ·simp only[ZG,seval,KW,hI,hg];exact⟨_,gR rfl (by simp only[bX,Z8,seval,hI]<;>rfl) (by simp only[bX,Z8,seval,hI]<;>rfl) (by simp only[bX,E8,seval,hI]<;>rfl) (dQ (.agg _ (fN _))) (by simp only[Z8,seval,hI,hg,bQ,wE,gF,bG,pI,cN,dN,lK]<;>rfl) (by simp only[Z8,seval]<;>rfl),.inr ⟨k,hk,hh,hj,by rw[show nz ((ol Q).take k++(ol Q).drop (k+1))=some _ from if_neg hz];rfl⟩⟩
  ·simp only[ZG,seval,KW,hI];exact⟨_,by apply gR;rfl;all_goals simp only[aJ,bX,Z8,seval,hI,Xa]<;>rfl,.inl ⟨hj,rfl⟩⟩
theorem aUa (ns:List Node) (hu:iB ns) (hr:(nd ns 0).up=-1) (hn:(ns.length:Int)<1000000) (i:Int) (w:gO) (l:List Int) (hl:(l.length:Int)<1000000) (st:St) (a g:Nat) (d:Option Nat) (hh:st.heap a g=some (.row 3 1 l.length (aI l))) :
 eY (aC Tryz.prog) 222 [.agg (cU ⟨ns⟩),.v (.int .i64 i),.agg (dD w),.own a g] st d=some { dst:=d,val:=XI ns i w l,dG:=some (a,g,none)}:=by
 rw[Yn (s:=a) (k:=g) (by rw[List.flatMap_cons,List.flatMap_cons,List.flatMap_cons,zJ (nC _),zJ (.v _),zJ (.agg _ (jT w))];rfl) (by intro y hy;simp only[List.mem_cons,List.not_mem_nil,or_false] at hy;rcases hy with rfl|rfl|rfl|rfl;exact .inl (nC _);exact .inl (.v _);exact .inl (.agg _ (jT w));exact .inr (.inl ⟨a,g,rfl⟩)),
  List.map_cons,List.map_cons,List.map_cons,List.map_cons,List.map_nil,dQ (nC _),dQ (.v _),dQ (.agg _ (jT w)),Tp hh,bJ,bJ,bJ,bJ,gB]
 exact D4 (aSb ns hu hr hn i w l hl (.inl rfl)) (K8 ns i w l)
theorem aUb {t:State} {v:SV} {Q R:Option (List Request)} {q m:Int} (h:TI t v Q R q m) (w:gO) :
 ∃x,aC Tryz.prog 206 [.agg (aF t),.agg (dD w)]=some x/\∃(t':State) (e:Int) (v':SV) (Q' R':Option (List Request)),x=.dX [.agg (aF t'),.v (.int .i64 e)]/\TI t' v' Q' R' q m:=by
 have hf:=h.td.flat
 have lK:=h.td.fl
 have fw:Flat (.agg (dD w)):=.agg _ (jT w)
 have Xa:Flat (.agg (aF lD)):=by simp only[dN,lD,gK,oA,Nw,Gg,Tj,and_self]
 obtain⟨y,hy,⟨hj,rfl⟩|⟨k,hk,hh,hj,rfl⟩⟩:=x27 h.td w
 ·have k27:=kx hy (bH hf fw) (.dX _ (oW (.agg _ (fN _)) Xa (.v _)))
  rw[cL Tryz.func206 rfl aG8 rfl];simp only[Z8,seval,k27,eC];exact⟨_,by apply dJ;rfl;all_goals simp only[aJ,bX,Z8,seval,hf]<;>rfl,t,23,v,Q,R,rfl,h⟩
 obtain⟨r,er⟩:∃r,gx bB (ol Q) (k:Int)=r:=⟨_,rfl⟩
 obtain⟨t1,et⟩:∃t1,({ t with iM:=ov aA (nz ((ol Q).take k++(ol Q).drop (k+1)))}:State)=t1:=⟨_,rfl⟩
 have hr:r.tagged.tag<t.cV:=by rw[<- er];exact (h.tq.all _ (uM (by omega) (by omega))).2.1
 have h1:=h.less k
 rw[et] at h1;rw[er,et] at hy;have nt1:t1.cV=t.cV:=by rw[<- et]
 have hf1:=h1.td.flat
 have RF:=h1.td.fl
 have k27:=kx hy (bH hf fw) (.dX _ (oW (.agg _ (fN _)) hf1 (.v _)))
 have hn:=h1.gi.sd.nn
 rw[cL Tryz.func206 rfl aG8 rfl];by_cases g3:w.kind=3
 ·obtain⟨R',hR'⟩:=h1.aAP (r:=r) (by rw[nt1];exact hr)
  have ff:=hR'.td.flat
  have k72:=kx (c72 h1.td r) (bH hf1 (.agg _ (fN _))) ff
  simp only[Z8,seval,k27,eC,bt g3,k72];exact⟨_,by apply dJ;rfl;all_goals simp only[aJ,bX,Z8,seval,ff]<;>rfl,_,0,v,_,R',rfl,hR'⟩
 by_cases g4:w.kind=4
 ·obtain⟨R',hR'⟩:=h1.aAP (r:=r) (by rw[nt1];exact hr)
  have ff:=hR'.td.flat
  have k72:=kx (c72 h1.td r) (bH hf1 (.agg _ (fN _))) ff
  simp only[Z8,seval,k27,eC,bf g3,bt g4,k72];exact⟨_,by apply dJ;rfl;all_goals simp only[aJ,bX,Z8,seval,ff]<;>rfl,_,0,v,_,R',rfl,hR'⟩
 have IM:∀(st:St) (a g:Nat) (d:Option Nat),st.heap a g=some (.row 3 1 2 (aI [aP v.ns t1.store.bO.gX.root,aP v.ns t1.store.bO.fin.root]))->_:=fun st a g d hh=>aUa v.ns h1.gi.up h1.gi.PI hn (aP v.ns r.block) w [aP v.ns t1.store.bO.gX.root,aP v.ns t1.store.bO.fin.root] (by show ((2:Nat):Int)<_;omega) st a g d hh
 rcases aIE v.ns (aP v.ns r.block) w [aP v.ns t1.store.bO.gX.root,aP v.ns t1.store.bO.fin.root] with ⟨e,he,ej⟩|⟨AJ,hs,ej⟩
 ·rw[ej] at IM
  have hH:=h.halt true
  have fH:=hH.td.flat
  simp only[Z8,seval,k27,eC,bf g3,bf g4,Fx,h1.gi.sd.tree,mS _ _ hn,IM,bf he];exact⟨_,by apply dJ;rfl;all_goals simp only[aJ,bX,Z8,seval,fH]<;>rfl,_,21,v,Q,R,rfl,hH⟩
 rw[ej] at IM
 have Kk:(AJ.length:Int)<1000000:=by rw[hs.len];exact hn
 have fr:=fL AJ t1.store.iQ
 by_cases b0:0<=aP AJ t1.store.iQ
 case neg =>
  have T:=h1.tree hs t1.store.iQ
  have ft:=T.td.flat
  simp only[Z8,seval,k27,eC,bf g3,bf g4,Fx,h1.gi.sd.tree,mS _ _ hn,mS _ _ Kk,IM,b0];exact⟨_,by apply dJ;rfl;all_goals simp only[aJ,bX,Z8,seval,ft]<;>rfl,_,0,_,_,R,rfl,T⟩
 by_cases b1:(nd AJ (aP AJ t1.store.iQ)).status=2
 case neg =>
  have T:=h1.tree hs t1.store.iQ
  have ft:=T.td.flat
  simp only[Z8,seval,k27,eC,bf g3,bf g4,Fx,h1.gi.sd.tree,mS _ _ hn,mS _ _ Kk,IM,b0,fr.2,bf b1];exact⟨_,by apply dJ;rfl;all_goals simp only[aJ,bX,Z8,seval,ft]<;>rfl,_,0,_,_,R,rfl,T⟩
 have T:=h1.tree hs dK
 have ft:=T.td.flat
 simp only[Z8,seval,k27,eC,bf g3,bf g4,Fx,h1.gi.sd.tree,mS _ _ hn,mS _ _ Kk,IM,b0,fr.2,bt b1];exact⟨_,by apply dJ;rfl;all_goals simp only[aJ,bX,Z8,seval,ft]<;>rfl,_,0,_,_,R,rfl,T⟩
end Go.Ab.Tryz
