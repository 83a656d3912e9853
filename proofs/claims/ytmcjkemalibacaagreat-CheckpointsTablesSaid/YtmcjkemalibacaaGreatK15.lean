/-
  Part 15 of the proof: an evaluator of programs, its soundness, and what functions of this program compute.
-/
import Derived.Test.YtmcjkemalibacaaGreatK14
import Derived.Test.YtmcjkemalibacaaGreatK11
import Derived.Test.YtmcjkemalibacaaGreatK13
import Derived.Test.YtmcjkemalibacaaGreatK10
set_option linter.all false
set_option maxRecDepth 20000
set_option maxHeartbeats 40000000
namespace Go.Ab.Tryz
open Classical Go.Proofs Go.Ab
theorem NC {s:aL} (h:1≤s.cFg.kE) {x y:Int} (hx:0≤x) (hxy:x≤y) (hy:y<18446744073709551616):xM s x≤xM s y:=by
 have e:∀z:Int,0≤z→z<18446744073709551616→xM s z=z / s.cFg.kE:=fun z h0 h1=>by
  unfold xM;rw[Int.tdiv_eq_ediv_of_nonneg h0];have:=Int.ediv_le_self s.cFg.kE h0
  exact wrap_u64 _ (Int.ediv_nonneg h0 (by omega)) (by omega)
 rw[e x hx (by omega),e y (by omega) hy]
 exact Int.ediv_le_ediv (by omega) hxy
theorem aCA {acc:Bool × dP × dP} {n:Node} (h1:Rg acc.2.1.aG) (h2:Rg acc.2.2.aG) (hn:RB n.block):Rg (MD acc n).2.1.aG∧Rg (MD acc n).2.2.aG:=by
 unfold MD;split
 ·exact⟨h1,h2⟩
 ·refine⟨?_, ?_⟩
  ·dsimp only;split
   ·exact hn.pj
   ·exact h1
  ·dsimp only;split
   ·exact hn.pf
   ·exact h2
theorem aCB {ns:List Node} (h:∀n∈ns,RB n.block):Rg (Jq ns).pj.aG∧Rg (Jq ns).pf.aG:=by
 have key:∀(l:List Node) (acc:Bool × dP × dP),(∀n∈l,RB n.block)→Rg acc.2.1.aG→Rg acc.2.2.aG→Rg (l.foldl MD acc).2.1.aG∧Rg (l.foldl MD acc).2.2.aG:=by
  intro l;induction l with
  | nil=>intro acc _ h1 h2;exact⟨h1,h2⟩
  | cons n l ih =>
    intro acc hl h1 h2;have hs:=aCA h1 h2 (hl n (List.mem_cons_self ..))
    exact ih _ (fun x hx=>hl x (List.mem_cons_of_mem _ hx)) hs.1 hs.2
 exact key ns _ h ⟨by show (0:Int)≤0;omega,by show (0:Int)<_;omega⟩ ⟨by show (0:Int)≤0;omega,by show (0:Int)<_;omega⟩
theorem Je (s:aL) (X:AV):(wS s X).now=s.now:=rfl
theorem yR (s:aL) (X:AV):(wS s X).cD.early=X:=rfl
theorem Xo {s:aL} {v:SV} (h:SD s v) {L:List sC} (hL:∀x∈L,Flat x.eU) (st:St) {g:Nat} (hh:st.heap 61 g=some (.row 87 67 L.length (dN L))):fO st (.agg (aA (wS s (.own 61 g))))=some (.agg (aA (wS s (ov dN (some L))))):=by
 have pH:=h.fl
 have hx:=T3 L.length L hL
 unfold wS;simp only[bQ,gG,bP,hh,hx,cV,dV,pH,cK];rfl
theorem aMn {call:Nat→List AV→Option AV} {inl:Nat→List AV→St→Option (AV × St)} {ops:Array Oper} {st:St} {T:Nat} {pos:String} {eQ:Array Edge} (x:Array Operand) (y:Array Nat) :
 gT Tryz.prog true call inl ops ⟨some 80,.call ⟨.value (.func 44),x,y⟩,T,pos,eQ,none⟩ st=cS (inl 44 (x.toList.map st.ev) st) fun r=>some ((st.back r.2).put (some 80) r.1):=UW 44 x y (Xp rfl)
noncomputable def Jf:Code:=kO (Tryz.f202.body.getD .skip)
def aRu (c0:Config) (E:Option (List sC)) (q:Int) (m:Nat) (st:St):Prop:=∃(k:Nat) (S:aL) (w:SV) (X:AV),(st.env 1=.ptr 1 0 0∧st.heap 1 0=some (.cells (aA (wS S X)))∧st.env 2=.ptr 2 0 0∧st.heap 2 0=some (.cells (aA fZ))∧st.env 5=ov dN E∧st.env 6=.v (.int .i64 k)∧0<st.aQ 1∧0<st.aQ 2)∧((X=.v (.slice none 0 0)∧w.E=none)∨∃g L,w.E=some L∧X=.own 61 g∧g<st.aQ 61∧st.heap 61 g=some (.row 87 67 L.length (dN L)))∧GI (wS S (ov dN w.E)) w q∧RG (wS S (ov dN w.E)) w∧S.cFg=c0∧(ol w.E).length≤k∧k≤(ol E).length∧m=(ol E).length-k
def aCC (c0:Config) (q:Int) (e:Ex) (st:St):Prop:=e=.exit 0∧∃(S:aL) (w:SV) (X:AV),(st.env 1=.ptr 1 0 0∧st.heap 1 0=some (.cells (aA (wS S X)))∧st.env 2=.ptr 2 0 0∧st.heap 2 0=some (.cells (aA fZ)))∧((X=.v (.slice none 0 0)∧w.E=none)∨∃g L,w.E=some L∧X=.own 61 g∧st.heap 61 g=some (.row 87 67 L.length (dN L)))∧GI (wS S (ov dN w.E)) w q∧RG (wS S (ov dN w.E)) w∧S.cFg=c0
theorem T4 {c0:Config} {E:Option (List sC)} {q:Int} (hE:∀a∈ol E,Cw a) (hEa:∀a∈ol E,∃V,a.eU=ov aK (some V)∧V≠[]) (nE:((ol E).length:Int)≤c0.lG.qD) (nE':((ol E).length:Int)<900000) {m:Nat} {st:St} (hs:aRu c0 E q m st):∃e st',wT Tryz.prog true Jf st=some (e,st')∧aCC c0 q e st':=by
 have key:∃r,cS (wT Tryz.prog true Jf st) some=some r∧aCC c0 q r.1 r.2:=by
  unfold Jf;simp only[Tryz.f202,Option.getD_some,kO];refine jH (fun m st=>∃(k:Nat) (S:aL) (w:SV) (X:AV),(st.env 1=.ptr 1 0 0∧st.heap 1 0=some (.cells (aA (wS S X)))∧st.env 2=.ptr 2 0 0∧st.heap 2 0=some (.cells (aA fZ))∧st.env 5=ov dN E∧st.env 6=.v (.int .i64 k)∧0<st.aQ 1∧0<st.aQ 2)∧((X=.v (.slice none 0 0)∧w.E=none)∨∃g L,w.E=some L∧X=.own 61 g∧g<st.aQ 61∧st.heap 61 g=some (.row 87 67 L.length (dN L)))∧GI (wS S (ov dN w.E)) w q∧RG (wS S (ov dN w.E)) w∧S.cFg=c0∧(ol w.E).length≤k∧k≤(ol E).length∧m=(ol E).length-k) (fun e st=>e=.exit 0∧∃(S:aL) (w:SV) (X:AV),(st.env 1=.ptr 1 0 0∧st.heap 1 0=some (.cells (aA (wS S X)))∧st.env 2=.ptr 2 0 0∧st.heap 2 0=some (.cells (aA fZ)))∧((X=.v (.slice none 0 0)∧w.E=none)∨∃g L,w.E=some L∧X=.own 61 g∧st.heap 61 g=some (.row 87 67 L.length (dN L)))∧GI (wS S (ov dN w.E)) w q∧RG (wS S (ov dN w.E)) w∧S.cFg=c0) m ?step ?start ?rest
  case start=>exact hs
  case rest=>exact fun e st h=>⟨_,rfl,h⟩
  case step =>
   clear hs
   rintro m st ⟨k,S,w,X,hI,hX,hG,oL,hC,hF,hk,hm⟩
   by_cases bA:(k:Int)<(ol E).length
   case neg =>
    have hX':(X=.v (.slice none 0 0)∧w.E=none)∨∃g L,w.E=some L∧X=.own 61 g∧st.heap 61 g=some (.row 87 67 L.length (dN L)):=hX.imp id fun ⟨g,L,h1,h2,_,h4⟩=>⟨g,L,h1,h2,h4⟩
    apply AX (.exit 0)
    ·simp only[ZG,seval,Bool.false_and,Prod.mk.injEq,Bl,hI,bA];rfl
    ·exact⟨rfl,S,w,X,by simp only[E8,seval,hI],by simpa only[E8,seval] using hX',hG,oL,hC⟩
   have q0:(0:Int)≤k:=by omega
   have hw:IntKind.i64.wrap ((k:Int)+1)=((k+1:Nat):Int):=by rw[mZ _ (by omega) (by omega)];omega
   obtain⟨a,ea⟩:∃a,gx Hk (ol E) (k:Int)=a:=⟨_,rfl⟩
   have ha:Cw a:=by rw[← ea];exact hE _ (pF q0 bA)
   have hEa':∃V,a.eU=ov aK (some V)∧V≠[]:=by rw[← ea];exact hEa _ (pF q0 bA)
   obtain⟨V,hV,nV⟩:=id ha
   have fa:Flat (.agg (iB a)):=(zJ a).2 ha.fl
   have fl9:=hG.sd.flat
   by_cases g1:S.now≤a.slot
   · -- kept
    rcases hX with ⟨rfl,Xq⟩|⟨g,L,Xq,rfl,hg,hh⟩
    ·have Ny:=hG.early (some [a]) (by intro b hb;rw[show b=a by simpa [ol] using hb];exact ha) (by show ((1:Nat):Int)≤S.cFg.lG.qD;rw[hC];omega)
     have Dd:RG (wS S (ov dN (some [a]))) { w with E:=some [a]}:=⟨oL.now,oL.j,oL.f,oL.nd,oL.or,oL.rt,oL.fe,oL.ds,oL.tb,⟨oL.ne.q,by simp,oL.ne.o,oL.ne.t,fun b hb=>by rw[show b=a by simpa [ol] using hb];exact hEa' ,oL.ne.tb⟩⟩
     have an1:=HC a
     apply Am ((ol E).length-(k+1))
     ·simp only[ZG,seval,Bool.false_and,Prod.mk.injEq,Bl,hI,bA,q0,ea,Je,yR,g1,fa,an1,hw];rfl
     ·exact⟨k+1,S,{ w with E:=some [a]},_,by and_intros<;>(simp only[E8,seval,hI]<;>rfl),.inr ⟨_,[a],rfl,rfl,by simp only[E8,seval]<;>omega,by simp only[E8,seval]<;>rfl⟩,Ny,Dd,hC,by show 1≤k+1;omega,by omega,rfl⟩
    ·have hlL:L.length≤k:=by rw[Xq] at hF;exact hF
     have nL:(L.length:Int)<1000000:=by omega
     have uV:(g=st.aQ 61)=False:=eq_false (by omega)
     have Ny:=hG.early (some (L++[a])) (by
      intro b hb;rcases List.mem_append.1 (show b∈L++[a] from hb) with hb|hb
      ·exact hG.sd.eV b (by rw[Xq];exact hb)
      ·rw[List.mem_singleton] at hb;rw[hb];exact ha) (by show (((L++[a]).length:Nat):Int)≤S.cFg.lG.qD;rw[hC,List.length_append,List.length_cons,List.length_nil];omega)
     have Dd:RG (wS S (ov dN (some (L++[a])))) { w with E:=some (L++[a])}:=⟨oL.now,oL.j,oL.f,oL.nd,oL.or,oL.rt,oL.fe,oL.ds,oL.tb,⟨oL.ne.q,by simp,oL.ne.o,oL.ne.t,fun b hb=>by rcases List.mem_append.1 (show b∈L++[a] from hb) with hb|hb;exact oL.ne.ea b (by rw[Xq];exact hb);rw[List.mem_singleton] at hb;rw[hb];exact hEa',oL.ne.tb⟩⟩
     apply Am ((ol E).length-(k+1))
     ·simp only[ZG,seval,Bool.false_and,Prod.mk.injEq,Bl,hI,hh,uV,bA,q0,ea,Je,yR,g1,fa,Vg _ _ _ _ nL,hw];rfl
     ·exact⟨k+1,S,{ w with E:=some (L++[a])},_,by and_intros<;>(simp only[E8,seval,hI]<;>rfl),.inr ⟨_,L++[a],rfl,rfl,by simp only[E8,seval]<;>omega,by simp only[E8,seval]<;>rfl⟩,Ny,Dd,hC,by show (L++[a]).length≤k+1;rw[List.length_append,List.length_cons,List.length_nil];omega,by omega,rfl⟩
   ·have c39':=c39 hG.sd hG.up hG.sp a V hV (by omega)
    have k39:∀(st:St) (d:Option Nat),fO st (.agg (aA (wS S X)))=some (.agg (aA (wS S (ov dN w.E))))→aN (aB Tryz.prog) 39 [.agg (aA (wS S X)),.agg (iB a)] st d=some { dst:=d,val:=.eE [.v (.bool (Gl (wS S (ov dN w.E)) w a (ol V)).1),.v (.int .i64 (Gl (wS S (ov dN w.E)) w a (ol V)).2)]}:=by
     intro st d hx;rw[jS,List.map_cons,List.map_cons,List.map_nil,hx,eB fa,bN,bN,fR];exact A4 c39' (by intro x hx;simp only[List.mem_cons,List.not_mem_nil,or_false] at hx;rcases hx with rfl|rfl<;>exact .v _) (.eE _ (bE (.v _) (.v _)))
    have Ll:GI (wS (Qq S w a (ol V)) (ov dN w.E)) { w with L:=some (uI (ol w.L) a.target.aG a.root (ol V)).1 } q:=hG.cast a (ol V)
    have De:RG (wS (Qq S w a (ol V)) (ov dN w.E)) { w with L:=some (uI (ol w.L) a.target.aG a.root (ol V)).1 }:=⟨oL.now,oL.j,oL.f,oL.nd,oL.or,oL.rt,oL.fe,oL.ds,oL.tb,⟨oL.ne.q,oL.ne.e,oL.ne.o,oL.ne.t,oL.ne.ea,oL.ne.tb⟩⟩
    rcases hX with ⟨rfl,Xq⟩|⟨g,L,Xq,rfl,hg,hh⟩
    ·have e0:ov dN w.E=.v (.slice none 0 0):=by rw[Xq];rfl
     have k39n:=fun st d=>k39 st d (by rw[e0];rw[e0] at fl9;exact eB fl9)
     by_cases g2:(Gl (wS S (ov dN w.E)) w a (ol V)).2=0
     case neg =>
      apply Am ((ol E).length-(k+1))
      ·simp only[ZG,seval,Bool.false_and,Prod.mk.injEq,Bl,hI,bA,q0,ea,Je,yR,g1,k39n,dM,bf g2,hw];rfl
      ·exact⟨k+1,S,w,_,by and_intros<;>(simp only[E8,seval,hI]<;>rfl),.inl ⟨rfl,Xq⟩,hG,oL,hC,by omega,by omega,rfl⟩
     have hr:∀x∈ol V,0≤x∧x<(ol w.L).length:=by rw[hG.MH];exact UK (GV g2)
     obtain⟨G,Qy⟩:=aFj hG.sd (.v (.slice none 0 0)) a V hV (by omega) hr
     have kG:∀st,pR Tryz.prog 44 [.agg (aA (wS S (.v (.slice none 0 0)))),.agg (iB a)] st=some (.agg (aA (wS (Qq S w a (ol V)) (.v (.slice none 0 0)))),G st):=fun st=>(Qy st).1
     have f1:∀st:St,0<st.aQ 1→(G st).heap 1 0=st.heap 1 0:=fun st h=>(Qy st).2.1 1 0 h
     have f2:∀st:St,0<st.aQ 2→(G st).heap 2 0=st.heap 2 0:=fun st h=>(Qy st).2.1 2 0 h
     have c1:∀st:St,0<st.aQ 1→(0<(G st).aQ 1)=True:=fun st h=>eq_true (Nat.lt_of_lt_of_le h ((Qy st).2.2 1))
     have c2:∀st:St,0<st.aQ 2→(0<(G st).aQ 2)=True:=fun st h=>eq_true (Nat.lt_of_lt_of_le h ((Qy st).2.2 2))
     apply Am ((ol E).length-(k+1))
     ·simp only[ZG,seval,Bool.false_and,Prod.mk.injEq,Bl,hI,bA,q0,ea,Je,yR,g1,k39n,dM,bt g2,aMn,kG,f1,bS,aT,aX,hw];rfl
     ·exact⟨k+1,Qq S w a (ol V),{ w with L:=some (uI (ol w.L) a.target.aG a.root (ol V)).1 },_,⟨by simp only[E8,seval,hI,bS],by simp only[E8,seval,hI,aT,aX]<;>rfl,by simp only[E8,seval,hI,bS],by simp only[E8,seval,hI,aT,aX,f2],by simp only[E8,seval,hI,bS],by simp only[E8,seval,hI,bS],by simp only[E8,seval,hI,aX,c1],by simp only[E8,seval,hI,aX,c2]⟩,.inl ⟨rfl,Xq⟩,Ll,De,hC,by show (ol w.E).length≤k+1;omega,by omega,rfl⟩
    ·have hLf:∀x∈L,Flat x.eU:=fun x hx=>(hG.sd.eV x (by rw[Xq];exact hx)).fl
     have k39o:∀(st:St) (d:Option Nat),st.heap 61 g=some (.row 87 67 L.length (dN L))→_:=fun st d h61=>k39 st d (by rw[Xq];exact Xo hG.sd hLf st h61)
     by_cases g2:(Gl (wS S (ov dN w.E)) w a (ol V)).2=0
     case neg =>
      apply Am ((ol E).length-(k+1))
      ·simp only[ZG,seval,Bool.false_and,Prod.mk.injEq,Bl,hI,hh,bA,q0,ea,Je,yR,g1,k39o,dM,bf g2,hw];rfl
      ·exact⟨k+1,S,w,_,by and_intros<;>(simp only[E8,seval,hI]<;>rfl),.inr ⟨g,L,Xq,rfl,by simp only[E8,seval]<;>omega,by simp only[E8,seval,hh]⟩,hG,oL,hC,by omega,by omega,rfl⟩
     have hr:∀x∈ol V,0≤x∧x<(ol w.L).length:=by rw[hG.MH];exact UK (GV g2)
     obtain⟨G,Qy⟩:=aFj hG.sd (.own 61 g) a V hV (by omega) hr
     have kG:∀st,pR Tryz.prog 44 [.agg (aA (wS S (.own 61 g))),.agg (iB a)] st=some (.agg (aA (wS (Qq S w a (ol V)) (.own 61 g))),G st):=fun st=>(Qy st).1
     have f1:∀st:St,0<st.aQ 1→(G st).heap 1 0=st.heap 1 0:=fun st h=>(Qy st).2.1 1 0 h
     have f2:∀st:St,0<st.aQ 2→(G st).heap 2 0=st.heap 2 0:=fun st h=>(Qy st).2.1 2 0 h
     have f3:∀st:St,g<st.aQ 61→(G st).heap 61 g=st.heap 61 g:=fun st h=>(Qy st).2.1 61 g h
     have c1:∀st:St,0<st.aQ 1→(0<(G st).aQ 1)=True:=fun st h=>eq_true (Nat.lt_of_lt_of_le h ((Qy st).2.2 1))
     have c2:∀st:St,0<st.aQ 2→(0<(G st).aQ 2)=True:=fun st h=>eq_true (Nat.lt_of_lt_of_le h ((Qy st).2.2 2))
     have c3:∀st:St,g<st.aQ 61→(g<(G st).aQ 61)=True:=fun st h=>eq_true (Nat.lt_of_lt_of_le h ((Qy st).2.2 61))
     apply Am ((ol E).length-(k+1))
     ·simp only[ZG,seval,Bool.false_and,Prod.mk.injEq,Bl,hI,hh,bA,q0,ea,Je,yR,g1,k39o,dM,bt g2,aMn,kG,f1,bS,aT,aX,hw];rfl
     ·exact⟨k+1,Qq S w a (ol V),{ w with L:=some (uI (ol w.L) a.target.aG a.root (ol V)).1 },_,⟨by simp only[E8,seval,hI,bS],by simp only[E8,seval,hI,aT,aX]<;>rfl,by simp only[E8,seval,hI,bS],by simp only[E8,seval,hI,aT,aX,f2],by simp only[E8,seval,hI,bS],by simp only[E8,seval,hI,bS],by simp only[E8,seval,hI,aX,c1],by simp only[E8,seval,hI,aX,c2]⟩,.inr ⟨g,L,Xq,rfl,by simp only[E8,seval,aX,hg,c3],by simp only[E8,seval,aT,aX,hg,hh,f3]⟩,Ll,De,hC,by show (ol w.E).length≤k+1;omega,by omega,rfl⟩
 obtain⟨r,h,hq⟩:=key
 cases hx:wT Tryz.prog true Jf st with
 | none=>rw[hx] at h;cases h
 | some y=>rw[hx] at h;simp only[cK,Option.some.injEq] at h;subst h;exact⟨y.1,y.2,rfl,hq⟩
theorem aRv {s:aL} {v:SV} {q:Int} (h:GI s v q) (r:RG s v):∃x,aB Tryz.prog 202 [.agg (aA s)]=some x∧StR s q x:=by
 have hz:=Jb
 have hf:=h.sd.flat
 have Mq:=h.sp
 rw[cG Tryz.func202 rfl aMp (by kernel_rfl) rfl]
 by_cases g1:1099511627776≤s.now
 ·simp only[ZG,seval,Bool.false_and,Prod.mk.injEq,Bl,g1];exact⟨_,by apply dK;rfl;all_goals simp only[aH,bY,Z8,seval,hz]<;>rfl,fZ,3,rfl,hz,by decide,fun h=>by cases h⟩
 have hw:IntKind.u64.wrap (s.now+1)=s.now+1:=wrap_u64 _ (by have:=r.now.1;omega) (by have:=r.now.2;omega)
 obtain⟨s1,hs1⟩:∃s1:aL,s1={ s with now:=s.now+1,eR:=dR }:=⟨_,rfl⟩
 have h1:GI s1 v q:=by
  rw[hs1];exact⟨⟨h.sd.iP,h.sd.eA,h.sd.gW,h.sd.early,h.sd.bK,h.sd.tree,h.sd.tables,h.sd.eV,h.sd.tB,h.sd.nB,h.sd.nL,h.sd.nQ,h.sd.nE,h.sd.nO,h.sd.nT,h.sd.nn⟩,h.up,h.DT,h.pos,h.nl,h.UE,h.kE,h.MH,h.nB,h.nO,h.MI,h.nE,h.SO,h.nT,h.SP,h.nQ,h.P1,h.gJ⟩
 have r1:RG s1 v:=by
  rw[hs1];exact⟨⟨by show 0≤s.now+1;have:=r.now.1;omega,by show s.now+1≤_;omega⟩,r.j,r.f,fun n hn=>⟨(r.nd n hn).1,by show n.block.slot≤s.now+1;have:=(r.nd n hn).2;omega⟩,r.or,r.rt,⟨r.fe.1,Int.le_trans r.fe.2 (show xM s s.now≤xM s (s.now+1) from NC h.kE.1 r.now.1 (by omega) (by have:=r.now.2;omega))⟩,r.ds,r.tb,r.ne⟩
 have c1:s1.cFg=s.cFg:=by rw[hs1]
 have nE:=h.nE
 have SO:=h.SO
 subst hs1;have uE:∀(S:aL) (w:SV) (a b:dP),(Cy S w a b).E=w.E:=fun S w a b=>by unfold Cy;split;rfl;split<;>rfl
 by_cases g2:(s.now+1).tmod s.cFg.kE=0
 case neg =>
  simp only[ZG,seval,Bool.false_and,Prod.mk.injEq,Bl,g1,hw,Mq,bf g2,h.sd.early];refine Jg (a:=Jf) (aCC s.cFg q) (T4 (E:=v.E) h.sd.eV r.ne.ea (by omega) (by omega) (m:=(ol v.E).length) ⟨0,{ s with now:=s.now+1,eR:=dR },{ v with E:=none },.v (.slice none 0 0),⟨by simp only[E8,seval],by simp only[E8,seval]<;>rfl,by simp only[E8,seval],by simp only[E8,seval],by simp only[E8,seval],by simp only[E8,seval]<;>rfl,by simp only[E8,seval]<;>omega,by simp only[E8,seval]<;>omega⟩,.inl ⟨rfl,rfl⟩,h1.early none (by simp[ol]) (by show ((0:Nat):Int)≤_;rw[c1];omega),⟨r1.now,r1.j,r1.f,r1.nd,r1.or,r1.rt,r1.fe,r1.ds,r1.tb,⟨r1.ne.q,nofun,r1.ne.o,r1.ne.t,(fun a ha=>by cases ha),r1.ne.tb⟩⟩,c1,by simp[ol],by omega,by omega⟩) ?rest
  rintro e st ⟨rfl,S,w,X,hI,hX,hG,oL,hC⟩
  have Sz:=hG.sd.flat
  rcases hX with ⟨rfl,Xq⟩|⟨g,L,Xq,rfl,hh⟩
  ·rw[Xq] at Sz hG oL;have hf1:Flat (.agg (aA (wS S (.v (.slice none 0 0))))):=Sz
   simp only[ZG,seval,Bool.false_and,Prod.mk.injEq,Bl,hI];exact⟨_,by apply dK;rfl;all_goals simp only[aH,bY,Z8,seval,hI,hf1]<;>rfl,_,0,rfl,hf1,by decide,fun _=>⟨w,hG,oL,hC⟩⟩
  ·have hLf:∀x∈L,Flat x.eU:=fun x hx=>(hG.sd.eV x (by rw[Xq];exact hx)).fl
   have hex:∀st:St,st.heap 61 g=some (.row 87 67 L.length (dN L))→fO st (.agg (aA (wS S (.own 61 g))))=some (.agg (aA (wS S (ov dN (some L))))):=fun st hh=>Xo hG.sd hLf st hh
   rw[Xq] at Sz hG oL;simp only[ZG,seval,Bool.false_and,Prod.mk.injEq,Bl,hI];exact⟨_,by apply dK;rfl;all_goals simp only[aH,bY,Z8,seval,hI,hh,hex]<;>rfl,_,0,rfl,Sz,by decide,fun _=>⟨w,hG,oL,hC⟩⟩
 have k67':=k67 h1.sd
 have pv:=aCB fun n hn=>(r1.nd n hn).1
 have D5:=k61 h1.sd h1.up h1.sp (Jq v.ns).pj (Jq v.ns).pf
 have h2:=h1.dQ (Jq v.ns).pj (Jq v.ns).pf
 have r2:=RG.dQ r1 pv.1 pv.2
 have c2:=wR { s with now:=s.now+1,eR:=dR } v (Jq v.ns).pj (Jq v.ns).pf
 have e2:=h2.sd.early
 rw[uE] at e2;obtain⟨S2,hS2⟩:∃S2,uU { s with now:=s.now+1,eR:=dR } v (Jq v.ns).pj (Jq v.ns).pf=S2:=⟨_,rfl⟩
 rw[hS2] at D5 h2 r2 c2 e2
 have c3:S2.cFg=s.cFg:=c2
 simp only[ZG,seval,Bool.false_and,Prod.mk.injEq,Bl,g1,hw,Mq,bt g2,k67',D5,e2];refine Jg (a:=Jf) (aCC s.cFg q) (T4 (E:=v.E) h.sd.eV r.ne.ea (by omega) (by omega) (m:=(ol v.E).length) ⟨0,S2,{ Cy { s with now:=s.now+1,eR:=dR } v (Jq v.ns).pj (Jq v.ns).pf with E:=none },.v (.slice none 0 0),⟨by simp only[E8,seval],by simp only[E8,seval]<;>rfl,by simp only[E8,seval],by simp only[E8,seval],by simp only[E8,seval],by simp only[E8,seval]<;>rfl,by simp only[E8,seval]<;>omega,by simp only[E8,seval]<;>omega⟩,.inl ⟨rfl,rfl⟩,h2.early none (by simp[ol]) (by show ((0:Nat):Int)≤_;rw[c3];omega),⟨r2.now,r2.j,r2.f,r2.nd,r2.or,r2.rt,r2.fe,r2.ds,r2.tb,⟨r2.ne.q,nofun,r2.ne.o,r2.ne.t,(fun a ha=>by cases ha),r2.ne.tb⟩⟩,c3,by simp[ol],by omega,by omega⟩) ?Xg
 rintro e st ⟨rfl,S,w,X,hI,hX,hG,oL,hC⟩
 have Sz:=hG.sd.flat
 rcases hX with ⟨rfl,Xq⟩|⟨g,L,Xq,rfl,hh⟩
 ·rw[Xq] at Sz hG oL;have hf1:Flat (.agg (aA (wS S (.v (.slice none 0 0))))):=Sz
  simp only[ZG,seval,Bool.false_and,Prod.mk.injEq,Bl,hI];exact⟨_,by apply dK;rfl;all_goals simp only[aH,bY,Z8,seval,hI,hf1]<;>rfl,_,0,rfl,hf1,by decide,fun _=>⟨w,hG,oL,hC⟩⟩
 ·have hLf:∀x∈L,Flat x.eU:=fun x hx=>(hG.sd.eV x (by rw[Xq];exact hx)).fl
  have hex:∀st:St,st.heap 61 g=some (.row 87 67 L.length (dN L))→fO st (.agg (aA (wS S (.own 61 g))))=some (.agg (aA (wS S (ov dN (some L))))):=fun st hh=>Xo hG.sd hLf st hh
  rw[Xq] at Sz hG oL;simp only[ZG,seval,Bool.false_and,Prod.mk.injEq,Bl,hI];exact⟨_,by apply dK;rfl;all_goals simp only[aH,bY,Z8,seval,hI,hh,hex]<;>rfl,_,0,rfl,Sz,by decide,fun _=>⟨w,hG,oL,hC⟩⟩
def Df (t:State) (X Y:AV) (tag:Int):State:={ t with iY:=X,rI:=Y,cZ:=tag }
theorem aMq:aC 0 3 (some 3)=[]∧aC 1 8 (some 8)=[]∧aC 2 8 (some 14)=[]∧aC 3 5 (some 21)=[]∧aC 4 2 (some 25)=[]:=⟨rfl,rfl,rfl,rfl,rfl⟩
theorem aFm (t:State) (Y:AV) (o:Option (List Request)) (tag:Int) (hn:((ol o).length:Int)<1000000) (r:cJ) (n:Int) :
 ∃G:St→St,∀st,pR Tryz.prog 86 [.agg (aP (Df t (ov aE o) Y tag)),.agg (bD r),.v (.int .i64 n)] st=some (.agg (aP (Df t (.own 19 (st.aQ 19)) Y (IntKind.u64.wrap (tag+1)))),G st)∧Fi st (G st)∧(G st).heap 19 (st.aQ 19)=some (.row 63 35 (ol o++[(⟨⟨tag⟩,r,n,0⟩:Request)]).length (aE (ol o++[(⟨⟨tag⟩,r,n,0⟩:Request)])))∧st.aQ 19<(G st).aQ 19:=by
 have one:∀st,∃st',pR Tryz.prog 86 [.agg (aP (Df t (ov aE o) Y tag)),.agg (bD r),.v (.int .i64 n)] st=some (.agg (aP (Df t (.own 19 (st.aQ 19)) Y (IntKind.u64.wrap (tag+1)))),st')∧Fi st (st')∧(st').heap 19 (st.aQ 19)=some (.row 63 35 (ol o++[(⟨⟨tag⟩,r,n,0⟩:Request)]).length (aE (ol o++[(⟨⟨tag⟩,r,n,0⟩:Request)])))∧st.aQ 19<(st').aQ 19:=by
  intro st;by_cases hy:True
  case neg=>exact⟨st,absurd trivial hy⟩
  suffices h:∃st',pR Tryz.prog 86 [.agg (aP (Df t (ov aE o) Y tag)),.agg (bD r),.v (.int .i64 n)] st=some (.agg (aP (Df t (.own 19 (st.aQ 19)) Y (IntKind.u64.wrap (tag+1)))),st')∧Fi st (st')∧(st').heap 19 (st.aQ 19)=some (.row 63 35 (ol o++[(⟨⟨tag⟩,r,n,0⟩:Request)]).length (aE (ol o++[(⟨⟨tag⟩,r,n,0⟩:Request)])))∧st.aQ 19<(st').aQ 19 by
   obtain⟨st',h⟩:=h
   exact⟨st',h⟩
  have e1:(Df t (ov aE o) Y tag).iY=ov aE o:=rfl
  have e2:(Df t (ov aE o) Y tag).cZ=tag:=rfl
  have zR:cX.due=0:=rfl
  rw[Bj Tryz.prog Tryz.func86 rfl (by kernel_rfl)]
  simp only[ZG,seval,Bool.false_and,Prod.mk.injEq,aMq,e1,e2,zR,rA _ hn,tK _ _ _ _ hn];refine⟨_,wV (P:=Tryz.prog) (fn:=Tryz.f86) (r:=.cell 6 58) (x:=.agg (aP (Df t (.own 19 (st.aQ 19)) Y (IntKind.u64.wrap (tag+1))))) (.inl rfl) rfl ?h1,⟨fun x g hg=>?h2,fun x=>?h3⟩, ?h4, ?h5⟩
  case h1 =>
   rw[rH];simp only[bY,Z8,seval];rfl
  case h2 =>
   have n3:(x=3∧g=st.aQ 3)=False:=eq_false (by rintro⟨rfl,rfl⟩;omega)
   have n4:(x=4∧g=st.aQ 4)=False:=eq_false (by rintro⟨rfl,rfl⟩;omega)
   have n6:(x=6∧g=st.aQ 6)=False:=eq_false (by rintro⟨rfl,rfl⟩;omega)
   have n7:(x=7∧g=st.aQ 7)=False:=eq_false (by rintro⟨rfl,rfl⟩;omega)
   have n16:(x=16∧g=st.aQ 16)=False:=eq_false (by rintro⟨rfl,rfl⟩;omega)
   have n18:(x=18∧g=st.aQ 18)=False:=eq_false (by rintro⟨rfl,rfl⟩;omega)
   have n19:(x=19∧g=st.aQ 19)=False:=eq_false (by rintro⟨rfl,rfl⟩;omega)
   simp only[E8,seval,aT,aX,n3,n4,n6,n7,n16,n18,n19,if_false]
  case h3 =>
   simp only[E8,seval,aT,aX];split<;>(try split)<;>(try split)<;>(try split)<;>(try split)<;>(try split)<;>(try split)<;>subst_vars<;>omega
  case h4=>simp only[E8,seval,aT,aX]
  case h5=>simp only[E8,seval,aT,aX]<;>omega
 exact⟨fun st=>Classical.choose (one st),fun st=>Classical.choose_spec (one st)⟩
theorem T5 (t:State) (Y:AV) (g0:Nat) (L:List Request) (tag:Int) (hn:((L).length:Int)<1000000) (r:cJ) (n:Int) :
 ∃G:St→St,∀st,(st.heap 19 g0=some (.row 63 35 L.length (aE L))∧g0<st.aQ 19)→pR Tryz.prog 86 [.agg (aP (Df t (.own 19 g0) Y tag)),.agg (bD r),.v (.int .i64 n)] st=some (.agg (aP (Df t (.own 19 (st.aQ 19)) Y (IntKind.u64.wrap (tag+1)))),G st)∧Fi st (G st)∧(G st).heap 19 (st.aQ 19)=some (.row 63 35 (L++[(⟨⟨tag⟩,r,n,0⟩:Request)]).length (aE (L++[(⟨⟨tag⟩,r,n,0⟩:Request)])))∧st.aQ 19<(G st).aQ 19:=by
 have one:∀st,∃st',(st.heap 19 g0=some (.row 63 35 L.length (aE L))∧g0<st.aQ 19)→pR Tryz.prog 86 [.agg (aP (Df t (.own 19 g0) Y tag)),.agg (bD r),.v (.int .i64 n)] st=some (.agg (aP (Df t (.own 19 (st.aQ 19)) Y (IntKind.u64.wrap (tag+1)))),st')∧Fi st (st')∧(st').heap 19 (st.aQ 19)=some (.row 63 35 (L++[(⟨⟨tag⟩,r,n,0⟩:Request)]).length (aE (L++[(⟨⟨tag⟩,r,n,0⟩:Request)])))∧st.aQ 19<(st').aQ 19:=by
  intro st;by_cases hy:(st.heap 19 g0=some (.row 63 35 L.length (aE L))∧g0<st.aQ 19)
  case neg=>exact⟨st,fun h=>absurd h hy⟩
  suffices h:∃st',pR Tryz.prog 86 [.agg (aP (Df t (.own 19 g0) Y tag)),.agg (bD r),.v (.int .i64 n)] st=some (.agg (aP (Df t (.own 19 (st.aQ 19)) Y (IntKind.u64.wrap (tag+1)))),st')∧Fi st (st')∧(st').heap 19 (st.aQ 19)=some (.row 63 35 (L++[(⟨⟨tag⟩,r,n,0⟩:Request)]).length (aE (L++[(⟨⟨tag⟩,r,n,0⟩:Request)])))∧st.aQ 19<(st').aQ 19 by
   obtain⟨st',h⟩:=h
   exact⟨st',fun _=>h⟩
  have e1:(Df t (.own 19 g0) Y tag).iY=.own 19 g0:=rfl
  have e2:(Df t (.own 19 g0) Y tag).cZ=tag:=rfl
  have zR:cX.due=0:=rfl
  have uV:(g0=st.aQ 19)=False:=eq_false (by have:=hy.2;omega)
  rw[Bj Tryz.prog Tryz.func86 rfl (by kernel_rfl)]
  simp only[ZG,seval,Bool.false_and,Prod.mk.injEq,aMq,e1,e2,zR,hy.1,uV,rA _ hn,tK _ _ _ _ hn];refine⟨_,wV (P:=Tryz.prog) (fn:=Tryz.f86) (r:=.cell 6 58) (x:=.agg (aP (Df t (.own 19 (st.aQ 19)) Y (IntKind.u64.wrap (tag+1))))) (.inl rfl) rfl ?h1,⟨fun x g hg=>?h2,fun x=>?h3⟩, ?h4, ?h5⟩
  case h1 =>
   rw[rH];simp only[bY,Z8,seval];rfl
  case h2 =>
   have n3:(x=3∧g=st.aQ 3)=False:=eq_false (by rintro⟨rfl,rfl⟩;omega)
   have n4:(x=4∧g=st.aQ 4)=False:=eq_false (by rintro⟨rfl,rfl⟩;omega)
   have n6:(x=6∧g=st.aQ 6)=False:=eq_false (by rintro⟨rfl,rfl⟩;omega)
   have n7:(x=7∧g=st.aQ 7)=False:=eq_false (by rintro⟨rfl,rfl⟩;omega)
   have n16:(x=16∧g=st.aQ 16)=False:=eq_false (by rintro⟨rfl,rfl⟩;omega)
   have n18:(x=18∧g=st.aQ 18)=False:=eq_false (by rintro⟨rfl,rfl⟩;omega)
   have n19:(x=19∧g=st.aQ 19)=False:=eq_false (by rintro⟨rfl,rfl⟩;omega)
   simp only[E8,seval,aT,aX,n3,n4,n6,n7,n16,n18,n19,if_false]
  case h3 =>
   simp only[E8,seval,aT,aX];split<;>(try split)<;>(try split)<;>(try split)<;>(try split)<;>(try split)<;>(try split)<;>subst_vars<;>omega
  case h4=>simp only[E8,seval,aT,aX]
  case h5=>simp only[E8,seval,aT,aX]<;>omega
 exact⟨fun st=>Classical.choose (one st),fun st=>Classical.choose_spec (one st)⟩
noncomputable def Ln (ns:List Node) (now:Int) (a:(Option (List Request) × Int) × List Request) (r:Request):(Option (List Request) × Int) × List Request :=
 if now<r.due then (a.1,a.2++[r]) else if zQ ns r.block then ((some (ol a.1.1++[⟨⟨a.1.2⟩,r.block,r.tries,0⟩]),IntKind.u64.wrap (a.1.2+1)),a.2) else a
noncomputable def zS (ns:List Node) (now:Int) (a:(Option (List Request) × Int) × List Request) (l:List Request):(Option (List Request) × Int) × List Request:=l.foldl (Ln ns now) a
theorem D6 (ns:List Node) (now:Int) (a:(Option (List Request) × Int) × List Request) (l:List Request) (k:Nat) (h:k<l.length):zS ns now a (l.take (k+1))=Ln ns now (zS ns now a (l.take k)) (gx cX l k):=by
 unfold zS;rw[List.take_succ_eq_append_getElem h,List.foldl_append];simp[gx,h]
theorem T6 (ns:List Node) (now:Int) (a:(Option (List Request) × Int) × List Request) (r:Request):(ol (Ln ns now a r).1.1).length≤(ol a.1.1).length+1∧(Ln ns now a r).2.length≤a.2.length+1:=by
 unfold Ln;split
 ·refine⟨by dsimp only;omega, ?_⟩
  dsimp only;rw[List.length_append,List.length_cons,List.length_nil];omega
 ·split
  ·refine⟨?_,by dsimp only;omega⟩
   show (ol a.1.1++[_]).length≤_;rw[List.length_append,List.length_cons,List.length_nil];omega
  ·omega
theorem ND (ns:List Node) (now:Int) (l:List Request):∀(a:(Option (List Request) × Int) × List Request),(ol (zS ns now a l).1.1).length≤(ol a.1.1).length+l.length∧(zS ns now a l).2.length≤a.2.length+l.length:=by
 induction l with
 | nil=>intro a;exact⟨Nat.le_refl _,Nat.le_refl _⟩
 | cons r l ih =>
   intro a;have h1:=ih (Ln ns now a r)
   have h2:=T6 ns now a r
   rw[List.length_cons];show (ol (zS ns now (Ln ns now a r) l).1.1).length≤_∧(zS ns now (Ln ns now a r) l).2.length≤_
   omega
theorem pT {st:St} (o:Option (List Request)):cN st (ov aE o)=some (ov aE o):=Xi (iZ o)
theorem kA {st:St} {a g:Nat} {L:List Request} (h:st.heap a g=some (.row 63 35 L.length (aE L))):cN st (.own a g)=some (ov aE (some L)):=by
 rw[bP,h];exact pK _ _
theorem ZR {t:State} {v:SV} {Q R:Option (List Request)} (h:TD t v Q R) (st:St) {X Y X' Y':AV} (hx:cN st X=some X') (hy:cN st Y=some Y') (tag:Int):fO st (.agg (aP (Df t X Y tag)))=some (.agg (aP (Df t X' Y' tag))):=by
 have pH:=h.fl
 unfold Df;simp only[bQ,vT,gG,hx,hy,cV,dV,pH,cK]
theorem TD.rq {t:State} {v:SV} {Q R:Option (List Request)} (h:TD t v Q R) (q z:Option (List Request)) (tag:Int) (hq:((ol q).length:Int)<900000) (hz:((ol z).length:Int)<900000):TD (Df t (ov aE q) (ov aE z) tag) v q z:=⟨h.sd,rfl,rfl,hq,hz⟩
theorem NF {t:State} {v:SV} {Q R:Option (List Request)} (h:TD t v Q R) (q z:Option (List Request)) (tag:Int) (hq:((ol q).length:Int)<900000) (hz:((ol z).length:Int)<900000) (r:cJ) (st:St) (d:Option Nat) {X Y:AV} (hx:cN st X=some (ov aE q)) (hy:cN st Y=some (ov aE z)) :
 aN (aB Tryz.prog) 85 [.agg (aP (Df t X Y tag)),.agg (bD r)] st d=some { dst:=d,val:=.v (.bool (decide (zQ v.ns r)))}:=by
 rw[jS,List.map_cons,List.map_cons,List.map_nil,ZR h st hx hy,Qu,bN,bN,fR];exact Qi (c85 (h.rq q z tag hq hz) r)
theorem aCE {call:Nat→List AV→Option AV} {inl:Nat→List AV→St→Option (AV × St)} {ops:Array Oper} {st:St} {T:Nat} {pos:String} {eQ:Array Edge} (x:Array Operand) (y:Array Nat) :
 gT Tryz.prog true call inl ops ⟨some 50,.call ⟨.value (.func 86),x,y⟩,T,pos,eQ,none⟩ st=cS (inl 86 (x.toList.map st.ev) st) fun r=>some ((st.back r.2).put (some 50) r.1):=UW 86 x y (Xp rfl)
noncomputable def HD (t:State) (ns:List Node) (Q R:Option (List Request)):(Option (List Request) × Int) × List Request:=zS ns t.store.now ((Q,t.cZ),[]) (ol R)
noncomputable def aCF (t:State) (ns:List Node) (Q R:Option (List Request)):State:=Df t (ov aE (HD t ns Q R).1.1) (ov aE (nz (HD t ns Q R).2)) (HD t ns Q R).1.2
theorem Cc (t:State) (X Y:AV) (tag:Int):(Df t X Y tag).iY=X:=rfl
theorem Cd (t:State) (X Y:AV) (tag:Int):(Df t X Y tag).rI=Y:=rfl
theorem Ce (t:State) (X Y:AV) (tag:Int):(Df t X Y tag).cZ=tag:=rfl
theorem Cf (t:State) (X Y:AV) (tag:Int):(Df t X Y tag).store=t.store:=rfl
theorem c74 {t:State} {v:SV} {Q R:Option (List Request)} (h:TD t v Q R) (hn:((ol Q).length:Int)+(ol R).length<800000):aB Tryz.prog 74 [.agg (aP t)]=some (.agg (aP (aCF t v.ns Q R))):=by
 have pH:=h.fl
 have nR:=h.nR
 have hlen:∀k:Nat,(ol (zS v.ns t.store.now ((Q,t.cZ),[]) ((ol R).take k)).1.1).length≤(ol Q).length+(ol R).length∧(zS v.ns t.store.now ((Q,t.cZ),[]) ((ol R).take k)).2.length≤(ol R).length:=fun k=>by
  have h1:=ND v.ns t.store.now ((ol R).take k) ((Q,t.cZ),[])
  have h2:=List.length_take_le' k (ol R)
  have e:(ol ((Q,t.cZ),([]:List Request)).1.1).length=(ol Q).length:=rfl
  have e2:((Q,t.cZ),([]:List Request)).2.length=0:=rfl
  rw[e,e2] at h1;omega
 rw[cG Tryz.func74 rfl aRz (by kernel_rfl) rfl]
 refine iN ?_
 simp only[ZG,seval,Bool.false_and,Prod.mk.injEq,Jt,h.ret];refine jH (fun m st=>∃(k:Nat) (X Y:AV) (p:(Option (List Request) × Int) × List Request),(st.env 1=.ptr 1 0 0∧st.heap 1 0=some (.cells (aP (Df t X Y p.1.2)))∧st.env 2=.ptr 2 0 0∧st.heap 2 0=some (.cells (aP lW))∧st.env 3=ov aE R∧st.env 4=.v (.int .i64 k)∧0<st.aQ 1∧0<st.aQ 2)∧(X=ov aE p.1.1∨∃g L,p.1.1=some L∧X=.own 19 g∧g<st.aQ 19∧st.heap 19 g=some (.row 63 35 L.length (aE L)))∧((Y=.v (.slice none 0 0)∧p.2=[])∨∃g,p.2≠[]∧Y=.own 30 g∧g<st.aQ 30∧st.heap 30 g=some (.row 63 35 p.2.length (aE p.2)))∧p=zS v.ns t.store.now ((Q,t.cZ),[]) ((ol R).take k)∧k≤(ol R).length∧m=(ol R).length-k)
  (fun e st=>e=.exit 0∧∃(X Y:AV) (p:(Option (List Request) × Int) × List Request),(st.env 1=.ptr 1 0 0∧st.heap 1 0=some (.cells (aP (Df t X Y p.1.2)))∧st.env 2=.ptr 2 0 0∧st.heap 2 0=some (.cells (aP lW)))∧(X=ov aE p.1.1∨∃g L,p.1.1=some L∧X=.own 19 g∧st.heap 19 g=some (.row 63 35 L.length (aE L)))∧((Y=.v (.slice none 0 0)∧p.2=[])∨∃g,p.2≠[]∧Y=.own 30 g∧st.heap 30 g=some (.row 63 35 p.2.length (aE p.2)))∧p=HD t v.ns Q R) (ol R).length ?step ?start ?rest
 case step =>
  rintro m st ⟨k,X,Y,p,hI,hX,hY,hp,hk,hm⟩
  by_cases bA:(k:Int)<(ol R).length
  case neg =>
   have Az:k=(ol R).length:=by omega
   rw[Az,List.take_length] at hp;have hX':(X=ov aE p.1.1∨∃g L,p.1.1=some L∧X=.own 19 g∧st.heap 19 g=some (.row 63 35 L.length (aE L))):=hX.imp id fun ⟨g,L,a,b,_,c⟩=>⟨g,L,a,b,c⟩
   have hY':((Y=.v (.slice none 0 0)∧p.2=[])∨∃g,p.2≠[]∧Y=.own 30 g∧st.heap 30 g=some (.row 63 35 p.2.length (aE p.2))):=hY.imp id fun ⟨g,a,b,_,c⟩=>⟨g,a,b,c⟩
   apply AX (.exit 0)
   ·simp only[ZG,seval,Bool.false_and,Prod.mk.injEq,Jt,hI,bA];rfl
   ·exact⟨rfl,X,Y,p,by simp only[E8,seval,hI],by simpa only[E8,seval] using hX',by simpa only[E8,seval] using hY',hp⟩
  have q0:(0:Int)≤k:=by omega
  have hw:IntKind.i64.wrap ((k:Int)+1)=((k+1:Nat):Int):=by rw[mZ _ (by omega) (by omega)];omega
  have hs:=D6 v.ns t.store.now ((Q,t.cZ),[]) (ol R) k (by omega)
  have hl:=hlen k
  have yC:=hlen (k+1)
  rw[← hp] at hs hl;obtain⟨r,er⟩:∃r,gx cX (ol R) (k:Int)=r:=⟨_,rfl⟩
  rw[er] at hs;unfold Ln at hs;have M0:((ol p.1.1).length:Int)<900000:=by omega
  have nZ9:(p.2.length:Int)<900000:=by omega
  have nZ:(p.2.length:Int)<1000000:=by omega
  by_cases g1:t.store.now<r.due
  ·rw[if_pos g1] at hs;rcases hY with ⟨rfl,hz⟩|⟨g,hz,rfl,hg,hh⟩
   ·apply Am ((ol R).length-(k+1))
    ·simp only[ZG,seval,Bool.false_and,Prod.mk.injEq,Jt,hI,bA,q0,er,Cc,Cd,Ce,Cf,g1,hw];rfl
    ·exact⟨k+1,X,_,(p.1,p.2++[r]),by and_intros<;>(simp only[E8,seval,hI]<;>rfl),by simpa only[E8,seval] using hX,.inr ⟨_,by simp,rfl,by simp only[E8,seval]<;>omega,by rw[hz];simp only[E8,seval]<;>rfl⟩,hs.symm,by omega,rfl⟩
   ·have uV:(g=st.aQ 30)=False:=eq_false (by omega)
    apply Am ((ol R).length-(k+1))
    ·simp only[ZG,seval,Bool.false_and,Prod.mk.injEq,Jt,hI,bA,q0,er,Cc,Cd,Ce,Cf,hh,uV,g1,hw,tK _ _ _ _ nZ];rfl
    ·exact⟨k+1,X,_,(p.1,p.2++[r]),by and_intros<;>(simp only[E8,seval,hI]<;>rfl),by simpa only[E8,seval] using hX,.inr ⟨_,by simp,rfl,by simp only[E8,seval]<;>omega,by simp only[E8,seval]<;>rfl⟩,hs.symm,by omega,rfl⟩
  rw[if_neg g1] at hs;by_cases g2:zQ v.ns r.block
  case neg =>
   rw[if_neg g2] at hs;rcases hX with rfl|⟨g,L,hL,rfl,hg,hh⟩
   ·rcases hY with ⟨rfl,hz⟩|⟨g9,hz,rfl,hg9,NG⟩
    ·have Lo:∀(st:St) (d:Option Nat),aN (aB Tryz.prog) 85 [.agg (aP (Df t (ov aE p.1.1) (.v (.slice none 0 0)) p.1.2)),.agg (bD r.block)] st d=some { dst:=d,val:=.v (.bool (decide (zQ v.ns r.block)))}:=fun st d=>NF h p.1.1 none p.1.2 M0 (by show ((0:Nat):Int)<_;omega) r.block st d (pT _) (show cN st (.v (.slice none 0 0))=some (ov aE none) from pT none)
     apply Am ((ol R).length-(k+1))
     ·simp only[ZG,seval,Bool.false_and,Prod.mk.injEq,Jt,hI,bA,q0,er,Cc,Cd,Ce,Cf,g1,Lo,g2,hw];rfl
     ·exact⟨k+1,_,_,p,by and_intros<;>(simp only[E8,seval,hI]<;>rfl),.inl rfl,.inl ⟨rfl,hz⟩,hs.symm,by omega,rfl⟩
    ·have Lo:∀(st:St) (d:Option Nat),st.heap 30 g9=some (.row 63 35 p.2.length (aE p.2))→aN (aB Tryz.prog) 85 [.agg (aP (Df t (ov aE p.1.1) (.own 30 g9) p.1.2)),.agg (bD r.block)] st d=some { dst:=d,val:=.v (.bool (decide (zQ v.ns r.block)))}:=fun st d h2=>NF h p.1.1 (some p.2) p.1.2 M0 nZ9 r.block st d (pT _) (show cN st (.own 30 g9)=some (ov aE (some p.2)) from kA h2)
     apply Am ((ol R).length-(k+1))
     ·simp only[ZG,seval,Bool.false_and,Prod.mk.injEq,Jt,hI,bA,q0,er,Cc,Cd,Ce,Cf,g1,Lo,NG,g2,hw];rfl
     ·exact⟨k+1,_,_,p,by and_intros<;>(simp only[E8,seval,hI]<;>rfl),.inl rfl,.inr ⟨g9,hz,rfl,by simp only[E8,seval]<;>omega,by simp only[E8,seval,NG]⟩,hs.symm,by omega,rfl⟩
   ·rcases hY with ⟨rfl,hz⟩|⟨g9,hz,rfl,hg9,NG⟩
    ·have Lo:∀(st:St) (d:Option Nat),st.heap 19 g=some (.row 63 35 L.length (aE L))→aN (aB Tryz.prog) 85 [.agg (aP (Df t (.own 19 g) (.v (.slice none 0 0)) p.1.2)),.agg (bD r.block)] st d=some { dst:=d,val:=.v (.bool (decide (zQ v.ns r.block)))}:=fun st d h1=>NF h p.1.1 none p.1.2 M0 (by show ((0:Nat):Int)<_;omega) r.block st d (by rw[hL];exact kA h1) (show cN st (.v (.slice none 0 0))=some (ov aE none) from pT none)
     apply Am ((ol R).length-(k+1))
     ·simp only[ZG,seval,Bool.false_and,Prod.mk.injEq,Jt,hI,bA,q0,er,Cc,Cd,Ce,Cf,g1,Lo,hh,g2,hw];rfl
     ·exact⟨k+1,_,_,p,by and_intros<;>(simp only[E8,seval,hI]<;>rfl),.inr ⟨g,L,hL,rfl,by simp only[E8,seval]<;>omega,by simp only[E8,seval,hh]⟩,.inl ⟨rfl,hz⟩,hs.symm,by omega,rfl⟩
    ·have Lo:∀(st:St) (d:Option Nat),st.heap 19 g=some (.row 63 35 L.length (aE L))→st.heap 30 g9=some (.row 63 35 p.2.length (aE p.2))→aN (aB Tryz.prog) 85 [.agg (aP (Df t (.own 19 g) (.own 30 g9) p.1.2)),.agg (bD r.block)] st d=some { dst:=d,val:=.v (.bool (decide (zQ v.ns r.block)))}:=fun st d h1 h2=>NF h p.1.1 (some p.2) p.1.2 M0 nZ9 r.block st d (by rw[hL];exact kA h1) (show cN st (.own 30 g9)=some (ov aE (some p.2)) from kA h2)
     apply Am ((ol R).length-(k+1))
     ·simp only[ZG,seval,Bool.false_and,Prod.mk.injEq,Jt,hI,bA,q0,er,Cc,Cd,Ce,Cf,g1,Lo,hh,NG,g2,hw];rfl
     ·exact⟨k+1,_,_,p,by and_intros<;>(simp only[E8,seval,hI]<;>rfl),.inr ⟨g,L,hL,rfl,by simp only[E8,seval]<;>omega,by simp only[E8,seval,hh]⟩,.inr ⟨g9,hz,rfl,by simp only[E8,seval]<;>omega,by simp only[E8,seval,NG]⟩,hs.symm,by omega,rfl⟩
  rw[if_pos g2] at hs;rcases hX with rfl|⟨g,L,hL,rfl,hg,hh⟩
  ·rcases hY with ⟨rfl,hz⟩|⟨g9,hz,rfl,hg9,NG⟩
   ·have Lo:∀(st:St) (d:Option Nat),aN (aB Tryz.prog) 85 [.agg (aP (Df t (ov aE p.1.1) (.v (.slice none 0 0)) p.1.2)),.agg (bD r.block)] st d=some { dst:=d,val:=.v (.bool (decide (zQ v.ns r.block)))}:=fun st d=>NF h p.1.1 none p.1.2 M0 (by show ((0:Nat):Int)<_;omega) r.block st d (pT _) (show cN st (.v (.slice none 0 0))=some (ov aE none) from pT none)
    obtain⟨G,hG⟩:=aFm t (.v (.slice none 0 0)) p.1.1 p.1.2 (by omega) r.block r.tries
    have kG:=fun st=>(hG st).1
    have f1:∀st:St,0<st.aQ 1→(G st).heap 1 0=st.heap 1 0:=fun st h=>(hG st).2.1.1 1 0 h
    have f2:∀st:St,0<st.aQ 2→(G st).heap 2 0=st.heap 2 0:=fun st h=>(hG st).2.1.1 2 0 h
    have c1:∀st:St,0<st.aQ 1→(0<(G st).aQ 1)=True:=fun st h=>eq_true (Nat.lt_of_lt_of_le h ((hG st).2.1.2 1))
    have c2:∀st:St,0<st.aQ 2→(0<(G st).aQ 2)=True:=fun st h=>eq_true (Nat.lt_of_lt_of_le h ((hG st).2.1.2 2))
    have fn:∀(st:St) (c:Nat),c=st.aQ 19→(G st).heap 19 c=_:=fun st c e=>e ▸ (hG st).2.2.1
    have cn:∀(st:St) (c:Nat),c=st.aQ 19→(c<(G st).aQ 19)=True:=fun st c e=>e ▸ eq_true (hG st).2.2.2
    apply Am ((ol R).length-(k+1))
    ·simp only[ZG,seval,Bool.false_and,Prod.mk.injEq,Jt,hI,bA,q0,er,Cc,Cd,Ce,Cf,g1,Lo,g2,aCE,kG,f1,bS,aT,aX,hw];rfl
    ·exact⟨k+1,_,_,((some (ol p.1.1++[(⟨⟨p.1.2⟩,r.block,r.tries,0⟩:Request)]),IntKind.u64.wrap (p.1.2+1)),p.2),⟨by simp only[E8,seval,hI,bS],by simp only[E8,seval,hI,aT,aX]<;>rfl,by simp only[E8,seval,hI,bS],by simp only[E8,seval,hI,aT,aX,f2],by simp only[E8,seval,hI,bS],by simp only[E8,seval,hI,bS],by simp only[E8,seval,hI,aX,c1],by simp only[E8,seval,hI,aX,c2]⟩,.inr ⟨_,(ol p.1.1++[(⟨⟨p.1.2⟩,r.block,r.tries,0⟩:Request)]),rfl,rfl,by simp only[E8,seval,aX,cn],by simp only[E8,seval,aT,aX,fn]⟩,.inl ⟨rfl,hz⟩,hs.symm,by omega,rfl⟩
   ·have Lo:∀(st:St) (d:Option Nat),st.heap 30 g9=some (.row 63 35 p.2.length (aE p.2))→aN (aB Tryz.prog) 85 [.agg (aP (Df t (ov aE p.1.1) (.own 30 g9) p.1.2)),.agg (bD r.block)] st d=some { dst:=d,val:=.v (.bool (decide (zQ v.ns r.block)))}:=fun st d h2=>NF h p.1.1 (some p.2) p.1.2 M0 nZ9 r.block st d (pT _) (show cN st (.own 30 g9)=some (ov aE (some p.2)) from kA h2)
    obtain⟨G,hG⟩:=aFm t (.own 30 g9) p.1.1 p.1.2 (by omega) r.block r.tries
    have kG:=fun st=>(hG st).1
    have f1:∀st:St,0<st.aQ 1→(G st).heap 1 0=st.heap 1 0:=fun st h=>(hG st).2.1.1 1 0 h
    have f2:∀st:St,0<st.aQ 2→(G st).heap 2 0=st.heap 2 0:=fun st h=>(hG st).2.1.1 2 0 h
    have c1:∀st:St,0<st.aQ 1→(0<(G st).aQ 1)=True:=fun st h=>eq_true (Nat.lt_of_lt_of_le h ((hG st).2.1.2 1))
    have c2:∀st:St,0<st.aQ 2→(0<(G st).aQ 2)=True:=fun st h=>eq_true (Nat.lt_of_lt_of_le h ((hG st).2.1.2 2))
    have fn:∀(st:St) (c:Nat),c=st.aQ 19→(G st).heap 19 c=_:=fun st c e=>e ▸ (hG st).2.2.1
    have cn:∀(st:St) (c:Nat),c=st.aQ 19→(c<(G st).aQ 19)=True:=fun st c e=>e ▸ eq_true (hG st).2.2.2
    have f3:∀st:St,g9<st.aQ 30→(G st).heap 30 g9=st.heap 30 g9:=fun st h=>(hG st).2.1.1 30 g9 h
    have c3:∀st:St,g9<st.aQ 30→(g9<(G st).aQ 30)=True:=fun st h=>eq_true (Nat.lt_of_lt_of_le h ((hG st).2.1.2 30))
    apply Am ((ol R).length-(k+1))
    ·simp only[ZG,seval,Bool.false_and,Prod.mk.injEq,Jt,hI,bA,q0,er,Cc,Cd,Ce,Cf,g1,Lo,NG,g2,aCE,kG,f1,bS,aT,aX,hw];rfl
    ·exact⟨k+1,_,_,((some (ol p.1.1++[(⟨⟨p.1.2⟩,r.block,r.tries,0⟩:Request)]),IntKind.u64.wrap (p.1.2+1)),p.2),⟨by simp only[E8,seval,hI,bS],by simp only[E8,seval,hI,aT,aX]<;>rfl,by simp only[E8,seval,hI,bS],by simp only[E8,seval,hI,aT,aX,f2],by simp only[E8,seval,hI,bS],by simp only[E8,seval,hI,bS],by simp only[E8,seval,hI,aX,c1],by simp only[E8,seval,hI,aX,c2]⟩,.inr ⟨_,(ol p.1.1++[(⟨⟨p.1.2⟩,r.block,r.tries,0⟩:Request)]),rfl,rfl,by simp only[E8,seval,aX,cn],by simp only[E8,seval,aT,aX,fn]⟩,.inr ⟨g9,hz,rfl,by simp only[E8,seval,aX,hg9,c3],by simp only[E8,seval,aT,aX,hg9,NG,f3]⟩,hs.symm,by omega,rfl⟩
  ·rcases hY with ⟨rfl,hz⟩|⟨g9,hz,rfl,hg9,NG⟩
   ·have Lo:∀(st:St) (d:Option Nat),st.heap 19 g=some (.row 63 35 L.length (aE L))→aN (aB Tryz.prog) 85 [.agg (aP (Df t (.own 19 g) (.v (.slice none 0 0)) p.1.2)),.agg (bD r.block)] st d=some { dst:=d,val:=.v (.bool (decide (zQ v.ns r.block)))}:=fun st d h1=>NF h p.1.1 none p.1.2 M0 (by show ((0:Nat):Int)<_;omega) r.block st d (by rw[hL];exact kA h1) (show cN st (.v (.slice none 0 0))=some (ov aE none) from pT none)
    have nL:(L.length:Int)<1000000:=by rw[hL] at M0;have:(L.length:Int)<900000:=M0;omega
    obtain⟨G,hG⟩:=T5 t (.v (.slice none 0 0)) g L p.1.2 nL r.block r.tries
    have kG:∀st:St,st.heap 19 g=some (.row 63 35 L.length (aE L))→g<st.aQ 19→_:=fun st a b=>(hG st ⟨a,b⟩).1
    have f1:∀st:St,st.heap 19 g=some (.row 63 35 L.length (aE L))→g<st.aQ 19→0<st.aQ 1→(G st).heap 1 0=st.heap 1 0:=fun st a b h=>(hG st ⟨a,b⟩).2.1.1 1 0 h
    have f2:∀st:St,st.heap 19 g=some (.row 63 35 L.length (aE L))→g<st.aQ 19→0<st.aQ 2→(G st).heap 2 0=st.heap 2 0:=fun st a b h=>(hG st ⟨a,b⟩).2.1.1 2 0 h
    have c1:∀st:St,st.heap 19 g=some (.row 63 35 L.length (aE L))→g<st.aQ 19→0<st.aQ 1→(0<(G st).aQ 1)=True:=fun st a b h=>eq_true (Nat.lt_of_lt_of_le h ((hG st ⟨a,b⟩).2.1.2 1))
    have c2:∀st:St,st.heap 19 g=some (.row 63 35 L.length (aE L))→g<st.aQ 19→0<st.aQ 2→(0<(G st).aQ 2)=True:=fun st a b h=>eq_true (Nat.lt_of_lt_of_le h ((hG st ⟨a,b⟩).2.1.2 2))
    have fn:∀(st:St) (c:Nat),st.heap 19 g=some (.row 63 35 L.length (aE L))→g<st.aQ 19→c=st.aQ 19→(G st).heap 19 c=_:=fun st c a b e=>e ▸ (hG st ⟨a,b⟩).2.2.1
    have cn:∀(st:St) (c:Nat),st.heap 19 g=some (.row 63 35 L.length (aE L))→g<st.aQ 19→c=st.aQ 19→(c<(G st).aQ 19)=True:=fun st c a b e=>e ▸ eq_true (hG st ⟨a,b⟩).2.2.2
    have eL:ol p.1.1=L:=by rw[hL];rfl
    rw[eL] at hs;apply Am ((ol R).length-(k+1))
    ·simp only[ZG,seval,Bool.false_and,Prod.mk.injEq,Jt,hI,bA,q0,er,Cc,Cd,Ce,Cf,g1,Lo,hh,hg,g2,aCE,kG,f1,bS,aT,aX,hw];rfl
    ·exact⟨k+1,_,_,((some (L++[(⟨⟨p.1.2⟩,r.block,r.tries,0⟩:Request)]),IntKind.u64.wrap (p.1.2+1)),p.2),⟨by simp only[E8,seval,hI,bS],by simp only[E8,seval,hI,aT,aX]<;>rfl,by simp only[E8,seval,hI,bS],by simp only[E8,seval,hI,hh,hg,aT,aX,f2],by simp only[E8,seval,hI,bS],by simp only[E8,seval,hI,bS],by simp only[E8,seval,hI,hh,hg,aX,c1],by simp only[E8,seval,hI,hh,hg,aX,c2]⟩,.inr ⟨_,(L++[(⟨⟨p.1.2⟩,r.block,r.tries,0⟩:Request)]),rfl,rfl,by simp only[E8,seval,aX,hh,hg,cn],by simp only[E8,seval,aT,aX,hh,hg,fn]⟩,.inl ⟨rfl,hz⟩,hs.symm,by omega,rfl⟩
   ·have Lo:∀(st:St) (d:Option Nat),st.heap 19 g=some (.row 63 35 L.length (aE L))→st.heap 30 g9=some (.row 63 35 p.2.length (aE p.2))→aN (aB Tryz.prog) 85 [.agg (aP (Df t (.own 19 g) (.own 30 g9) p.1.2)),.agg (bD r.block)] st d=some { dst:=d,val:=.v (.bool (decide (zQ v.ns r.block)))}:=fun st d h1 h2=>NF h p.1.1 (some p.2) p.1.2 M0 nZ9 r.block st d (by rw[hL];exact kA h1) (show cN st (.own 30 g9)=some (ov aE (some p.2)) from kA h2)
    have nL:(L.length:Int)<1000000:=by rw[hL] at M0;have:(L.length:Int)<900000:=M0;omega
    obtain⟨G,hG⟩:=T5 t (.own 30 g9) g L p.1.2 nL r.block r.tries
    have kG:∀st:St,st.heap 19 g=some (.row 63 35 L.length (aE L))→g<st.aQ 19→_:=fun st a b=>(hG st ⟨a,b⟩).1
    have f1:∀st:St,st.heap 19 g=some (.row 63 35 L.length (aE L))→g<st.aQ 19→0<st.aQ 1→(G st).heap 1 0=st.heap 1 0:=fun st a b h=>(hG st ⟨a,b⟩).2.1.1 1 0 h
    have f2:∀st:St,st.heap 19 g=some (.row 63 35 L.length (aE L))→g<st.aQ 19→0<st.aQ 2→(G st).heap 2 0=st.heap 2 0:=fun st a b h=>(hG st ⟨a,b⟩).2.1.1 2 0 h
    have c1:∀st:St,st.heap 19 g=some (.row 63 35 L.length (aE L))→g<st.aQ 19→0<st.aQ 1→(0<(G st).aQ 1)=True:=fun st a b h=>eq_true (Nat.lt_of_lt_of_le h ((hG st ⟨a,b⟩).2.1.2 1))
    have c2:∀st:St,st.heap 19 g=some (.row 63 35 L.length (aE L))→g<st.aQ 19→0<st.aQ 2→(0<(G st).aQ 2)=True:=fun st a b h=>eq_true (Nat.lt_of_lt_of_le h ((hG st ⟨a,b⟩).2.1.2 2))
    have fn:∀(st:St) (c:Nat),st.heap 19 g=some (.row 63 35 L.length (aE L))→g<st.aQ 19→c=st.aQ 19→(G st).heap 19 c=_:=fun st c a b e=>e ▸ (hG st ⟨a,b⟩).2.2.1
    have cn:∀(st:St) (c:Nat),st.heap 19 g=some (.row 63 35 L.length (aE L))→g<st.aQ 19→c=st.aQ 19→(c<(G st).aQ 19)=True:=fun st c a b e=>e ▸ eq_true (hG st ⟨a,b⟩).2.2.2
    have f3:∀st:St,st.heap 19 g=some (.row 63 35 L.length (aE L))→g<st.aQ 19→g9<st.aQ 30→(G st).heap 30 g9=st.heap 30 g9:=fun st a b h=>(hG st ⟨a,b⟩).2.1.1 30 g9 h
    have c3:∀st:St,st.heap 19 g=some (.row 63 35 L.length (aE L))→g<st.aQ 19→g9<st.aQ 30→(g9<(G st).aQ 30)=True:=fun st a b h=>eq_true (Nat.lt_of_lt_of_le h ((hG st ⟨a,b⟩).2.1.2 30))
    have eL:ol p.1.1=L:=by rw[hL];rfl
    rw[eL] at hs;apply Am ((ol R).length-(k+1))
    ·simp only[ZG,seval,Bool.false_and,Prod.mk.injEq,Jt,hI,bA,q0,er,Cc,Cd,Ce,Cf,g1,Lo,hh,NG,hg,g2,aCE,kG,f1,bS,aT,aX,hw];rfl
    ·exact⟨k+1,_,_,((some (L++[(⟨⟨p.1.2⟩,r.block,r.tries,0⟩:Request)]),IntKind.u64.wrap (p.1.2+1)),p.2),⟨by simp only[E8,seval,hI,bS],by simp only[E8,seval,hI,aT,aX]<;>rfl,by simp only[E8,seval,hI,bS],by simp only[E8,seval,hI,hh,hg,aT,aX,f2],by simp only[E8,seval,hI,bS],by simp only[E8,seval,hI,bS],by simp only[E8,seval,hI,hh,hg,aX,c1],by simp only[E8,seval,hI,hh,hg,aX,c2]⟩,.inr ⟨_,(L++[(⟨⟨p.1.2⟩,r.block,r.tries,0⟩:Request)]),rfl,rfl,by simp only[E8,seval,aX,hh,hg,cn],by simp only[E8,seval,aT,aX,hh,hg,fn]⟩,.inr ⟨g9,hz,rfl,by simp only[E8,seval,aX,hg9,hh,hg,c3],by simp only[E8,seval,aT,aX,hg9,NG,hh,hg,f3]⟩,hs.symm,by omega,rfl⟩
 case start=>exact⟨0,ov aE Q,.v (.slice none 0 0),((Q,t.cZ),[]),⟨by simp only[E8,seval],by simp only[E8,seval,h.Gm]<;>rfl,by simp only[E8,seval],by simp only[E8,seval],by simp only[E8,seval],by simp only[E8,seval]<;>rfl,by simp only[E8,seval]<;>omega,by simp only[E8,seval]<;>omega⟩,.inl rfl,.inl ⟨rfl,rfl⟩,rfl,by omega,by omega⟩
 case rest =>
  rintro e st ⟨rfl,X,Y,p,hI,hX,hY,hp⟩
  have hv:aCF t v.ns Q R=Df t (ov aE p.1.1) (ov aE (nz p.2)) p.1.2:=by unfold aCF;rw[← hp]
  have hex:∀st:St,∀X' Y',cN st X=some X'→cN st Y=some Y'→fO st (.agg (aP (Df t X Y p.1.2)))=some (.agg (aP (Df t X' Y' p.1.2))):=fun st X' Y' hx hy=>ZR h st hx hy p.1.2
  rcases hX with rfl|⟨g,L,hL,rfl,hh⟩
  ·rcases hY with ⟨rfl,hz⟩|⟨g9,hz,rfl,NG⟩
   ·rw[hz,show nz ([]:List Request)=none from if_pos rfl] at hv
    simp only[ZG,seval,Bool.false_and,Prod.mk.injEq,Jt,hI];exact⟨_,eG rfl (by simp only[E8,seval,hI]<;>rfl) (by simp only[ZG,seval,hI]<;>rfl) (hex _ _ _ (pT _) (pT none)),by rw[hv]⟩
   ·rw[show nz p.2=some p.2 from if_neg hz] at hv;simp only[ZG,seval,Bool.false_and,Prod.mk.injEq,Jt,hI,NG];exact⟨_,eG rfl (by simp only[E8,seval,hI]<;>rfl) (by simp only[ZG,seval,hI]<;>rfl) (hex _ _ _ (pT _) (kA (by simp only[E8,seval,NG]<;>rfl))),by rw[hv]⟩
  ·rcases hY with ⟨rfl,hz⟩|⟨g9,hz,rfl,NG⟩
   ·rw[hz,show nz ([]:List Request)=none from if_pos rfl,hL] at hv
    simp only[ZG,seval,Bool.false_and,Prod.mk.injEq,Jt,hI,hh];exact⟨_,eG rfl (by simp only[E8,seval,hI]<;>rfl) (by simp only[ZG,seval,hI]<;>rfl) (hex _ _ _ (kA (by simp only[E8,seval,hh]<;>rfl)) (pT none)),by rw[hv]⟩
   ·rw[show nz p.2=some p.2 from if_neg hz,hL] at hv;simp only[ZG,seval,Bool.false_and,Prod.mk.injEq,Jt,hI,hh,NG];exact⟨_,eG rfl (by simp only[E8,seval,hI]<;>rfl) (by simp only[ZG,seval,hI]<;>rfl) (hex _ _ _ (kA (by simp only[E8,seval,hh]<;>rfl)) (kA (by simp only[E8,seval,NG]<;>rfl))),by rw[hv]⟩
theorem aGH (x:Int):IntKind.i64.wrap x≤9223372036854775807:=by
 rw[IntKind.wrap_i64];omega
def wX (a b:Request):Prop:=a.due<b.due∨(a.due=b.due∧a.tagged.tag<b.tagged.tag)
noncomputable def Cg:Nat→List Request→List Request
 | 0,l=>l
 | k+1,l=>if wX (gx cX l ((k+1:Nat):Int)) (gx cX l (k:Int)) then Cg k ((l.set (k+1) (gx cX l (k:Int))).set k (gx cX l ((k+1:Nat):Int))) else l
theorem NH:∀(k:Nat) (l:List Request),(Cg k l).length=l.length
 | 0,l=>rfl
 | k+1,l=>by
   unfold Cg;split
   ·rw[NH k,List.length_set,List.length_set]
   ·rfl
noncomputable def NI (t:State) (r:Request):Request:={ r with tries:=IntKind.i64.wrap (r.tries+1),due:=IntKind.u64.wrap (t.store.now+UU (IntKind.i64.wrap (r.tries+1)) t.store.cFg.lG.rL)}
noncomputable def D7 (t:State) (ns:List Node) (R:List Request) (r:Request):State :=
 if ¬zQ ns r.block then t else if t.store.cFg.lG.oI≤(R.length:Int) then { t with overflow:=true } else { t with rI:=ov aE (some (Cg R.length (R++[NI t r])))}
theorem c72 {t:State} {v:SV} {Q R:Option (List Request)} (h:TD t v Q R) (r:Request):aB Tryz.prog 72 [.agg (aP t),.agg (dD r)]=some (.agg (aP (D7 t v.ns (ol R) r))):=by
 have hf:=h.flat
 have pH:=h.fl
 have nR:=h.nR
 have nR1:((ol R).length:Int)<1000000:=by omega
 have D3:=k85 h r.block
 have fr:Flat (.agg (dD r)):=.agg _ (jO r)
 rw[cL Tryz.func72 rfl aRA rfl];refine iN ?_
 by_cases g1:zQ v.ns r.block
 case neg =>
  simp only[Z8,seval,D3,g1];exact⟨_,fK rfl (by simp only[E8,seval,hf]<;>rfl) (by simp only[Z8,seval,hf]<;>rfl) (by simp only[dV,and_self,hf]),by rw[D7,if_pos g1]⟩
 by_cases g2:t.store.cFg.lG.oI≤((ol R).length:Int)
 ·have hf2:Flat (.agg (aP { t with overflow:=true })):=(tZ _).2 pH
  simp only[Z8,seval,D3,g1,h.ret,g2];exact⟨_,fK rfl (by simp only[E8,seval,pH]<;>rfl) (by simp only[Z8,seval,pH]<;>rfl) (by simp only[dV,and_self,pH]),by rw[D7,if_neg (fun hh=>hh g1),if_pos g2,← h.ret]⟩
 have hv:D7 t v.ns (ol R) r=_:=(if_neg (fun hh=>hh g1)).trans (if_neg g2)
 rw[hv];have k143':=aRk (IntKind.i64.wrap (r.tries+1)) t.store.cFg.lG.rL (aGH _)
 obtain⟨L0,hL0⟩:∃L0,ol R++[NI t r]=L0:=⟨_,rfl⟩
 have hlL:L0.length=(ol R).length+1:=by rw[← hL0,List.length_append,List.length_cons,List.length_nil]
 have hL0':ol R++[({ tagged:=r.tagged,block:=r.block,tries:=IntKind.i64.wrap (r.tries+1),due:=IntKind.u64.wrap (t.store.now+UU (IntKind.i64.wrap (r.tries+1)) t.store.cFg.lG.rL)}:Request)]=L0:=hL0
 rw[hL0];have w1:IntKind.i64.wrap ((L0.length:Int)-1)=((ol R).length:Int):=by rw[mZ _ (by omega) (by omega)];omega
 simp only[Z8,seval,D3,g1,h.ret,g2,k143',lS,lU,rA _ nR1,tK _ _ _ _ nR1,hL0',w1];refine cF (fun m st=>∃(k:Nat) (l:List Request),(st.env 2=.ptr 2 0 0∧st.heap 2 0=some (.cells (aP t))∧st.env 4=.ptr 4 0 0∧st.heap 4 0=some (.cells (aP lW))∧st.env 5=.own 46 0∧st.heap 46 0=some (.row 63 35 l.length (aE l))∧st.env 6=.v (.int .i64 k))∧Cg k l=Cg (ol R).length L0∧l.length=L0.length∧k≤(ol R).length∧m=k)
  (fun e st=>e=.exit 0∧∃(l:List Request),(st.env 2=.ptr 2 0 0∧st.heap 2 0=some (.cells (aP t))∧st.env 4=.ptr 4 0 0∧st.heap 4 0=some (.cells (aP lW))∧st.env 5=.own 46 0∧st.heap 46 0=some (.row 63 35 l.length (aE l)))∧l=Cg (ol R).length L0) (ol R).length ?step ?start ?rest
 case step =>
  rintro m st ⟨k,l,hI,hb,hl,hk,hm⟩
  cases k with
  | zero =>
    have z0:¬((0:Int)<((0:Nat):Int)):=by omega
    have hI':=hI
    apply oT (.exit 0)
    ·simp only[Z8,seval,hI,Int.lt_irrefl,lS,lU];rfl
    ·exact⟨rfl,l,by simp only[E8,seval,hI],by rw[← hb];rfl⟩
  | succ j =>
    obtain⟨i,hi⟩:∃i:Int,i=((j+1:Nat):Int):=⟨_,rfl⟩
    obtain⟨i',Cs⟩:∃i':Int,i'=(j:Int):=⟨_,rfl⟩
    rw[← hi] at hI;have p0:(0:Int)<i:=by omega
    have p1:(0:Int)≤i:=by omega
    have p2:i<(l.length:Int):=by omega
    have q1:(0:Int)≤i':=by omega
    have q2:i'<(l.length:Int):=by omega
    have hw:IntKind.i64.wrap (i-1)=i':=by rw[mZ _ (by omega) (by omega)];omega
    have ti:i.toNat=j+1:=by omega
    have ti':i'.toNat=j:=by omega
    obtain⟨a,ea⟩:∃a,gx cX l i=a:=⟨_,rfl⟩
    obtain⟨b,eb⟩:∃b,gx cX l i'=b:=⟨_,rfl⟩
    have d1:=Ep (T:=23) (n:=l.length) (k:=1) (off:=34) p1 p2 UC (by decide) (by decide)
    have d2:=Ep (T:=23) (n:=l.length) (k:=1) (off:=34) q1 q2 UC (by decide) (by decide)
    have d3:=zT (T:=23) (n:=l.length) (k:=1) p1 p2 UC (by decide) (by decide)
    have d4:=zT (T:=23) (n:=l.length) (k:=1) q1 q2 UC (by decide) (by decide)
    have d5:=zT (T:=63) (n:=l.length) (k:=35) p1 p2 aGJ (by decide) (by decide)
    have d6:=zT (T:=63) (n:=l.length) (k:=35) q1 q2 aGJ (by decide) (by decide)
    rw[ea] at d1 d3 d5;rw[eb] at d2 d4 d6;have aCG:∀P:Prop,(wX a b↔P)→Cg (j+1) l=if P then Cg j ((l.set (j+1) b).set j a) else l:=fun P hP=>by
     have e1:gx cX l ((j+1:Nat):Int)=a:=by rw[← hi];exact ea
     have e2:gx cX l (j:Int)=b:=by rw[← Cs];exact eb
     have e0:Cg (j+1) l=if wX (gx cX l ((j+1:Nat):Int)) (gx cX l (j:Int)) then Cg j ((l.set (j+1) (gx cX l (j:Int))).set j (gx cX l ((j+1:Nat):Int))) else l:=rfl
     rw[e0,e1,e2];by_cases hh:wX a b
     ·rw[if_pos hh,if_pos (hP.1 hh)]
     ·rw[if_neg hh,if_neg (fun x=>hh (hP.2 x))]
    have x3:i.toNat * 35+35≤l.length * 35:=by omega
    have x4:i'.toNat * 35+35≤(l.set i.toNat b).length * 35:=by rw[List.length_set];omega
    have x4':i'.toNat * 35+35≤l.length * 35:=by omega
    have u1:=Lp l i b (by omega)
    have u2:=Lp (l.set i.toNat b) i' a (by rw[List.length_set];omega)
    have swp:(l.set i.toNat b).set i'.toNat a=(l.set (j+1) b).set j a:=by rw[ti,ti']
    by_cases g3:a.due<b.due
    ·have oB:=aCG True (iff_of_true (.inl g3) trivial)
     rw[if_pos trivial] at oB
     apply oN (j)
     ·simp only[Z8,seval,hI,p0,p1,p2,q1,q2,hw,d1,d2,d3,d4,d5,d6,g3,x3,x4,x4',u1,u2,List.length_set,lS,lU];rfl
     ·exact⟨j,(l.set i.toNat b).set i'.toNat a,⟨by simp only[E8,seval,hI],by simp only[E8,seval,hI],by simp only[E8,seval,hI],by simp only[E8,seval,hI],by simp only[E8,seval,hI],by rw[List.length_set,List.length_set];simp only[E8,seval,List.length_set]<;>rfl,by simp only[E8,seval,Cs]⟩,by rw[swp,← oB];exact hb,by rw[List.length_set,List.length_set];exact hl,by omega,rfl⟩
    by_cases g4:a.due=b.due
    case neg =>
     have oB:=aCG False (iff_of_false (fun x=>x.elim g3 fun y=>g4 y.1) id)
     rw[if_neg id] at oB
     apply oT (.exit 0)
     ·simp only[Z8,seval,hI,p0,p1,p2,q1,q2,hw,d1,d2,d3,d4,d5,d6,g3,bf g4,lS,lU];rfl
     ·exact⟨rfl,l,by simp only[E8,seval,hI],by rw[← hb,oB]⟩
    by_cases g5:a.tagged.tag<b.tagged.tag
    ·have oB:=aCG True (iff_of_true (.inr ⟨g4,g5⟩) trivial)
     rw[if_pos trivial] at oB
     apply oN (j)
     ·simp only[Z8,seval,hI,p0,p1,p2,q1,q2,hw,d1,d2,d3,d4,d5,d6,g3,bt g4,g5,x3,x4,x4',u1,u2,List.length_set,lS,lU];rfl
     ·exact⟨j,(l.set i.toNat b).set i'.toNat a,⟨by simp only[E8,seval,hI],by simp only[E8,seval,hI],by simp only[E8,seval,hI],by simp only[E8,seval,hI],by simp only[E8,seval,hI],by rw[List.length_set,List.length_set];simp only[E8,seval,List.length_set]<;>rfl,by simp only[E8,seval,Cs]⟩,by rw[swp,← oB];exact hb,by rw[List.length_set,List.length_set];exact hl,by omega,rfl⟩
    ·have oB:=aCG False (iff_of_false (fun x=>x.elim g3 fun y=>g5 y.2) id)
     rw[if_neg id] at oB
     apply oT (.exit 0)
     ·simp only[Z8,seval,hI,p0,p1,p2,q1,q2,hw,d1,d2,d3,d4,d5,d6,g3,bt g4,g5,lS,lU];rfl
     ·exact⟨rfl,l,by simp only[E8,seval,hI],by rw[← hb,oB]⟩
 case start=>exact⟨(ol R).length,L0,by simp only[E8,seval]<;>rfl,rfl,rfl,by omega,rfl⟩
 case rest =>
  rintro e st ⟨rfl,l,hI,hl⟩
  have hex:=pK l.length l
  subst hl;simp only[Z8,seval,hI];exact⟨_,by apply eG;rfl;all_goals simp only[aH,Z8,seval,hI,hex,pH,bQ,vT,gG,bP,cV,pK,dV]<;>rfl,rfl⟩
theorem aRB {t:State} {v:SV} {Q R:Option (List Request)} {q:Int} (hT:TD t v Q R) (h:GI t.store v q) (r:RG t.store v) (hB:0<(ol v.B).length∧(ol v.B).length≤64) (hq:∀r∈ol Q,Rg r.tagged.tag) (n k:Int) (hk:0≤k) :
 ∃x,aB Tryz.prog 146 [.agg (aP t),.v (.int .i64 n),.v (.int .i64 k)]=some x∧∃y:xI,x=.agg (kZ y)∧pI y∧(y.kind=2→y.block.root=mkRoot n∨∃m∈v.ns,y.block.root=m.block.root):=by
 have z:=zOk
 have hm:=Ay hk (min 4 IntKind.i64.bits)
 have hf:=hT.flat
 have YP:=h.sd.flat
 obtain⟨x1,e1,b,rfl,rb⟩:=x50 h r n (k.fdiv (2 ^ min 4 IntKind.i64.bits)) hm
 obtain⟨x2,e2,a,V,rfl,hV,nV,ra1,ra2⟩:=x37 h r hB (k.fdiv (2 ^ min 4 IntKind.i64.bits)) hm
 obtain⟨x3,e3,sl,rfl,c1,c2,s1,s2,s3,s4⟩:=aQ8 (ol v.B).length (k.fdiv (2 ^ min 4 IntKind.i64.bits)) (by omega) (by omega)
 obtain⟨x4,e4,tb,bl,rfl,hb,nb,rbl,rt⟩:=aQ9 h r hB (k.fdiv (2 ^ min 4 IntKind.i64.bits)) hm
 obtain⟨x5,e5,w,rfl,rw5⟩:=x25 hT h hq (k.fdiv (2 ^ min 4 IntKind.i64.bits)) hm
 have fA:Flat a.eU:=by rw[hV];exact bW _
 have fT:Flat tb.iP:=by rw[hb];exact dU _
 have k50:=kx e1 (mD YP (.v _) (.v _)) (tF b)
 have k37:=kx e2 (bE YP (.v _)) ((zJ a).2 fA)
 have k182:=kx e3 (bE (.v _) (.v _)) ((mX sl).2 ⟨(zK _).1 c1.fl,(zK _).1 c2.fl⟩)
 have k183:=kx e4 (bE YP (.v _)) ((iE tb).2 fT)
 have k25:=kx e5 (bE hf (.v _)) (.agg _ (jP w))
 have y1:pI { zP with kind:=1 }:=⟨z.Ga,z.c1,z.c2,z.UQ,z.rb,z.ra,z.rs,z.rt,z.rv⟩
 have y2:pI { zP with kind:=2,block:=b }:=⟨z.Ga,z.c1,z.c2,z.UQ,rb.toRB,z.ra,z.rs,z.rt,z.rv⟩
 have y3:pI { zP with kind:=3,Ga:=a }:=⟨⟨some V,hV,nV⟩,z.c1,z.c2,z.UQ,z.rb,⟨ra1,ra2⟩,z.rs,z.rt,z.rv⟩
 have y4:pI { zP with kind:=4,oV:=sl }:=⟨z.Ga,c1,c2,z.UQ,z.rb,z.ra,⟨s1,s2,s3,s4⟩,z.rt,z.rv⟩
 have y5:pI { zP with kind:=5,table:=tb }:=⟨z.Ga,z.c1,z.c2,⟨some bl,hb,nb,rbl⟩,z.rb,z.ra,z.rs,rt,z.rv⟩
 have y6:pI { zP with kind:=6,verdict:=w }:=⟨z.Ga,z.c1,z.c2,z.UQ,z.rb,z.ra,z.rs,z.rt,rw5⟩
 rw[cL Tryz.func146 rfl aMs rfl];by_cases c0:((k).tmod 16)=0
 ·simp only[Z8,seval,bt c0];exact⟨_,fK rfl (by simp only[E8,seval]<;>rfl) (by simp only[Z8,seval]<;>rfl) y1.flat,_,rfl,y1,fun h=>absurd (show (1:Int)=2 from h) (by decide)⟩
 by_cases c1:((k).tmod 16)=1
 ·simp only[Z8,seval,bf c0,bt c1];exact⟨_,fK rfl (by simp only[E8,seval]<;>rfl) (by simp only[Z8,seval]<;>rfl) y1.flat,_,rfl,y1,fun h=>absurd (show (1:Int)=2 from h) (by decide)⟩
 by_cases c2:((k).tmod 16)=2
 ·simp only[Z8,seval,bf c0,bf c1,bt c2];exact⟨_,fK rfl (by simp only[E8,seval]<;>rfl) (by simp only[Z8,seval]<;>rfl) y1.flat,_,rfl,y1,fun h=>absurd (show (1:Int)=2 from h) (by decide)⟩
 by_cases c3:((k).tmod 16)=3
 ·simp only[Z8,seval,bf c0,bf c1,bf c2,bt c3,k50];exact⟨_,fK rfl (by simp only[E8,seval]<;>rfl) (by simp only[Z8,seval]<;>rfl) y2.flat,_,rfl,y2,fun _=>rb.rt⟩
 by_cases c4:((k).tmod 16)=4
 ·simp only[Z8,seval,bf c0,bf c1,bf c2,bf c3,bt c4,k50];exact⟨_,fK rfl (by simp only[E8,seval]<;>rfl) (by simp only[Z8,seval]<;>rfl) y2.flat,_,rfl,y2,fun _=>rb.rt⟩
 by_cases c5:((k).tmod 16)=5
 ·simp only[Z8,seval,bf c0,bf c1,bf c2,bf c3,bf c4,bt c5,k50];exact⟨_,fK rfl (by simp only[E8,seval]<;>rfl) (by simp only[Z8,seval]<;>rfl) y2.flat,_,rfl,y2,fun _=>rb.rt⟩
 by_cases c6:((k).tmod 16)=6
 ·simp only[Z8,seval,bf c0,bf c1,bf c2,bf c3,bf c4,bf c5,bt c6,k50];exact⟨_,fK rfl (by simp only[E8,seval]<;>rfl) (by simp only[Z8,seval]<;>rfl) y2.flat,_,rfl,y2,fun _=>rb.rt⟩
 by_cases c7:((k).tmod 16)=7
 ·simp only[Z8,seval,bf c0,bf c1,bf c2,bf c3,bf c4,bf c5,bf c6,bt c7,k50];exact⟨_,fK rfl (by simp only[E8,seval]<;>rfl) (by simp only[Z8,seval]<;>rfl) y2.flat,_,rfl,y2,fun _=>rb.rt⟩
 by_cases c8:((k).tmod 16)=8
 ·simp only[Z8,seval,bf c0,bf c1,bf c2,bf c3,bf c4,bf c5,bf c6,bf c7,bt c8,k37];exact⟨_,fK rfl (by simp only[E8,seval]<;>rfl) (by simp only[Z8,seval]<;>rfl) y3.flat,_,rfl,y3,fun h=>absurd (show (3:Int)=2 from h) (by decide)⟩
 by_cases c9:((k).tmod 16)=9
 ·simp only[Z8,seval,bf c0,bf c1,bf c2,bf c3,bf c4,bf c5,bf c6,bf c7,bf c8,bt c9,k37];exact⟨_,fK rfl (by simp only[E8,seval]<;>rfl) (by simp only[Z8,seval]<;>rfl) y3.flat,_,rfl,y3,fun h=>absurd (show (3:Int)=2 from h) (by decide)⟩
 by_cases c10:((k).tmod 16)=10
 ·simp only[Z8,seval,bf c0,bf c1,bf c2,bf c3,bf c4,bf c5,bf c6,bf c7,bf c8,bf c9,bt c10,k37];exact⟨_,fK rfl (by simp only[E8,seval]<;>rfl) (by simp only[Z8,seval]<;>rfl) y3.flat,_,rfl,y3,fun h=>absurd (show (3:Int)=2 from h) (by decide)⟩
 by_cases c11:((k).tmod 16)=11
 ·simp only[Z8,seval,bf c0,bf c1,bf c2,bf c3,bf c4,bf c5,bf c6,bf c7,bf c8,bf c9,bf c10,bt c11,h.sd.iP,k182];exact⟨_,fK rfl (by simp only[E8,seval]<;>rfl) (by simp only[Z8,seval]<;>rfl) y4.flat,_,rfl,y4,fun h=>absurd (show (4:Int)=2 from h) (by decide)⟩
 by_cases c12:((k).tmod 16)=12
 ·simp only[Z8,seval,bf c0,bf c1,bf c2,bf c3,bf c4,bf c5,bf c6,bf c7,bf c8,bf c9,bf c10,bf c11,bt c12,k183];exact⟨_,fK rfl (by simp only[E8,seval]<;>rfl) (by simp only[Z8,seval]<;>rfl) y5.flat,_,rfl,y5,fun h=>absurd (show (5:Int)=2 from h) (by decide)⟩
 simp only[Z8,seval,bf c0,bf c1,bf c2,bf c3,bf c4,bf c5,bf c6,bf c7,bf c8,bf c9,bf c10,bf c11,bf c12,k25];exact⟨_,fK rfl (by simp only[E8,seval]<;>rfl) (by simp only[Z8,seval]<;>rfl) y6.flat,_,rfl,y6,fun h=>absurd (show (6:Int)=2 from h) (by decide)⟩
theorem aRF (l:List Int) (hl:(l.length:Int)≤9223372036854775807):∃x,aB Tryz.prog 101 [.sl l.length (aK l)]=some x∧∃(c:Config) (b:List Int),x=.agg (bV c)∧Hh c b:=by
 have k0:=Nc l hl 0 (by omega) (by omega)
 obtain⟨a0,b0⟩:=cP (n:=8) (Gt l hl 0 (by omega) (by omega)).2.1 (by omega)
 obtain⟨x0,h0⟩:∃x,(Jo l 0).tmod 8=x:=⟨_,rfl⟩
 rw[h0] at a0 b0;have k1:=Nc l hl 1 (by omega) (by omega)
 obtain⟨a1,b1⟩:=cP (n:=4) (Gt l hl 1 (by omega) (by omega)).2.1 (by omega)
 obtain⟨x1,h1⟩:∃x,(Jo l 1).tmod 4=x:=⟨_,rfl⟩
 rw[h1] at a1 b1;have k2:=Nc l hl 2 (by omega) (by omega)
 obtain⟨a2,b2⟩:=cP (n:=4) (Gt l hl 2 (by omega) (by omega)).2.1 (by omega)
 obtain⟨x2,h2⟩:∃x,(Jo l 2).tmod 4=x:=⟨_,rfl⟩
 rw[h2] at a2 b2;have k3:=Nc l hl 3 (by omega) (by omega)
 obtain⟨a3,b3⟩:=cP (n:=4) (Gt l hl 3 (by omega) (by omega)).2.1 (by omega)
 obtain⟨x3,h3⟩:∃x,(Jo l 3).tmod 4=x:=⟨_,rfl⟩
 rw[h3] at a3 b3;have k4:=Nc l hl 4 (by omega) (by omega)
 obtain⟨a4,b4⟩:=cP (n:=4) (Gt l hl 4 (by omega) (by omega)).2.1 (by omega)
 obtain⟨x4,h4⟩:∃x,(Jo l 4).tmod 4=x:=⟨_,rfl⟩
 rw[h4] at a4 b4;have k5:=Nc l hl 5 (by omega) (by omega)
 obtain⟨a5,b5⟩:=cP (n:=5) (Gt l hl 5 (by omega) (by omega)).2.1 (by omega)
 obtain⟨x5,h5⟩:∃x,(Jo l 5).tmod 5=x:=⟨_,rfl⟩
 rw[h5] at a5 b5;have k6:=Nc l hl 6 (by omega) (by omega)
 obtain⟨a6,b6⟩:=cP (n:=4) (Gt l hl 6 (by omega) (by omega)).2.1 (by omega)
 obtain⟨x6,h6⟩:∃x,(Jo l 6).tmod 4=x:=⟨_,rfl⟩
 rw[h6] at a6 b6;have k7:=Nc l hl 7 (by omega) (by omega)
 obtain⟨a7,b7⟩:=cP (n:=3) (Gt l hl 7 (by omega) (by omega)).2.1 (by omega)
 obtain⟨x7,h7⟩:∃x,(Jo l 7).tmod 3=x:=⟨_,rfl⟩
 rw[h7] at a7 b7;have k8:=Nc l hl 8 (by omega) (by omega)
 obtain⟨a8,b8⟩:=cP (n:=2) (Gt l hl 8 (by omega) (by omega)).2.1 (by omega)
 obtain⟨x8,h8⟩:∃x,(Jo l 8).tmod 2=x:=⟨_,rfl⟩
 rw[h8] at a8 b8;have k9:=Nc l hl 9 (by omega) (by omega)
 obtain⟨a9,b9⟩:=cP (n:=5) (Gt l hl 9 (by omega) (by omega)).2.1 (by omega)
 obtain⟨x9,h9⟩:∃x,(Jo l 9).tmod 5=x:=⟨_,rfl⟩
 rw[h9] at a9 b9;have w0:IntKind.i64.wrap (6+x0)=6+x0:=mZ _ (by omega) (by omega)
 have w3:IntKind.i64.wrap (1+x3)=1+x3:=mZ _ (by omega) (by omega)
 have w5:IntKind.i64.wrap (1+x5)=1+x5:=mZ _ (by omega) (by omega)
 have w5':IntKind.u64.wrap (1+x5)=1+x5:=wrap_u64 _ (by omega) (by omega)
 have w6:IntKind.i64.wrap (1+x6)=1+x6:=mZ _ (by omega) (by omega)
 have w6':IntKind.u64.wrap (1+x6)=1+x6:=wrap_u64 _ (by omega) (by omega)
 have w9:IntKind.i64.wrap (2+x9)=2+x9:=mZ _ (by omega) (by omega)
 have g7:=nM (l:=[0,40,100]) a7 (by show x7<((3:Nat):Int);omega)
 obtain⟨bp,hbp⟩:∃y,it [0,40,100] x7=y:=⟨_,rfl⟩
 have hbp1:0≤bp∧bp≤100:=by
  rcases (by omega:x7=0∨x7=1∨x7=2) with e|e|e<;>(rw[e] at hbp;rw[← hbp];decide)
 have w7:IntKind.u64.wrap bp=bp:=wrap_u64 _ (by omega) (by omega)
 rw[cL Tryz.func101 rfl aFn rfl];simp only[Z8,seval,lS,lU,k0,k1,k2,k3,k4,k5,k6,k7,k8,h0,h1,h2,h3,h4,h5,h6,h7,h8,w0,w3,w5,w5',w6,w6',a7,b7,g7,hbp,w7,pJ,Nat.reduceLT,Qg];have n9:(2+x9).toNat≤6:=by omega
 refine cF (fun m st=>∃(j:Nat) (lG:lD) (sp bq:Int) (tt:qN) (X:AV) (b:List Int),(st.env 0=.sl l.length (aK l)∧st.env 2=.ptr 2 0 0∧st.heap 2 0=some (.cells (bV mO))∧st.env 3=.ptr 3 0 0∧st.heap 3 0=some (.cells (bV ⟨lG,sp,bq,tt,mkRoot 1,X⟩))∧st.env 4=.v (.int .i64 j))∧(lG=⟨6+x0,x1,x2,1+x3,x4,1+x5⟩∧sp=1+x6∧bq=bp)∧((X=.v (.slice none 0 0)∧b=[])∨∃g,X=.own 64 g∧g<st.aQ 64∧st.heap 64 g=some (.row 23 1 b.length (bJ b)))∧(∀y∈b,0≤y∧y≤1000)∧b.length=j∧j≤(2+x9).toNat∧m=(2+x9).toNat-j)
  (fun e st=>e=.exit 0∧∃(lG:lD) (sp bq:Int) (tt:qN) (g:Nat) (b:List Int),(st.env 2=.ptr 2 0 0∧st.heap 2 0=some (.cells (bV mO))∧st.env 3=.ptr 3 0 0∧st.heap 3 0=some (.cells (bV ⟨lG,sp,bq,tt,mkRoot 1,.own 64 g⟩))∧st.heap 64 g=some (.row 23 1 b.length (bJ b)))∧(lG=⟨6+x0,x1,x2,1+x3,x4,1+x5⟩∧sp=1+x6∧bq=bp)∧(∀y∈b,0≤y∧y≤1000)∧1≤b.length∧b.length≤6) (2+x9).toNat ?step ?start ?rest
 case step =>
  rintro m st ⟨j,lG,sp,bq,tt,X,b,hI,hC,hX,hb,hj,hjn,hm⟩
  by_cases bA:(j:Int)<2+x9
  ·have q0:(0:Int)≤j:=by omega
   have hw:IntKind.i64.wrap ((j:Int)+1)=((j+1:Nat):Int):=by rw[mZ _ (by omega) (by omega)];omega
   obtain⟨jj,hjj⟩:∃jj:Int,jj=10+(j:Int):=⟨_,rfl⟩
   have YZ:IntKind.i64.wrap (10+(j:Int))=jj:=by rw[mZ _ (by omega) (by omega),hjj]
   have kj:=Nc l hl jj (by omega) (by omega)
   obtain⟨aj,bj⟩:=cP (n:=40) (Gt l hl jj (by omega) (by omega)).2.1 (by omega)
   obtain⟨y,hy⟩:∃y,(Jo l jj).tmod 40=y:=⟨_,rfl⟩
   rw[hy] at aj bj;have wy:IntKind.u64.wrap y=y:=wrap_u64 _ (by omega) (by omega)
   have nL:(b.length:Int)<1000000:=by omega
   have Sx:∀z∈b++[y],0≤z∧z≤1000:=fun z hz=>(List.mem_append.1 hz).elim (hb z) fun e=>by rw[List.mem_singleton] at e;rw[e];omega
   have yC:(b++[y]).length=j+1:=by rw[List.length_append,List.length_cons,List.length_nil];omega
   rcases hX with ⟨rfl,rfl⟩|⟨g,rfl,hg,hh⟩
   ·apply oN ((2+x9).toNat-(j+1))
    ·simp only[Z8,seval,hI,k9,h9,w9,bA,YZ,kj,hy,wy,hw];rfl
    ·exact⟨j+1,_,_,_,_,_,[]++[y],⟨by simp only[E8,seval,hI],by simp only[E8,seval,hI],by simp only[E8,seval,hI],by simp only[E8,seval,hI],by simp only[E8,seval,hI]<;>rfl,by simp only[E8,seval]⟩,hC,.inr ⟨_,rfl,by simp only[E8,seval]<;>omega,by simp only[E8,seval]<;>rfl⟩,Sx,yC,by omega,rfl⟩
   ·have uV:(g=st.aQ 64)=False:=eq_false (by omega)
    apply oN ((2+x9).toNat-(j+1))
    ·simp only[Z8,seval,hI,hh,uV,k9,h9,w9,bA,YZ,kj,hy,wy,hw,wF _ _ _ _ nL];rfl
    ·exact⟨j+1,_,_,_,_,_,b++[y],⟨by simp only[E8,seval,hI],by simp only[E8,seval,hI],by simp only[E8,seval,hI],by simp only[E8,seval,hI],by simp only[E8,seval,hI]<;>rfl,by simp only[E8,seval]⟩,hC,.inr ⟨_,rfl,by simp only[E8,seval]<;>omega,by simp only[E8,seval]<;>rfl⟩,Sx,yC,by omega,rfl⟩
  ·rcases hX with ⟨rfl,rfl⟩|⟨g,rfl,hg,hh⟩
   ·simp at hj;omega
   ·apply oT (.exit 0)
    ·simp only[Z8,seval,hI,k9,h9,w9,bA];rfl
    ·exact⟨rfl,_,_,_,_,g,b,⟨by simp only[E8,seval,hI],by simp only[E8,seval,hI],by simp only[E8,seval,hI],by simp only[E8,seval,hI]<;>rfl,by simp only[E8,seval,hh]⟩,hC,hb,by omega,by omega⟩
 case start=>exact⟨0,_,_,_,_,_,[],by and_intros<;>(simp only[E8,seval]<;>rfl),⟨rfl,rfl,rfl⟩,.inl ⟨rfl,rfl⟩,by simp,rfl,by omega,by omega⟩
 case rest =>
  rintro e st ⟨rfl,lG,sp,bq,tt,g,b,hI,⟨rfl,rfl,rfl⟩,hb,yC,Tx⟩
  simp only[Z8,seval,hI];exact⟨_,by apply eG;rfl;all_goals simp only[aH,Z8,seval,hI,bQ,Lq,bP,uH,dV]<;>rfl,⟨⟨6+x0,x1,x2,1+x3,x4,1+x5⟩,1+x6,bq,tt,mkRoot 1,ov bJ (some b)⟩,b,rfl,⟨rfl,by omega,hb,by dsimp only;omega,by dsimp only;omega,by dsimp only;omega,by dsimp only;omega,by dsimp only;omega,by dsimp only;omega,by dsimp only;omega,by dsimp only;omega,rfl,by dsimp only;omega⟩⟩
structure SB (a r:List Node):Prop where
 SI:r.map (·.block)=a.map (·.block)
 up:r.map (·.up)=a.map (·.up)
theorem SB.refl (a:List Node):SB a a:=⟨rfl,rfl⟩
theorem SB.trans {a b c:List Node} (h:SB a b) (g:SB b c):SB a c:=⟨g.SI.trans h.SI,g.up.trans h.up⟩
theorem SB.len {a r:List Node} (h:SB a r):r.length=a.length:=by have:=congrArg List.length h.SI;simpa using this
theorem SB.block {a r:List Node} (h:SB a r) {j:Int} (j1:j.toNat<a.length):(nd r j).block=(nd a j).block:=by
 have h2:j.toNat<r.length:=by rw[h.len];exact j1
 have:=congrArg (fun l:List Block=>l[j.toNat]?) h.SI
 simpa [nd,j1,h2] using this
theorem SB.upE {a r:List Node} (h:SB a r) {j:Int} (j1:j.toNat<a.length):(nd r j).up=(nd a j).up:=by
 have h2:j.toNat<r.length:=by rw[h.len];exact j1
 have:=congrArg (fun l:List Int=>l[j.toNat]?) h.up
 simpa [nd,j1,h2] using this
theorem ER (l:List Node) (x:cJ):aM l x=match (l.map (·.block)).findIdx? (fun b=>decide (b.root=x)) with
 | some k=>(k:Int)
 | none=>-1:=by
 unfold aM;rw[List.findIdx?_map];rfl
theorem SB.aM {a r:List Node} (h:SB a r) (x:cJ):aM r x=aM a x:=by rw[ER,ER,h.SI]
theorem T7 (ns:List Node) (i to:Int):SB ns (setAt ns i to):=by
 have key:∀ {β:Type} (f:Node→β),(∀n s,f (Wm n s)=f n)→(setAt ns i to).map f=ns.map f:=by
  intro β f hf;unfold setAt;rw[List.map_set];apply List.ext_getElem (by simp)
  intro j h1 h2;rw[List.getElem_set];split
  ·rename_i e;have h3:j<ns.length:=by simpa using h2
   subst e;simp[hf,nd,h3]
  ·rfl
 exact⟨key _ fun _ _=>rfl,key _ fun _ _=>rfl⟩
theorem HE {to never:Int}:∀(l:List Int) (ns r:List Node),DW to never l ns=some r→SB ns r
 | [],ns,r,h=>by simp only[DW,Option.some.injEq] at h;rw[h];exact SB.refl _
 | i :: l,ns,r,h=>by
   simp only[DW] at h;split at h
   ·cases h
   ·exact (T7 ns i to).trans (HE l _ _ h)
def NJ (ns:List Node) (x:AV):Prop:=(∃e:Int,e≠0∧x=.eE [.agg [.v (.slice none 0 0)],.v (.int .i64 e)])∨∃r,SB ns r∧x=.eE [.agg (cO ⟨r⟩),.v (.int .i64 0)]
theorem NJ.err (ns:List Node) {e:Int} (h:e≠0):NJ ns (BF e):=.inl ⟨e,h,rfl⟩
theorem aGK (ns:List Node) (i:Int):NJ ns (L3 ns i):=by
 unfold L3;split
 ·unfold stA;split
  ·exact .err _ (by decide)
  ·rename_i r hr;exact .inr ⟨r,HE _ _ _ hr,rfl⟩
 ·exact .err _ (by decide)
theorem T8 (ns:List Node) (i:Int):NJ ns (L4 ns i):=by
 unfold L4;split
 ·unfold stA;split
  ·exact .err _ (by decide)
  ·rename_i r hr;exact .inr ⟨r,HE _ _ _ hr,rfl⟩
 ·exact .err _ (by decide)
theorem NJ.of {a b:List Node} (h:SB a b) {x:AV} (g:NJ b x):NJ a x:=g.imp id fun ⟨r,h1,h2⟩=>⟨r,h.trans h1,h2⟩
theorem aGL (ns:List Node) (i:Int) (v:gV) (l:List Int):NJ ns (TV ns i v l):=by
 unfold TV;split
 ·exact .err _ (by decide)
 split
 ·exact aGK ns i
 split
 ·unfold O5;split
  ·exact .err _ (by decide)
  split
  ·split
   ·exact .err _ (by decide)
   ·rename_i r hr;exact .of (HE _ _ _ hr) (T8 _ _)
  ·exact T8 _ _
 split
 ·exact .inr ⟨ns,SB.refl ns,rfl⟩
 ·exact .err _ (by decide)
theorem GI.tree {s:aL} {v:SV} {q:Int} (h:GI s v q) {r:List Node} (hs:SB v.ns r):GI { s with tree:=⟨.sl r.length (bZ r)⟩} { v with ns:=r } q:=by
 have hl:=hs.len
 have hp:=h.pos
 refine⟨⟨h.sd.iP,h.sd.eA,h.sd.gW,h.sd.early,h.sd.bK,rfl,h.sd.tables,h.sd.eV,h.sd.tB,h.sd.nB,h.sd.nL,h.sd.nQ,h.sd.nE,h.sd.nO,h.sd.nT,by rw[hl];exact h.sd.nn⟩,fun i i0 i1=>?_, ?_,by show 0<r.length;omega,by rw[hl];exact h.nl,h.UE,h.kE,h.MH,h.nB,h.nO,h.MI,h.nE,h.SO,h.nT,h.SP,h.nQ,h.P1, ?_⟩
 ·have i1:i<(r.length:Int):=i1
  show 0≤(nd r i).up∧(nd r i).up<i
  rw[hs.upE (by omega)];exact h.up i i0 (by omega)
 ·show (nd r 0).up=-1
  rw[hs.upE (by show (0:Nat)<_;omega)];exact h.DT
 ·show 0≤aM r s.aU.gJ.root
  rw[hs.aM];exact h.gJ
theorem RG.tree {s:aL} {v:SV} (h:RG s v) {r:List Node} (hs:SB v.ns r) (x:Fl):RG { s with tree:=x } { v with ns:=r } :=
 ⟨h.now,h.j,h.f,fun n hn=>by
  have:n.block∈r.map (·.block):=List.mem_map.2 ⟨n,hn,rfl⟩
  rw[hs.SI] at this;obtain⟨a,ha,e⟩:=List.mem_map.1 this
  rw[← e];exact h.nd a ha,h.or,fun n hn=>by
  have:n.block∈r.map (·.block):=List.mem_map.2 ⟨n,hn,rfl⟩
  rw[hs.SI] at this;obtain⟨a,ha,e⟩:=List.mem_map.1 this
  rw[← e];exact h.rt a ha,h.fe,by
  have e:=congrArg (List.map fun b:Block=>b.root) hs.SI
  rw[List.map_map,List.map_map] at e;show (r.map ((fun b:Block=>b.root) ∘ fun n=>n.block)).Nodup
  rw[e];exact h.ds,h.tb,⟨h.ne.q,h.ne.e,h.ne.o,h.ne.t,h.ne.ea,h.ne.tb⟩⟩
structure TQ (Q:List Request) (tag:Int):Prop where
 pos:1≤tag
 all:∀r∈Q,1≤r.tagged.tag∧r.tagged.tag<tag∧r.due=0
 asc:Q.Pairwise fun a b=>a.tagged.tag<b.tagged.tag
structure TR (R:List Request) (tag:Int):Prop where
 all:∀r∈R,r.tagged.tag<tag
 asc:R.Pairwise fun a b=>¬wX b a
def UX (ns:List Node) (l:List Request):Prop:=∀r∈l,0≤aM ns r.block
theorem TQ.sub {P Q:List Request} {tag:Int} (h:TQ Q tag) (s:P.Sublist Q):TQ P tag:=⟨h.pos,fun r hr=>h.all r (s.subset hr),h.asc.sublist s⟩
theorem TR.sub {P Q:List Request} {tag:Int} (h:TR Q tag) (s:P.Sublist Q):TR P tag:=⟨fun r hr=>h.all r (s.subset hr),h.asc.sublist s⟩
theorem TR.mono {Q:List Request} {t t':Int} (h:TR Q t) (l:t≤t'):TR Q t':=⟨fun r hr=>by have:=h.all r hr;omega,h.asc⟩
theorem UX.sub {ns:List Node} {P Q:List Request} (h:UX ns Q) (s:P.Sublist Q):UX ns P:=fun r hr=>h r (s.subset hr)
theorem TQ.app {Q:List Request} {tag:Int} (h:TQ Q tag) (b:cJ) (n:Int):TQ (Q++[⟨⟨tag⟩,b,n,0⟩]) (tag+1):=by
 refine⟨by have:=h.pos;omega,fun r hr=>?_,List.pairwise_append.2 ⟨h.asc,List.pairwise_singleton ..,fun a ha b hb=>?_⟩⟩
 ·rcases List.mem_append.1 hr with hr|hr
  ·obtain⟨h1,h2,h3⟩:=h.all r hr;exact⟨h1,by omega,h3⟩
  ·rw[List.mem_singleton] at hr;subst hr;exact⟨h.pos,by show tag<tag+1;omega,rfl⟩
 ·rw[List.mem_singleton] at hb;subst hb;exact (h.all a ha).2.1
theorem UX.app {ns:List Node} {Q:List Request} (h:UX ns Q) {x:Request} (hx:0≤aM ns x.block):UX ns (Q++[x]):=fun r hr=>by
 rcases List.mem_append.1 hr with hr|hr
 ·exact h r hr
 ·rw[List.mem_singleton] at hr;subst hr;exact hx
theorem aMu {x:Int} (h1:1≤x) (h2:x≤1000000):IntKind.u64.wrap (x+1)=x+1:=wrap_u64 _ (by omega) (by omega)
theorem Nz (ns:List Node) (now:Int):∀(l:List Request) (a:(Option (List Request) × Int) × List Request),TQ (ol a.1.1) a.1.2→UX ns (ol a.1.1)→a.1.2+l.length≤1000000 →
 TQ (ol (zS ns now a l).1.1) (zS ns now a l).1.2∧UX ns (ol (zS ns now a l).1.1)∧a.1.2≤(zS ns now a l).1.2∧(zS ns now a l).1.2≤a.1.2+l.length∧(zS ns now a l).2=a.2++l.filter fun r=>decide (now<r.due)
 | [],a,h,hi,hb=>⟨h,hi,by show a.1.2≤a.1.2;omega,by show a.1.2≤a.1.2+((0:Nat):Int);omega,(List.append_nil _).symm⟩
 | r :: l,a,h,hi,hb=>by
   have hp:=h.pos
   rw[List.length_cons] at hb;have hw:=aMu hp (by omega)
   have e0:zS ns now a (r :: l)=zS ns now (Ln ns now a r) l:=rfl
   rw[e0,List.length_cons];by_cases g1:now<r.due
   ·have e1:Ln ns now a r=(a.1,a.2++[r]):=if_pos g1
    rw[e1];obtain⟨h1,h2,h3,h4,h5⟩:=Nz ns now l (a.1,a.2++[r]) h hi (by dsimp only;omega)
    refine⟨h1,h2,h3,by dsimp only at h4;omega, ?_⟩
    rw[h5,List.filter_cons,if_pos (decide_eq_true g1)];simp
   ·rw[List.filter_cons,if_neg (by simpa using g1)]
    by_cases g2:zQ ns r.block
    ·have e1:Ln ns now a r=((some (ol a.1.1++[⟨⟨a.1.2⟩,r.block,r.tries,0⟩]),IntKind.u64.wrap (a.1.2+1)),a.2):=(if_neg g1).trans (if_pos g2)
     rw[e1,hw];obtain⟨h1,h2,h3,h4,h5⟩:=Nz ns now l ((some (ol a.1.1++[(⟨⟨a.1.2⟩,r.block,r.tries,0⟩:Request)]),a.1.2+1),a.2) (h.app _ _) (hi.app g2.1) (by dsimp only;omega)
     exact⟨h1,h2,by dsimp only at h3;omega,by dsimp only at h4;omega,h5⟩
    ·have e1:Ln ns now a r=a:=(if_neg g1).trans (if_neg g2)
     rw[e1];obtain⟨h1,h2,h3,h4,h5⟩:=Nz ns now l a h hi (by omega)
     exact⟨h1,h2,h3,by omega,h5⟩
theorem HF (ns:List Node):∀(l:List cJ) (a:Option (List Request) × Int),TQ (ol a.1) a.2→UX ns (ol a.1)→a.2+l.length≤1000000 →
 TQ (ol (Mr ns a l).1) (Mr ns a l).2∧UX ns (ol (Mr ns a l).1)∧a.2≤(Mr ns a l).2∧(Mr ns a l).2≤a.2+l.length
 | [],a,h,hi,hb=>⟨h,hi,by show a.2≤a.2;omega,by show a.2≤a.2+((0:Nat):Int);omega⟩
 | r :: l,a,h,hi,hb=>by
   have hp:=h.pos
   rw[List.length_cons] at hb;have hw:=aMu hp (by omega)
   have e0:Mr ns a (r :: l)=Mr ns (ZP ns a r) l:=rfl
   rw[e0,List.length_cons];by_cases g2:zQ ns r
   ·have e1:ZP ns a r=(some (ol a.1++[⟨⟨a.2⟩,r,0,0⟩]),IntKind.u64.wrap (a.2+1)):=if_pos g2
    rw[e1,hw];obtain⟨h1,h2,h3,h4⟩:=HF ns l (some (ol a.1++[(⟨⟨a.2⟩,r,0,0⟩:Request)]),a.2+1) (h.app _ _) (hi.app g2.1) (by dsimp only;omega)
    exact⟨h1,h2,by dsimp only at h3;omega,by dsimp only at h4;omega⟩
   ·have e1:ZP ns a r=a:=if_neg g2
    rw[e1];obtain⟨h1,h2,h3,h4⟩:=HF ns l a h hi (by omega)
    exact⟨h1,h2,h3,by omega⟩
theorem ZS (ns:List Node) (now:Int):∀(l:List Request) (a:(Option (List Request) × Int) × List Request),a.1.1≠some []→(zS ns now a l).1.1≠some []
 | [],a,h=>h
 | r :: l,a,h=>by
   have e0:zS ns now a (r :: l)=zS ns now (Ln ns now a r) l:=rfl
   rw[e0];refine ZS ns now l _ ?_
   unfold Ln;split
   ·exact h
   split
   ·simp
   ·exact h
theorem T9 (ns:List Node):∀(l:List cJ) (a:Option (List Request) × Int),a.1≠some []→(Mr ns a l).1≠some []
 | [],a,h=>h
 | r :: l,a,h=>by
   have e0:Mr ns a (r :: l)=Mr ns (ZP ns a r) l:=rfl
   rw[e0];refine T9 ns l _ ?_
   unfold ZP;split
   ·simp
   ·exact h
noncomputable def HG:List Request→Request→List Request→List Request
 | [],x,B=>x :: B
 | y :: A,x,B=>if wX x y then HG A x (y :: B) else (y :: A).reverse++x :: B
theorem ES:∀(A:List Request) (x:Request) (B:List Request),Cg A.length (A.reverse++x :: B)=HG A x B
 | [],x,B=>rfl
 | y :: A,x,B=>by
   have e1:gx cX ((y :: A).reverse++x :: B) ((A.length+1:Nat):Int)=x:=by
    unfold gx;rw[Int.toNat_natCast,List.reverse_cons,List.append_assoc,List.getD_eq_getElem?_getD,List.getElem?_append_right (by simp),List.length_reverse]
    simp
   have e2:gx cX ((y :: A).reverse++x :: B) (A.length:Int)=y:=by
    unfold gx;rw[Int.toNat_natCast,List.reverse_cons,List.append_assoc,List.getD_eq_getElem?_getD,List.getElem?_append_right (by simp),List.length_reverse]
    simp
   have e3:(((y :: A).reverse++x :: B).set (A.length+1) y).set A.length x=A.reverse++x :: y :: B:=by
    rw[List.reverse_cons,List.append_assoc,List.set_append_right _ _ (by simp),List.length_reverse,List.set_append_right _ _ (by simp),List.length_reverse]
    simp
   rw[List.length_cons];have e0:∀l,Cg (A.length+1) l=if wX (gx cX l ((A.length+1:Nat):Int)) (gx cX l (A.length:Int)) then Cg A.length ((l.set (A.length+1) (gx cX l (A.length:Int))).set A.length (gx cX l ((A.length+1:Nat):Int))) else l:=fun l=>rfl
   rw[e0,e1,e2,e3];unfold HG;split
   ·exact ES A x (y :: B)
   ·rfl
theorem Xr {r:Request}:∀(A:List Request) (x:Request) (B:List Request),r∈HG A x B↔r∈A∨r=x∨r∈B
 | [],x,B=>by simp[HG]
 | y :: A,x,B=>by
   unfold HG;split
   ·rw[Xr A x (y :: B)];simp only[List.mem_cons];constructor
    ·rintro (h|h|h|h)
     ·exact .inl (.inr h)
     ·exact .inr (.inl h)
     ·exact .inl (.inl h)
     ·exact .inr (.inr h)
    ·rintro ((h|h)|h|h)
     ·exact .inr (.inr (.inl h))
     ·exact .inl h
     ·exact .inr (.inl h)
     ·exact .inr (.inr (.inr h))
   ·simp[or_assoc,or_left_comm]
theorem Ta {a b:Request} (h:wX a b):¬wX b a:=by unfold wX at *;omega
theorem U0 {a b c:Request} (h1:¬wX b a) (h2:¬wX c b):¬wX c a:=by unfold wX at *;omega
theorem NK:∀(A:List Request) (x:Request) (B:List Request),(A.reverse++B).Pairwise (fun a b=>¬wX b a)→(∀b∈B,wX x b)→(HG A x B).Pairwise fun a b=>¬wX b a
 | [],x,B,h,hb=>List.pairwise_cons.2 ⟨fun b m=>Ta (hb b m),h⟩
 | y :: A,x,B,h,hb=>by
   unfold HG;have h0:=h
   rw[List.reverse_cons,List.append_assoc] at h;split
   ·rename_i g;exact NK A x (y :: B) h fun b m=>(List.mem_cons.1 m).elim (fun e=>by rw[e];exact g) (hb b)
   ·rename_i g;obtain⟨p1,p2,p3⟩:=List.pairwise_append.1 h0
    refine List.pairwise_append.2 ⟨p1,List.pairwise_cons.2 ⟨fun b m=>Ta (hb b m),p2⟩,fun a ha b m=>?_⟩
    rcases List.mem_cons.1 m with rfl|m
    ·rw[List.reverse_cons,List.mem_append,List.mem_singleton] at ha;rcases ha with ha|rfl
     ·have:=(List.pairwise_append.1 h).2.2 a ha y (by simp)
      exact U0 this g
     ·exact g
    ·exact p3 a ha b m
theorem U1 (R:List Request) (x:Request):Cg R.length (R++[x])=HG R.reverse x []:=by
 have:=ES R.reverse x []
 rwa [List.reverse_reverse,List.length_reverse] at this
theorem TR.bub {R:List Request} {tag:Int} (h:TR R tag) {x:Request} (hx:x.tagged.tag<tag):TR (Cg R.length (R++[x])) tag:=by
 rw[U1];refine⟨fun r hr=>?_,NK _ _ _ (by rw[List.reverse_reverse,List.append_nil];exact h.asc) (by simp)⟩
 rcases (Xr _ _ _).1 hr with hr|rfl|hr
 ·exact h.all r (List.mem_reverse.1 hr)
 ·exact hx
 ·cases hr
theorem UX.bub {ns:List Node} {R:List Request} (h:UX ns R) {x:Request} (hx:0≤aM ns x.block):UX ns (Cg R.length (R++[x])):=by
 rw[U1];intro r hr;rcases (Xr _ _ _).1 hr with hr|rfl|hr
 ·exact h r (List.mem_reverse.1 hr)
 ·exact hx
 ·cases hr
structure TI0 (t:State) (v:SV) (Q R:Option (List Request)) (q m:Int):Prop where
 td:TD t v Q R
 gi:GI t.store v q
 rg:RG t.store v
 cfg:∃b,Hh t.store.cFg b
 tq:TQ (ol Q) t.cZ
 tr:TR (ol R) t.cZ
 nt:t.cZ≤1+m
 lq:((ol Q).length:Int)≤m
 lr:((ol R).length:Int)≤t.store.cFg.lG.oI
 mB:m≤100000
 qn:Q≠some []
 rn:R≠some []
structure TI (t:State) (v:SV) (Q R:Option (List Request)) (q m:Int):Prop extends TI0 t v Q R q m where
 M1:UX v.ns (ol Q)
 M3:UX v.ns (ol R)
theorem TI0.mono {t:State} {v:SV} {Q R:Option (List Request)} {q m q' m':Int} (h:TI0 t v Q R q m) (h1:q≤q') (h2:q'≤900000) (h3:m≤m') (h4:m'≤100000):TI0 t v Q R q' m' :=
 ⟨h.td,h.gi.mono h1 h2,h.rg,h.cfg,h.tq,h.tr,by have:=h.nt;omega,by have:=h.lq;omega,h.lr,h4,h.qn,h.rn⟩
theorem TI.mono {t:State} {v:SV} {Q R:Option (List Request)} {q m q' m':Int} (h:TI t v Q R q m) (h1:q≤q') (h2:q'≤900000) (h3:m≤m') (h4:m'≤100000):TI t v Q R q' m':=⟨h.toTI0.mono h1 h2 h3 h4,h.M1,h.M3⟩
theorem TI0.store {t:State} {v:SV} {Q R:Option (List Request)} {q m:Int} (h:TI0 t v Q R q m) {s':aL} {v':SV} {q':Int} (g:GI s' v' q') (r:RG s' v') (c:s'.cFg=t.store.cFg):TI0 { t with store:=s' } v' Q R q' m :=
 ⟨⟨g.sd,h.td.Gm,h.td.ret,h.td.nQ,h.td.nR⟩,g,r,by show ∃b,Hh s'.cFg b;rw[c];exact h.cfg,h.tq,h.tr,h.nt,h.lq,by show _≤s'.cFg.lG.oI;rw[c];exact h.lr,h.mB,h.qn,h.rn⟩
theorem TI.emit {t:State} {v:SV} {Q R:Option (List Request)} {q m:Int} (h:TI t v Q R q m) (b:Bool) (c:Command):TI { t with Li:=b,last:=c } v Q R q m :=
 ⟨⟨⟨h.td.sd,h.td.Gm,h.td.ret,h.td.nQ,h.td.nR⟩,h.gi,h.rg,h.cfg,h.tq,h.tr,h.nt,h.lq,h.lr,h.mB,h.qn,h.rn⟩,h.M1,h.M3⟩
theorem TI.halt {t:State} {v:SV} {Q R:Option (List Request)} {q m:Int} (h:TI t v Q R q m) (b:Bool):TI { t with halted:=b } v Q R q m :=
 ⟨⟨⟨h.td.sd,h.td.Gm,h.td.ret,h.td.nQ,h.td.nR⟩,h.gi,h.rg,h.cfg,h.tq,h.tr,h.nt,h.lq,h.lr,h.mB,h.qn,h.rn⟩,h.M1,h.M3⟩
theorem TI.over {t:State} {v:SV} {Q R:Option (List Request)} {q m:Int} (h:TI t v Q R q m) (b:Bool):TI { t with overflow:=b } v Q R q m :=
 ⟨⟨⟨h.td.sd,h.td.Gm,h.td.ret,h.td.nQ,h.td.nR⟩,h.gi,h.rg,h.cfg,h.tq,h.tr,h.nt,h.lq,h.lr,h.mB,h.qn,h.rn⟩,h.M1,h.M3⟩
theorem TI0.aCH {t:State} {v:SV} {Q R:Option (List Request)} {q m:Int} (h:TI0 t v Q R q m):t.store.cFg.lG.oI≤256:=by obtain⟨b,hb⟩:=h.cfg;exact hb.oI.2
theorem TI0.iP {t:State} {v:SV} {Q R:Option (List Request)} {q m:Int} (h:TI0 t v Q R q m):0<(ol v.B).length∧(ol v.B).length≤64:=by
 obtain⟨b,hb⟩:=h.cfg
 have e:=h.gi.sd.iP.symm.trans hb.iP
 have n:=hb.nb
 cases hB:v.B with
 | none=>rw[hB] at e;cases e
 | some l =>
   rw[hB] at e;have e:AV.sl l.length (bJ l)=AV.sl b.length (bJ b):=e
   injection e with e1 e2
   show 0<l.length∧l.length≤64
   omega
theorem TI0.drop {t:State} {v:SV} {Q R:Option (List Request)} {q m:Int} (h:TI0 t v Q R q m):TI (US t v Q R) v (nz (pL v.ns (ol Q))) (nz (pL v.ns (ol R))) q m:=by
 have s1:(pL v.ns (ol Q)).Sublist (ol Q):=List.filter_sublist
 have s2:(pL v.ns (ol R)).Sublist (ol R):=List.filter_sublist
 have l1:=s1.length_le
 have l2:=s2.length_le
 have a1:=h.lq
 have a2:=h.lr
 refine⟨⟨h.td.drp,h.gi,h.rg,h.cfg, ?_, ?_,h.nt, ?_, ?_,h.mB,Xd _,Xd _⟩, ?_, ?_⟩
 ·rw[nA];exact h.tq.sub s1
 ·rw[nA];exact h.tr.sub s2
 ·rw[nA];omega
 ·rw[nA];show _≤t.store.cFg.lG.oI;omega
 ·rw[nA];intro r hr;exact of_decide_eq_true (List.mem_filter.1 hr).2
 ·rw[nA];intro r hr;exact of_decide_eq_true (List.mem_filter.1 hr).2
theorem TI.due {t:State} {v:SV} {Q R:Option (List Request)} {q m:Int} (h:TI t v Q R q m) (hm:m+256≤100000):TI (aCF t v.ns Q R) v (HD t v.ns Q R).1.1 (nz (HD t v.ns Q R).2) q (m+256):=by
 have a1:=h.lq
 have a2:=h.lr
 have a3:=h.aCH
 have a4:=h.nt
 obtain⟨h1,h2,h3,h4,h5⟩:=Nz v.ns t.store.now (ol R) ((Q,t.cZ),[]) h.tq h.M1 (by dsimp only;omega)
 have hl:=ND v.ns t.store.now (ol R) ((Q,t.cZ),[])
 rw[List.nil_append] at h5;have e1:zS v.ns t.store.now ((Q,t.cZ),[]) (ol R)=HD t v.ns Q R:=rfl
 rw[e1] at h1 h2 h3 h4 h5 hl;dsimp only at h3 h4 hl
 have s2:(HD t v.ns Q R).2.Sublist (ol R):=by rw[h5];exact List.filter_sublist
 have l2:=s2.length_le
 have yC:=hl.1
 have:=h.mB
 refine⟨⟨⟨h.td.sd,rfl,rfl,by omega,by rw[nA];omega⟩,h.gi,h.rg,h.cfg,h1, ?_, ?_,by omega, ?_,hm,ZS v.ns t.store.now (ol R) ((Q,t.cZ),[]) h.qn,Xd _⟩,h2, ?_⟩
 ·rw[nA];exact (h.tr.sub s2).mono h3
 ·show (HD t v.ns Q R).1.2≤_;omega
 ·rw[nA];show _≤t.store.cFg.lG.oI;omega
 ·rw[nA];exact h.M3.sub s2
theorem TI.open {t:State} {v:SV} {Q R:Option (List Request)} {q m:Int} (h:TI t v Q R q m) (L:List cJ) (hL:(L.length:Int)≤100) (hm:m+256≤100000):TI (UT t (Mr v.ns (Q,t.cZ) L)) v (Mr v.ns (Q,t.cZ) L).1 R q (m+256):=by
 have a1:=h.lq
 have a4:=h.nt
 obtain⟨h1,h2,h3,h4⟩:=HF v.ns L (Q,t.cZ) h.tq h.M1 (by dsimp only;omega)
 have hl:=ZQ v.ns (Q,t.cZ) L
 dsimp only at h3 h4 hl
 refine⟨⟨h.td.UT _ (by omega),h.gi,h.rg,h.cfg,h1,h.tr.mono h3, ?_,by omega,h.lr,hm,T9 v.ns L (Q,t.cZ) h.qn,h.rn⟩,h2,h.M3⟩
 show (Mr v.ns (Q,t.cZ) L).2≤_;omega
theorem TI.U2 {t:State} {v:SV} {Q R:Option (List Request)} {q m:Int} (h:TI t v Q R q m) {r:Request} (hr:r.tagged.tag<t.cZ):∃R',TI (D7 t v.ns (ol R) r) v Q R' q m:=by
 unfold D7;split
 ·exact⟨R,h⟩
 split
 ·exact⟨R,h.over true⟩
 ·rename_i g1 g2;have g1:=Classical.not_not.1 g1
  have hl:(Cg (ol R).length (ol R++[NI t r])).length=(ol R).length+1:=by rw[NH,List.length_append,List.length_cons,List.length_nil]
  have a3:=h.aCH
  refine⟨some (Cg (ol R).length (ol R++[NI t r])),⟨⟨h.td.sd,h.td.Gm,rfl,h.td.nQ, ?_⟩,h.gi,h.rg,h.cfg,h.tq,h.tr.bub (x:=NI t r) hr,h.nt,h.lq, ?_,h.mB,h.qn,fun e=>by injection e with e;rw[e] at hl;simp at hl⟩,h.M1,h.M3.bub (x:=NI t r) g1.1⟩
  ·show ((Cg (ol R).length (ol R++[NI t r])).length:Int)<_;omega
  ·show ((Cg (ol R).length (ol R++[NI t r])).length:Int)≤t.store.cFg.lG.oI;omega
theorem TI.less {t:State} {v:SV} {Q R:Option (List Request)} {q m:Int} (h:TI t v Q R q m) (k:Nat):TI { t with iY:=ov aE (nz ((ol Q).take k++(ol Q).drop (k+1)))} v (nz ((ol Q).take k++(ol Q).drop (k+1))) R q m:=by
 have s:((ol Q).take k++(ol Q).drop (k+1)).Sublist (ol Q):=by rw[← List.eraseIdx_eq_take_drop_succ];exact List.eraseIdx_sublist ..
 have l1:=s.length_le
 have a1:=h.lq
 have:=h.td.nQ
 exact⟨⟨⟨h.td.sd,rfl,h.td.ret,by rw[nA];omega,h.td.nR⟩,h.gi,h.rg,h.cfg,by rw[nA];exact h.tq.sub s,h.tr,h.nt,by rw[nA];omega,h.lr,h.mB,Xd _,h.rn⟩,by rw[nA];exact h.M1.sub s,h.M3⟩
theorem TI.tree {t:State} {v:SV} {Q R:Option (List Request)} {q m:Int} (h:TI t v Q R q m) {r:List Node} (hs:SB v.ns r) (b:cJ):TI { t with store:={ t.store with tree:=⟨.sl r.length (bZ r)⟩,eR:=b }} { v with ns:=r } Q R q m:=by
 have g:=(h.gi.tree hs).eR b
 have e:=(h.rg.tree hs ⟨.sl r.length (bZ r)⟩).eR b
 exact⟨h.toTI0.store g e rfl,fun x hx=>by show 0≤aM r x.block;rw[hs.aM];exact h.M1 x hx,fun x hx=>by show 0≤aM r x.block;rw[hs.aM];exact h.M3 x hx⟩
def NL (Q:List Request) (tag:Int) (k:Nat):Prop:=(gx cX Q (k:Int)).tagged.tag=tag
theorem x27 {t:State} {v:SV} {Q R:Option (List Request)} (h:TD t v Q R) (w:gV):∃x,aB Tryz.prog 27 [.agg (aP t),.agg (dJ w)]=some x ∧
 (((∀j:Nat,j<(ol Q).length→¬NL (ol Q) w.tagged.tag j)∧x=.eE [.agg (dD cX),.agg (aP lW),.v (.int .i64 23)]) ∨
  ∃k:Nat,k<(ol Q).length∧NL (ol Q) w.tagged.tag k∧(∀j:Nat,j<k→¬NL (ol Q) w.tagged.tag j)∧x=.eE [.agg (dD (gx cX (ol Q) (k:Int))),.agg (aP { t with iY:=ov aE (nz ((ol Q).take k++(ol Q).drop (k+1)))}),.v (.int .i64 0)]):=by
 have pH:=h.fl
 have nQ:=h.nQ
 have nQ1:((ol Q).length:Int)<1000000:=by omega
 have AU:Flat (.agg (aP lW)):=by simp only[dV,lW,fZ,mO,Lg,El,Qo,and_self]
 rw[cG Tryz.func27 rfl aRK (by kernel_rfl) rfl]
 simp only[ZG,seval,Bool.false_and,Prod.mk.injEq,HH];refine jH (fun m st=>∃k:Nat,(st.env 2=.ptr 2 0 0∧st.heap 2 0=some (.cells (aP t))∧st.env 3=.ptr 3 0 0∧st.heap 3 0=some (.cells (dJ w))∧st.env 4=.ptr 4 0 0∧st.heap 4 0=some (.cells (dD cX))∧st.env 5=.ptr 5 0 0∧st.heap 5 0=some (.cells (aP lW))∧st.env 7=.v (.int .i64 k))∧(∀j:Nat,j<k→¬NL (ol Q) w.tagged.tag j)∧k≤(ol Q).length∧m=(ol Q).length-k)
  (fun e st=>(e=.ret∧∃(k:Nat) (X:AV),(st.env 4=.ptr 4 0 0∧st.heap 4 0=some (.cells (dD (gx cX (ol Q) (k:Int))))∧st.env 5=.ptr 5 0 0∧st.heap 5 0=some (.cells (aP { t with iY:=X }))∧st.env 6=.v (.int .i64 0))∧((X=.v (.slice none 0 0)∧(ol Q).take k++(ol Q).drop (k+1)=[])∨∃g,X=.own 42 g∧(ol Q).take k++(ol Q).drop (k+1)≠[]∧st.heap 42 g=some (.row 63 35 ((ol Q).take k++(ol Q).drop (k+1)).length (aE ((ol Q).take k++(ol Q).drop (k+1)))))∧k<(ol Q).length∧NL (ol Q) w.tagged.tag k∧(∀j:Nat,j<k→¬NL (ol Q) w.tagged.tag j)) ∨
   (e=.exit 0∧(st.env 4=.ptr 4 0 0∧st.heap 4 0=some (.cells (dD cX))∧st.env 5=.ptr 5 0 0∧st.heap 5 0=some (.cells (aP lW)))∧∀j:Nat,j<(ol Q).length→¬NL (ol Q) w.tagged.tag j)) (ol Q).length ?step ?start ?rest
 case step =>
  rintro m st ⟨k,hI,hj,hk,hm⟩
  by_cases bA:(k:Int)<(ol Q).length
  case neg =>
   apply AX (.exit 0)
   ·simp only[ZG,seval,Bool.false_and,Prod.mk.injEq,HH,hI,h.Gm,bA];rfl
   ·exact .inr ⟨rfl,by simp only[E8,seval,hI],fun j hj'=>hj j (by omega)⟩
  have q0:(0:Int)≤k:=by omega
  have q2:(k:Int)≤((ol Q).length:Int):=by omega
  have q3:(0:Int)≤((k+1:Nat):Int):=by omega
  have q4:((k+1:Nat):Int)≤((ol Q).length:Int):=by omega
  have hw:IntKind.i64.wrap ((k:Int)+1)=((k+1:Nat):Int):=by rw[mZ _ (by omega) (by omega)];omega
  have n1:((((ol Q).take k).length:Nat):Int)<1000000:=by rw[List.length_take];omega
  have n2:((((ol Q).drop (k+1)).length:Nat):Int)<1000000:=by rw[List.length_drop];omega
  have e1:ol (Q.map (·.take k))=(ol Q).take k:=by cases Q<;>simp[ol]
  have e2:ol (Q.map (·.drop (k+1)))=(ol Q).drop (k+1):=by cases Q<;>simp[ol]
  by_cases hh:NL (ol Q) w.tagged.tag k
  ·have hh':(gx cX (ol Q) (k:Int)).tagged.tag=w.tagged.tag:=hh
   obtain⟨LL,AZ⟩:∃LL,(ol Q).take k++(ol Q).drop (k+1)=LL:=⟨_,rfl⟩
   by_cases hz:LL=[]
   ·have hT:((ol Q).take k).length=0:=by have:=congrArg List.length AZ;rw[hz,List.length_append] at this;simp only[List.length_nil] at this;omega
    have hD:((ol Q).drop (k+1)).length=0:=by have:=congrArg List.length AZ;rw[hz,List.length_append] at this;simp only[List.length_nil] at this;omega
    apply AX (.ret)
    ·simp only[ZG,seval,Bool.false_and,Prod.mk.injEq,HH,hI,h.Gm,bA,q0,q2,q3,q4,hw,bt hh',Int.toNat_natCast,iL,iM,Qz,Option.isSome_some,Option.map_some,Option.some.injEq,hT,hD,e1,e2];rfl
    ·exact .inl ⟨rfl,k,.v (.slice none 0 0),by simp only[E8,seval,hI]<;>rfl,.inl ⟨rfl,AZ.trans hz⟩,by omega,hh,hj⟩
   have BK:(LL.length=0)=False:=eq_false fun h=>hz (List.length_eq_zero_iff.1 h)
   have n3:((LL.length:Nat):Int)<1000000:=by rw[← AZ,List.length_append,List.length_take,List.length_drop];omega
   by_cases qA:k=0
   ·have hT:((ol Q).take k).length=0:=by rw[qA];rfl
    have hD:(ol Q).drop (k+1)=LL:=by rw[← AZ,qA];rfl
    apply AX (.ret)
    ·simp only[ZG,seval,Bool.false_and,Prod.mk.injEq,HH,hI,h.Gm,bA,q0,q2,q3,q4,hw,bt hh',Int.toNat_natCast,iL,iM,Qz,Option.isSome_some,Option.map_some,Option.some.injEq,hT,hD,BK,rA _ n3,e1,e2];rfl
    ·exact .inl ⟨rfl,k,_,by simp only[E8,seval,hI]<;>rfl,.inr ⟨_,rfl,by rw[AZ];exact hz,by rw[AZ];simp only[E8,seval]<;>rfl⟩,by omega,hh,hj⟩
   ·have hT:(((ol Q).take k).length=0)=False:=eq_false (by rw[List.length_take];omega)
    apply AX (.ret)
    ·simp only[ZG,seval,Bool.false_and,Prod.mk.injEq,HH,hI,h.Gm,bA,q0,q2,q3,q4,hw,bt hh',Int.toNat_natCast,iL,iM,Qz,Option.isSome_some,Option.map_some,Option.some.injEq,hT,rA _ n1,Tb _ _ _ _ n1 n2,e1,e2];rfl
    ·exact .inl ⟨rfl,k,_,by simp only[E8,seval,hI]<;>rfl,.inr ⟨_,rfl,by rw[AZ];exact hz,by simp only[E8,seval]<;>rfl⟩,by omega,hh,hj⟩
  ·have hh':¬(gx cX (ol Q) (k:Int)).tagged.tag=w.tagged.tag:=hh
   apply Am ((ol Q).length-(k+1))
   ·simp only[ZG,seval,Bool.false_and,Prod.mk.injEq,HH,hI,h.Gm,bA,q0,hw,bf hh'];rfl
   ·exact⟨k+1,by simp only[E8,seval,hI],fun j hj'=>(Nat.lt_succ_iff_lt_or_eq.1 hj').elim (hj j) fun e=>by subst e;exact hh,by omega,rfl⟩
 case start=>exact⟨0,by simp only[E8,seval]<;>rfl,fun j hj=>by omega,by omega,by omega⟩
 case rest =>
  rintro e st (⟨rfl,k,X,hI,hX,hk,hh,hj⟩|⟨rfl,hI,hj⟩)
  ·rcases hX with ⟨rfl,hz⟩|⟨g,rfl,hz,hg⟩
   ·have hfz:Flat (.agg (aP { t with iY:=.v (.slice none 0 0)})):=(tZ _).2 ⟨pH.1,pH.2.1,pH.2.2.1,pH.2.2.2.1,pH.2.2.2.2.1,pH.2.2.2.2.2.1,pH.2.2.2.2.2.2.1,.v _,pH.2.2.2.2.2.2.2.2⟩
    simp only[ZG,seval,Bool.false_and,Prod.mk.injEq,HH,hI];exact⟨_,fM rfl (by simp only[bY,Z8,seval,hI]<;>rfl) (by simp only[bY,Z8,seval,hI]<;>rfl) (by simp only[bY,E8,seval,hI]<;>rfl) (eB (.agg _ (jO _))) (eB hfz) (by simp only[Z8,seval]<;>rfl),.inr ⟨k,hk,hh,hj,by rw[hz,show nz ([]:List Request)=none from if_pos rfl];rfl⟩⟩
   ·simp only[ZG,seval,Bool.false_and,Prod.mk.injEq,HH,hI,hg];exact⟨_,fM rfl (by simp only[bY,Z8,seval,hI]<;>rfl) (by simp only[bY,Z8,seval,hI]<;>rfl) (by simp only[bY,E8,seval,hI]<;>rfl) (eB (.agg _ (jO _))) (by simp only[Z8,seval,hI,hg,bQ,vT,gG,bP,pK,cV,dV,pH]<;>rfl) (by simp only[Z8,seval]<;>rfl),.inr ⟨k,hk,hh,hj,by rw[show nz ((ol Q).take k++(ol Q).drop (k+1))=some _ from if_neg hz];rfl⟩⟩
  ·simp only[ZG,seval,Bool.false_and,Prod.mk.injEq,HH,hI];exact⟨_,by apply fM;rfl;all_goals simp only[aH,bY,Z8,seval,hI,AU]<;>rfl,.inl ⟨hj,rfl⟩⟩
theorem aRM (ns:List Node) (hu:gM ns) (hr:(nd ns 0).up=-1) (hn:(ns.length:Int)<1000000) (i:Int) (w:gV) (l:List Int) (hl:(l.length:Int)<1000000) (st:St) (a g:Nat) (d:Option Nat) (hh:st.heap a g=some (.row 3 1 l.length (aK l))) :
 fF (aB Tryz.prog) 222 [.agg (cO ⟨ns⟩),.v (.int .i64 i),.agg (dJ w),.own a g] st d=some { dst:=d,val:=TV ns i w l,dQ:=some (a,g,none)}:=by
 rw[Nw (s:=a) (k:=g) (by rw[List.flatMap_cons,List.flatMap_cons,List.flatMap_cons,vQ (mC _),vQ (.v _),vQ (.agg _ (jP w))];rfl) (by intro y hy;simp only[List.mem_cons,List.not_mem_nil,or_false] at hy;rcases hy with rfl|rfl|rfl|rfl;exact .inl (mC _);exact .inl (.v _);exact .inl (.agg _ (jP w));exact .inr (.inl ⟨a,g,rfl⟩)),
  List.map_cons,List.map_cons,List.map_cons,List.map_cons,List.map_nil,eB (mC _),eB (.v _),eB (.agg _ (jP w)),Qv hh,bN,bN,bN,bN,fR]
 exact MN (aPP ns hu hr hn i w l hl (.inl rfl)) (B6 ns i w l)
theorem aRN {t:State} {v:SV} {Q R:Option (List Request)} {q m:Int} (h:TI t v Q R q m) (w:gV) :
 ∃x,aB Tryz.prog 206 [.agg (aP t),.agg (dJ w)]=some x∧∃(t':State) (e:Int) (v':SV) (Q' R':Option (List Request)),x=.eE [.agg (aP t'),.v (.int .i64 e)]∧TI t' v' Q' R' q m:=by
 have hf:=h.td.flat
 have pH:=h.td.fl
 have fw:Flat (.agg (dJ w)):=.agg _ (jP w)
 have AU:Flat (.agg (aP lW)):=by simp only[dV,lW,fZ,mO,Lg,El,Qo,and_self]
 obtain⟨y,hy,⟨hj,rfl⟩|⟨k,hk,hh,hj,rfl⟩⟩:=x27 h.td w
 ·have k27:=kx hy (bE hf fw) (.eE _ (mD (.agg _ (jO _)) AU (.v _)))
  rw[cL Tryz.func206 rfl aFp rfl];simp only[Z8,seval,k27,dM];exact⟨_,by apply dK;rfl;all_goals simp only[aH,bY,Z8,seval,hf]<;>rfl,t,23,v,Q,R,rfl,h⟩
 obtain⟨r,er⟩:∃r,gx cX (ol Q) (k:Int)=r:=⟨_,rfl⟩
 obtain⟨t1,et⟩:∃t1,({ t with iY:=ov aE (nz ((ol Q).take k++(ol Q).drop (k+1)))}:State)=t1:=⟨_,rfl⟩
 have hr:r.tagged.tag<t.cZ:=by rw[← er];exact (h.tq.all _ (pF (by omega) (by omega))).2.1
 have h1:=h.less k
 rw[et] at h1;rw[er,et] at hy;have nt1:t1.cZ=t.cZ:=by rw[← et]
 have hf1:=h1.td.flat
 have NM:=h1.td.fl
 have k27:=kx hy (bE hf fw) (.eE _ (mD (.agg _ (jO _)) hf1 (.v _)))
 have hn:=h1.gi.sd.nn
 rw[cL Tryz.func206 rfl aFp rfl];by_cases g3:w.kind=3
 ·obtain⟨R',hR'⟩:=h1.U2 (r:=r) (by rw[nt1];exact hr)
  have ff:=hR'.td.flat
  have k72:=kx (c72 h1.td r) (bE hf1 (.agg _ (jO _))) ff
  simp only[Z8,seval,k27,dM,bt g3,k72];exact⟨_,by apply dK;rfl;all_goals simp only[aH,bY,Z8,seval,ff]<;>rfl,_,0,v,_,R',rfl,hR'⟩
 by_cases g4:w.kind=4
 ·obtain⟨R',hR'⟩:=h1.U2 (r:=r) (by rw[nt1];exact hr)
  have ff:=hR'.td.flat
  have k72:=kx (c72 h1.td r) (bE hf1 (.agg _ (jO _))) ff
  simp only[Z8,seval,k27,dM,bf g3,bt g4,k72];exact⟨_,by apply dK;rfl;all_goals simp only[aH,bY,Z8,seval,ff]<;>rfl,_,0,v,_,R',rfl,hR'⟩
 have ET:∀(st:St) (a g:Nat) (d:Option Nat),st.heap a g=some (.row 3 1 2 (aK [aM v.ns t1.store.aU.gJ.root,aM v.ns t1.store.aU.fin.root]))→_:=fun st a g d hh=>aRM v.ns h1.gi.up h1.gi.DT hn (aM v.ns r.block) w [aM v.ns t1.store.aU.gJ.root,aM v.ns t1.store.aU.fin.root] (by show ((2:Nat):Int)<_;omega) st a g d hh
 rcases aGL v.ns (aM v.ns r.block) w [aM v.ns t1.store.aU.gJ.root,aM v.ns t1.store.aU.fin.root] with ⟨e,he,ej⟩|⟨Xa,hs,ej⟩
 ·rw[ej] at ET
  have hH:=h.halt true
  have fH:=hH.td.flat
  simp only[Z8,seval,k27,dM,bf g3,bf g4,Eg,h1.gi.sd.tree,mQ _ _ hn,ET,bf he];exact⟨_,by apply dK;rfl;all_goals simp only[aH,bY,Z8,seval,fH]<;>rfl,_,21,v,Q,R,rfl,hH⟩
 rw[ej] at ET
 have Gj:(Xa.length:Int)<1000000:=by rw[hs.len];exact hn
 have fr:=eZ Xa t1.store.eR
 by_cases b0:0≤aM Xa t1.store.eR
 case neg =>
  have T:=h1.tree hs t1.store.eR
  have ft:=T.td.flat
  simp only[Z8,seval,k27,dM,bf g3,bf g4,Eg,h1.gi.sd.tree,mQ _ _ hn,mQ _ _ Gj,ET,b0];exact⟨_,by apply dK;rfl;all_goals simp only[aH,bY,Z8,seval,ft]<;>rfl,_,0,_,_,R,rfl,T⟩
 by_cases b1:(nd Xa (aM Xa t1.store.eR)).status=2
 case neg =>
  have T:=h1.tree hs t1.store.eR
  have ft:=T.td.flat
  simp only[Z8,seval,k27,dM,bf g3,bf g4,Eg,h1.gi.sd.tree,mQ _ _ hn,mQ _ _ Gj,ET,b0,fr.2,bf b1];exact⟨_,by apply dK;rfl;all_goals simp only[aH,bY,Z8,seval,ft]<;>rfl,_,0,_,_,R,rfl,T⟩
 have T:=h1.tree hs dR
 have ft:=T.td.flat
 simp only[Z8,seval,k27,dM,bf g3,bf g4,Eg,h1.gi.sd.tree,mQ _ _ hn,mQ _ _ Gj,ET,b0,fr.2,bt b1];exact⟨_,by apply dK;rfl;all_goals simp only[aH,bY,Z8,seval,ft]<;>rfl,_,0,_,_,R,rfl,T⟩
end Go.Ab.Tryz
