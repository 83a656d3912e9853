/-
  Part 12 of the proof: an evaluator of programs, its soundness, and what functions of this program compute.
-/
import Derived.Test.YthkgnakbkaafgaaGreatK11
import Derived.Test.YthkgnakbkaafgaaGreatK8
import Derived.Test.YthkgnakbkaafgaaGreatK10
import Derived.Test.YthkgnakbkaafgaaGreatK9
set_option linter.all false
set_option maxRecDepth 20000
set_option maxHeartbeats 40000000
open Go.IntKind (i64 u64 u8)
open List Go.Proofs.Tryz
noncomputable section
namespace Go.Ab.Tryz
open Classical Go.Proofs Go.Ab
variable {x g k e sz n x' g':Nat} {s:aF} {v:SV} {q:Int} {args xs cs:List AV} {call:Nat->List AV->Option AV} {st:St} {d:Option Nat} {L l V b:List Int} {a:qX} {E:List qX} {c:Config}
def aOA (ns:List Node) (i x:Int):∀k:Nat,x∈AK ns i k->(0<=x/\x<k)/\(nd ns x).up=i:=by
 intro k;induction k<;>grind [AK]
def RM {ns:List Node} (hu:eK ns) (hr:(nd ns 0).up=-1) {i x:Int} (h:x∈zF ns i):i<x/\0<=x/\x<ns.length:=by
 unfold zF at h;split at h
 ·simp at h
 ·rename_i hi;obtain⟨⟨x0,x1⟩,Co⟩:=aOA ns i x _ h
  by_cases hx:x=0
  ·grind
  ·have:=(hu x WF x1).2;omega
def aUj (hs:SD s v) (hu:eK v.ns) (X:(nd v.ns 0).up=-1) (hp:s.cFg.iH≠0):∀(n:Nat) (i:Int),((v.ns.length:Int)-i).toNat<=n->∃b:Bool,aA prog 101 [bc s,aa i]=some (ae b):=by
 have base:∀(i:Int),zF v.ns i=[]->∃b:Bool,aA prog 101 [bc s,aa i]=some (ae b):=by
  intro i G;obtain⟨r,hr9,b,rfl⟩:=aUh hs hp i
  have p:=kx hr9 (aU hs.flat (.v _)) (.v _)
  have W:=fun st d=>aM8 v.ns hu X hs.nn i G st d
  suffices h:∃r,aA prog 101 [bc s,aa i]=some r/\∃b:Bool,r=ae b by
   grind
  rw[cL func101 rfl aM9 rfl];cases b
  ·simp only[Z8,seval,p,hs.tree,W];refine bP (fun m st=>st.env 5=af/\st.env 6=aa 0/\m=0) (fun e st=>e=.exit 0) 0 ?step ?start ?rest
   case step =>
    rintro m st ⟨C,h6,_⟩
    apply oT (.exit 0)
    ·simp only[Z8,seval,C,h6,Int.lt_irrefl];rfl
    ·exact rfl
   case start=>exact⟨Wl,Wl,rfl⟩
   case rest =>
    rintro e st rfl
    simp only[Z8,seval];exact⟨_,bE rfl Wl XG,_,rfl⟩
  ·simp only[Z8,seval,p];exact⟨_,bE rfl Wl XG,_,rfl⟩
 intro n;induction n with
 | zero =>
   intro i hi;exact base i (YS hu X WF)
 | succ n S =>
   intro i hi;by_cases G:zF v.ns i=[]
   ·exact base i G
   obtain⟨r,hr9,b,rfl⟩:=aUh hs hp i
   have p:=kx hr9 (aU hs.flat (.v _)) (.v _)
   have W:=fun st d=>aUk v.ns hu X hs.nn i G st d
   have hB:∀x:Int,∃b:Bool,x∈zF v.ns i->aA prog 101 [bc s,aa x]=some (ae b):=by
    intro x;by_cases N:x∈zF v.ns i
    ·have:=RM hu X N
     obtain⟨b,hb⟩:=S x WF
     grind
    grind
   obtain⟨B,hB⟩:∃B:Int->Bool,∀x,x∈zF v.ns i->aA prog 101 [bc s,aa x]=some (ae (B x)):=⟨fun x=>Classical.choose (hB x),fun x=>Classical.choose_spec (hB x)⟩
   have hgt:∀x∈zF v.ns i,i<x/\0<=x/\x<v.ns.length:=fun x N=>RM hu X N
   have Ry:bg (zF v.ns i).length:=by
    have J:(zF v.ns i).length<=v.ns.length:=by
     grind [zF,CA]
    have:=hs.nn;omega
   obtain⟨l,el⟩:∃l,zF v.ns i=l:=⟨_,rfl⟩
   rw[el] at W hB Ry;suffices h:∃r,aA prog 101 [bc s,aa i]=some r/\∃b:Bool,r=ae b by
    grind
   rw[cL func101 rfl aM9 rfl];cases b
   case true =>
    simp only[Z8,seval,p];exact⟨_,bE rfl Wl XG,_,rfl⟩
   simp only[Z8,seval,p,hs.tree,W];refine bP (fun m st=>∃k:Nat,(st.env 2=.ptr 2 0 0/\st.heap 2 0=some (.cells (aB s))/\st.env 5=.own 13 0/\st.heap 13 0=some (.row 3 1 l.length (aH l))/\st.env 6=aa k)/\(∀j:Nat,j<k->¬(B (it l (j:Int))=true))/\k<=l.length/\m=l.length-k)
    (fun e st=>(e=.ret/\∃k:Nat,k<l.length/\(B (it l (k:Int))=true)/\(∀j:Nat,j<k->¬(B (it l (j:Int))=true))/\st.env 4=ae true)\/(e=.exit 0/\(∀j:Nat,j<l.length->¬(B (it l (j:Int))=true))/\st.env 2=.ptr 2 0 0/\st.heap 2 0=some (.cells (aB s))/\st.env 5=.own 13 0/\st.heap 13 0=some (.row 3 1 l.length (aH l)))) (l.length) ?step ?start ?rest
   case step =>
    rintro m st ⟨k,D,Y,R,hm⟩
    by_cases A:(k:Int)<l.length
    ·obtain ⟨q0,hw⟩ := yY k
     have gi:=qH q0 A
     have hm2:it l (k:Int)∈l:=by obtain⟨J,h2⟩:=zD q0 A;grind
     have kb:=kx (hB _ hm2) (aU hs.flat (.v _)) (.v _)
     by_cases u:B (it l (k:Int))=true
     ·apply oT (.ret)
      ·simp only[Z8,seval,D,A,q0,kb,gi,u];rfl
      ·exact .inl ⟨rfl,k,WF,u,Y,by simp only[E8,seval,kb,gi]⟩
     ·have M:B (it l (k:Int))=false:=dq
      apply oN (l.length-(k+1))
      ·simp only[Z8,seval,D,A,q0,kb,gi,M,hw];rfl
      ·exact⟨k+1,XC,fun j h=>(Nat.lt_succ_iff_lt_or_eq.1 h).elim (Y j) fun e=>vg,WF,rfl⟩
    ·apply oT (.exit 0)
     ·simp only[Z8,seval,D,A,A];rfl
     ·exact .inr ⟨rfl,fun j h=>Y j WF,XC⟩
   case start=>exact⟨0,Wl,fun j h=>WF,WF,WF⟩
   case rest =>
    rintro e st (⟨rfl,k,R,u,Y,h⟩|⟨rfl,Y,D⟩)
    ·simp only[Z8,seval];exact⟨_,bE rfl qm XG,_,rfl⟩
    ·simp only[Z8,seval];exact⟨_,bE rfl Wl XG,_,rfl⟩
def x55 (h:GI s v q):∃x,aA prog 55 [bc s]=some x/\∃m:List Bool,x=.uniq 4 1 m.length (iJ m)/\m.length=v.ns.length:=by
 have hn:=h.sd.nn
 have h0:=h.pos
 obtain⟨B,hB⟩:∃B:Int->Bool,∀x,aA prog 101 [bc s,aa x]=some (ae (B x)):=⟨fun x=>Classical.choose (aUj h.sd h.up h.Nv h.sp _ x (Nat.le_refl _)),fun x=>Classical.choose_spec (aUj h.sd h.up h.Nv h.sp _ x (Nat.le_refl _))⟩
 have J:∀(x:Int) (st:St) (d:Option Nat),aO (aA prog) 101 [bc s,aa x] st d=some { dst:=d,val:=ae (B x)}:=fun x=>kx (hB x) (aU h.sd.flat (.v _)) (.v _)
 rw[cL func55 rfl a1A rfl];simp only[Z8,seval];refine bP (fun m st=>∃k:Nat,(st.env 1=.ptr 1 0 0/\st.heap 1 0=some (.cells (aB s))/\st.env 4=aa k)/\((k=0/\st.env 3=af)\/∃(l:List Bool) (g:Nat),st.env 3=.own 18 g/\g<st.aJ 18/\st.heap 18 g=some (.row 4 1 l.length (iJ l))/\l.length=k)/\k<=v.ns.length/\m=v.ns.length-k)
  (fun e st=>e=.exit 0/\∃(l:List Bool) (g:Nat),st.env 3=.own 18 g/\st.heap 18 g=some (.row 4 1 l.length (iJ l))/\l.length=v.ns.length) v.ns.length ?step ?start ?rest
 case step =>
  rintro m st ⟨k,D,C,hk,hm⟩
  by_cases A:(k:Int)<v.ns.length
  ·obtain ⟨q0,hw⟩ := yY k
   rcases C with ⟨S,C⟩|⟨l',g,C,hg,R,Mi⟩
   ·apply oN (v.ns.length-(k+1))
    ·simp only[Z8,seval,D,C,A,q0,h.sd.tree,J,hw];rfl
    ·exact⟨k+1,XC,.inr ⟨[B k],st.aJ 18,Wl,Yo,Wl,qs⟩,WF,rfl⟩
   ·have nl:bg l'.length:=WF
    apply oN (v.ns.length-(k+1))
    ·simp only[Z8,seval,D,C,R,A,q0,h.sd.tree,J,hw,YT _ _ _ _ nl];rfl
    ·exact⟨k+1,XC,.inr ⟨l'++[B k],st.aJ 18,Wl,Yo,Wl,qg⟩,WF,rfl⟩
  ·have Gt:k=v.ns.length:=WF
   rcases C with ⟨S,C⟩|⟨l,g,C,hg,R,W⟩
   ·omega
   ·apply oT (.exit 0)
    ·simp only[Z8,seval,D,A,h.sd.tree];rfl
    ·exact⟨rfl,l,g,by simp only[E8,seval,C],nw,WF⟩
 case start=>exact⟨0,Wl,.inl ⟨rfl,qb⟩,WF,WF⟩
 case rest =>
  rintro e st ⟨rfl,l,g,C,R,W⟩
  simp only[Z8,seval,C];exact⟨_,oH rfl wh xz (Ke _),l,rfl,W⟩
theorem sJ {x:AV} (h:Flat x):jB x=[]:=by
 have one:∀c,Flat c->gP c=[]:=fun c G=>by cases G<;>rfl
 cases h with
 | agg cs h =>
   simp only[jB];rw[flatMap_eq_nil_iff];exact fun c G=>one c (h c G)
 | _=>rfl
def Pz (h:∀x∈args,Flat x):args.flatMap jB=[]:=flatMap_eq_nil_iff.2 fun x N=>sJ (h x N)
def Sv (h:∀x∈args,Flat x):eH call g args st d=aO call g args st d:=by
 unfold eH;rw[Pz h]
theorem Kf {r:AV} (W:∀x∈args,Flat x) (h:call g args=some r) (X:Flat r):eH call g args st d=some { dst:=d,val:=r }:=by
 rw[Sv W];exact aX W h X
def Hh (call:Nat->List AV->Option AV) (g:Nat) (xs:Option (List AV)) (s k:Nat) (st:St) (d:Option Nat):Option rI :=
 cT xs fun xs=>cT (call g xs) fun r=>Dv r st d s k
def Hi {s:Nat} (R:args.flatMap jB=[(s,k)]) (he:∀x∈args,ox x):eH call g args st d=Hh call g (bM (args.map (eE st))) s k st d:=by
 unfold eH Hh;rw[R];simp only
 rw[if_pos he];cases bM (args.map (eE st))<;>rfl
theorem YU {r:AV} {s:Nat} (h:call g xs=some r) (X:Flat r):Hh call g (some xs) s k st d=some { dst:=d,val:=r,dE:=some (s,k,none)}:=by
 unfold Hh Dv jH;simp only[cC,h,if_pos X,cR]
theorem aJO {s:Nat} {d:Nat} (h:call g xs=some (.uniq e sz n cs)) (hm:∀c∈cs,cZ c):Hh call g (some xs) s k st (some d)=some { dst:=some d,val:=.own d (st.aJ d),dE:=some (s,k,none),new:=some (d,[.row e sz n cs])}:=by
 have C:¬Flat (.uniq e sz n cs):=ym
 unfold Hh Dv jH;simp only[cC,h,if_neg C,cR];rfl
def aFB {d:Nat} (W:∀x∈args,Flat x) (h:call g args=some (.uniq e sz n cs)):eH call g args st (some d)=some { dst:=some d,val:=.own d (st.aJ d),new:=some (d,[.row e sz n cs])}:=by
 have C:¬Flat (.uniq e sz n cs):=ym
 rw[Sv W];unfold aO;rw[if_pos W,h];simp only[cC];unfold jH;rw[if_neg C];rfl
def Mo {a:Nat} (u:st.heap a g=some (.row 3 1 L.length (aH L))):eE st (.own a g)=some (ov aH (some L)):=by
 rw[oB,u];exact zG L.length L
def aUl (o:Option (List Int)) (hn:((ol o).length:Int)<999999) (x:Int) :
 ((∀(st:St) (d:Nat),eH (aA prog) 319 [ov aH o,aa x] st (some d)=some { dst:=some d,val:=ov aH o }) /\
  ∀(st:St) (d a g:Nat) (L:List Int),o=some L->st.heap a g=some (.row 3 1 L.length (aH L))->eH (aA prog) 319 [.own a g,aa x] st (some d)=some { dst:=some d,val:=ov aH (some L),dE:=some (a,g,none)}) \/
 ∃M:List Int,(M.length=(ol o).length+1/\Q8 (ol o) x M)/\(∀(st:St) (d:Nat),eH (aA prog) 319 [ov aH o,aa x] st (some d)=some { dst:=some d,val:=.own d (st.aJ d),new:=some (d,[.row 3 1 M.length (aH M)])}) /\
  ∀(st:St) (d a g:Nat) (L:List Int),o=some L->st.heap a g=some (.row 3 1 L.length (aH L))->eH (aA prog) 319 [.own a g,aa x] st (some d)=some { dst:=some d,val:=.own d (st.aJ d),dE:=some (a,g,none),new:=some (d,[.row 3 1 M.length (aH M)])}:=by
 have one:∀(st:St) (d a g:Nat) (L:List Int),o=some L->st.heap a g=some (.row 3 1 L.length (aH L))->eH (aA prog) 319 [.own a g,aa x] st (some d)=Hh (aA prog) 319 (some [ov aH o,aa x]) a g st (some d):=by
  rintro st d a g L rfl u
  rw[Hi (s:=a) (k:=g) rfl (by intro y Y;simp only[mem_cons,not_mem_nil,or_false] at Y;rcases Y with rfl|rfl;exact .inr (.inl ⟨a,g,rfl⟩);exact .inl (.v _)),
   map_cons,map_cons,map_nil,Mo u,xA,aM,aM,dB]
  rfl
 obtain⟨r,X,h⟩:=a1p o hn x
 rcases h with rfl|⟨M,rfl,l⟩
 ·grind [Kf,bR,Flat.v,YU]
 ·refine .inr ⟨M,l,fun st d=>aFB (aU (bR o) (.v _)) X,fun st d a g L ho u=>?_⟩
  grind [aJO,aCN]
def aUm (x:eZ) (V W:Option (List Int)) (hV:x.first.dL=ov aH V) (hW:x.second.dL=ov aH W) (nV:((ol V).length:Int)<99999) (nW:((ol W).length:Int)<99999) :
 ∃r,aA prog 264 [aw x]=some r/\∃o:Option (List Int),(((ol o).length:Int)<=(ol V).length/\∀y∈ol o,y∈ol V)/\(r=ov aH o\/∃L,o=some L/\r=.uniq 3 1 L.length (aH L)):=by
 have f1:Flat x.first.dL:=zr
 have f2:Flat x.second.dL:=iy
 rw[cL func264 rfl aUn rfl];simp only[Z8,seval];refine bP (fun m st=>∃k:Nat,(st.env 1=.ptr 1 0 0/\st.heap 1 0=some (.cells (bO x))/\st.env 4=aa k)/\(∃o:Option (List Int),((ol o).length<=k/\∀y∈ol o,y∈ol V)/\(st.env 3=ov aH o\/∃g L,o=some L/\st.env 3=.own 30 g/\g<st.aJ 30/\st.heap 30 g=some (.row 3 1 L.length (aH L))))/\k<=(ol V).length/\m=(ol V).length-k)
  (fun e st=>e=.exit 0/\∃o:Option (List Int),((ol o).length<=(ol V).length/\∀y∈ol o,y∈ol V)/\(st.env 3=ov aH o\/∃g L,o=some L/\st.env 3=.own 30 g/\st.heap 30 g=some (.row 3 1 L.length (aH L)))) (ol V).length ?step ?start ?rest
 case step =>
  rintro m st ⟨k,D,⟨o,⟨p,X⟩,S⟩,hk,hm⟩
  by_cases A:(k:Int)<(ol V).length
  ·obtain ⟨q0,hw⟩ := yY k
   have YV:=aFx W WF (gx (0:Int) (ol V) (k:Int))
   by_cases J:gx (0:Int) (ol V) (k:Int)∈ol W
   ·have KE:=eq_true J
    rcases aUl o WF (gx (0:Int) (ol V) (k:Int)) with ⟨ea,G⟩|⟨M,⟨hM,hMi⟩,ea,G⟩
    ·rcases S with S|⟨g,L,C,S,hg,u⟩
     ·apply oN ((ol V).length-(k+1))
      ·simp only[Z8,seval,D,S,A,q0,hV,hW,YV,KE,ea,hw];rfl
      ·exact⟨k+1,XC,⟨o,⟨WF,X⟩,.inl qb⟩,WF,rfl⟩
     ·have R:=fun st d a g=>G st d a g L C
      have ho':(ol (some L)).length<=k:=qg
      apply oN ((ol V).length-(k+1))
      ·simp only[Z8,seval,D,S,u,A,q0,hV,hW,YV,KE,R,hw];rfl
      ·exact⟨k+1,XC,⟨some L,⟨WF,qg⟩,.inl qb⟩,WF,rfl⟩
    ·have hMV:∀y∈M,y∈ol V:=fun y Y=>(hMi.2 y Y).elim (fun e=>by rw[e];exact lB q0 A) (X y)
     rcases S with S|⟨g,L,C,S,hg,u⟩
     ·apply oN ((ol V).length-(k+1))
      ·simp only[Z8,seval,D,S,A,q0,hV,hW,YV,KE,ea,hw];rfl
      ·exact⟨k+1,XC,⟨some M,⟨by show M.length<=_;omega,hMV⟩,.inr ⟨_,M,rfl,Wl,Yo,Wl⟩⟩,WF,rfl⟩
     ·have R:=fun st d a g=>G st d a g L C
      have N:(g=st.aJ 30)=False:=eq_false WF
      apply oN ((ol V).length-(k+1))
      ·simp only[Z8,seval,D,S,u,N,A,q0,hV,hW,YV,KE,R,hw];rfl
      ·exact⟨k+1,XC,⟨some M,⟨by show M.length<=_;omega,hMV⟩,.inr ⟨_,M,rfl,Wl,Yo,Wl⟩⟩,WF,rfl⟩
   ·have KE:=eq_false J
    have l:st.env 3=ov aH o\/∃g L,o=some L/\st.env 3=.own 30 g/\g<st.aJ 30/\st.heap 30 g=some (.row 3 1 L.length (aH L)):=S
    apply oN ((ol V).length-(k+1))
    ·simp only[Z8,seval,D,A,q0,hV,hW,YV,KE,hw];rfl
    ·exact⟨k+1,XC,⟨o,⟨WF,X⟩,mb⟩,WF,rfl⟩
  ·have l:st.env 3=ov aH o\/∃g L,o=some L/\st.env 3=.own 30 g/\st.heap 30 g=some (.row 3 1 L.length (aH L)):=S.imp id fun ⟨g,L,a,b,_,c⟩=>⟨g,L,a,b,c⟩
   apply oT (.exit 0)
   ·simp only[Z8,seval,D,A,hV];rfl
   ·exact⟨rfl,o,⟨WF,X⟩,mb⟩
 case start=>exact⟨0,Wl,⟨none,⟨zc,fun y Y=>bk⟩,.inl Wl⟩,WF,WF⟩
 case rest =>
  rintro e st ⟨rfl,o,⟨p,X⟩,S⟩
  rcases S with S|⟨g,L,C,S,u⟩
  ·simp only[Z8,seval,S];exact⟨_,bE rfl (by simp only[E8,seval,S]<;>rfl) (bR o),o,⟨WF,X⟩,.inl rfl⟩
  ·simp only[Z8,seval,S];exact⟨_,oH rfl (by simp only[E8,seval,S]<;>rfl) xr (eP _),o,⟨WF,X⟩,.inr ⟨L,C,rfl⟩⟩
def aUo {o:Option (List Int)} (h:(ol o).length<=L.length):i64.wrap ((L.length:Int)-((ol o).length:Int))≠0->L≠[]:=by
 rintro M rfl
 have h0:(ol o).length=0:=dr
 rw[h0] at M;exact M ZB
def R4 (l V L:List Int):Prop:=(l.Pairwise (· < ·)->L.Pairwise (· < ·))/\∀y∈L,y∈l\/y∈V
def R4.ins {M:List Int} (h:R4 l V L) {x:Int} (g:Q8 L x M) (N:x∈V):R4 l V M:=⟨fun p=>g.1 (h.1 p),fun y Y=>(g.2 y Y).elim (fun e=>.inr (by rw[e];exact N)) (h.2 y)⟩
def a1C (o V:Option (List Int)) (no:((ol o).length:Int)<900000) (nV:((ol V).length:Int)<99999) :
 ∃r,aA prog 263 [ov aH o,ov aH V]=some r/\∃(L:List Int) (n:Int),r=.cY [ov aH (some L),aa n]/\L.length<=(ol o).length+(ol V).length/\(n≠0->L≠[])/\R4 (ol o) (ol V) L:=by
 rw[cL func263 rfl aUp (by cases o<;>cases V<;>rfl)]
 have X:bg (ol o).length:=WF
 simp only[Z8,seval,Ss _ X];refine bP (fun m st=>∃k:Nat,(st.env 0=ov aH o/\st.env 1=ov aH V/\st.env 7=aa k)/\(∃L:List Int,((ol o).length<=L.length/\L.length<=(ol o).length+k/\R4 (ol o) (ol V) L)/\(st.env 6=ov aH (some L)\/(∃g,st.env 6=.own 21 g/\g<st.aJ 21/\st.heap 21 g=some (.row 3 1 L.length (aH L)))\/(st.env 6=.own 9 0/\st.heap 9 0=some (.row 3 1 L.length (aH L)))))/\k<=(ol V).length/\m=(ol V).length-k)
  (fun e st=>e=.exit 0/\(st.env 0=ov aH o)/\∃L:List Int,((ol o).length<=L.length/\L.length<=(ol o).length+(ol V).length/\R4 (ol o) (ol V) L)/\(st.env 6=ov aH (some L)\/∃a g,st.env 6=.own a g/\st.heap a g=some (.row 3 1 L.length (aH L)))) (ol V).length ?step ?start ?rest
 case step =>
  rintro m st ⟨k,D,⟨L,C,S⟩,hk,hm⟩
  by_cases A:(k:Int)<(ol V).length
  ·obtain ⟨q0,hw⟩ := yY k
   rcases aUl (some L) (by show (L.length:Int)<_;omega) (gx (0:Int) (ol V) (k:Int)) with ⟨ea,G⟩|⟨M,⟨hM,J⟩,ea,G⟩
   ·rcases S with S|⟨g,S,hg,u⟩|⟨S,u⟩
    ·apply oN ((ol V).length-(k+1))
     ·simp only[Z8,seval,D,S,A,q0,ea,hw];rfl
     ·exact⟨k+1,XC,⟨L,⟨C.1,WF,C.2.2⟩,.inl qb⟩,WF,rfl⟩
    ·have R:=fun st d a g=>G st d a g L rfl
     apply oN ((ol V).length-(k+1))
     ·simp only[Z8,seval,D,S,u,A,q0,R,hw];rfl
     ·exact⟨k+1,XC,⟨L,⟨C.1,WF,C.2.2⟩,.inl qb⟩,WF,rfl⟩
    ·have R:=fun st d a g=>G st d a g L rfl
     apply oN ((ol V).length-(k+1))
     ·simp only[Z8,seval,D,S,u,A,q0,R,hw];rfl
     ·exact⟨k+1,XC,⟨L,⟨C.1,WF,C.2.2⟩,.inl qb⟩,WF,rfl⟩
   ·have hM':M.length=L.length+1:=hM
    have W:R4 (ol o) (ol V) M:=C.2.2.ins J (lB q0 A)
    rcases S with S|⟨g,S,hg,u⟩|⟨S,u⟩
    ·apply oN ((ol V).length-(k+1))
     ·simp only[Z8,seval,D,S,A,q0,ea,hw];rfl
     ·exact⟨k+1,XC,⟨M,⟨WF,WF,W⟩,.inr (.inl ⟨_,Wl,Yo,Wl⟩)⟩,WF,rfl⟩
    ·have R:=fun st d a g=>G st d a g L rfl
     have N:(g=st.aJ 21)=False:=eq_false WF
     apply oN ((ol V).length-(k+1))
     ·simp only[Z8,seval,D,S,u,N,A,q0,R,hw];rfl
     ·exact⟨k+1,XC,⟨M,⟨WF,WF,W⟩,.inr (.inl ⟨_,Wl,Yo,Wl⟩)⟩,WF,rfl⟩
    ·have R:=fun st d a g=>G st d a g L rfl
     apply oN ((ol V).length-(k+1))
     ·simp only[Z8,seval,D,S,u,A,q0,R,hw];rfl
     ·exact⟨k+1,XC,⟨M,⟨WF,WF,W⟩,.inr (.inl ⟨_,Wl,Yo,Wl⟩)⟩,WF,rfl⟩
  ·have l:st.env 6=ov aH (some L)\/∃a g,st.env 6=.own a g/\st.heap a g=some (.row 3 1 L.length (aH L)):=by
    grind
   apply oT (.exit 0)
   ·simp only[Z8,seval,D,A];rfl
   ·exact⟨rfl,XC,L,⟨C.1,WF,C.2.2⟩,mb⟩
 case start=>exact⟨0,Wl,⟨ol o,⟨WF,WF,fun h=>h,fun y Y=>.inl Y⟩,.inr (.inr ⟨qb,qb⟩)⟩,WF,WF⟩
 case rest =>
  rintro e st ⟨rfl,h0,L,C,S⟩
  rcases S with S|⟨a,g,S,u⟩
  ·simp only[Z8,seval,S,h0];exact⟨_,bT rfl rfl rfl (by simp only[E8,seval,S,Hj]<;>rfl) (by simp only[E8,seval,S,Hj]<;>rfl),L,_,rfl,C.2.1,aUo C.1,C.2.2⟩
  ·simp only[Z8,seval,S,u,h0];exact⟨_,bT rfl rfl rfl (by simp only[E8,seval,S,u,zG]<;>rfl) (by simp only[E8,seval,S,u,zG]<;>rfl),L,_,rfl,C.2.1,aUo C.1,C.2.2⟩
def a1E (x:eZ) (V W:Option (List Int)) (hV:x.first.dL=ov aH V) (hW:x.second.dL=ov aH W) (S:((ol V).length:Int)<99999) (G:((ol W).length:Int)<99999) (n:Int) :
 ∃r,aA prog 262 [aw x,aa n]=some r/\∃e:Int,r=aa e/\e≠21/\(e=0->vM (ol V) n=0):=by
 have f1:Flat x.first.dL:=zr
 have f2:Flat x.second.dL:=iy
 have m:Flat (aw x):=(jT x).2 ⟨f1,f2⟩
 have p:=kx (eh V WF n) (aU (bR V) (.v _)) (.v _)
 have N:=kx (eh W WF n) (aU (bR W) (.v _)) (.v _)
 obtain⟨ev,X⟩:∃e,vM (ol V) n=e:=⟨_,rfl⟩
 obtain⟨R,Y⟩:∃e,vM (ol W) n=e:=⟨_,rfl⟩
 rw[X] at p;rw[Y] at N;obtain⟨r1,D,c,rfl⟩:=a1l x.first x.second f1 f2
 have A:=kx D (aU ((pL _).2 f1) ((pL _).2 f2)) (.v _)
 obtain⟨r2,J,o,⟨ho,_⟩,M⟩:=aUm x V W hV hW S G
 rw[cL func262 rfl aUq rfl];by_cases g1:ev=0
 case neg =>
  simp only[Z8,seval,hV,hW,p,bf g1];exact⟨_,bE rfl Wl XG,_,rfl,by rw[<- X];exact DV _ _,fun h=>X.trans h⟩
 by_cases g2:R=0
 case neg =>
  simp only[Z8,seval,hV,hW,p,N,bt g1,bf g2];exact⟨_,bE rfl Wl XG,_,rfl,by rw[<- Y];exact DV _ _,fun _=>X.trans g1⟩
 by_cases g3:x.first.target<x.first.source
 ·simp only[Z8,seval,hV,hW,p,N,bt g1,bt g2,g3];exact⟨_,bE rfl Wl XG,_,rfl,ZB,fun _=>X.trans g1⟩
 by_cases g4:x.second.target<x.second.source
 ·simp only[Z8,seval,hV,hW,p,N,bt g1,bt g2,g3,g4];exact⟨_,bE rfl Wl XG,_,rfl,ZB,fun _=>X.trans g1⟩
 cases c
 ·simp only[Z8,seval,hV,hW,p,N,bt g1,bt g2,g3,g4,A];exact⟨_,bE rfl Wl XG,_,rfl,ZB,fun _=>X.trans g1⟩
 rcases M with rfl|⟨L,hL,rfl⟩
 ·have C:=kx J (bZ m) (bR o)
  by_cases g5:((ol o).length:Int)=0
  ·simp only[Z8,seval,hV,hW,p,N,bt g1,bt g2,g3,g4,A,C,bt g5];exact⟨_,bE rfl Wl XG,_,rfl,ZB,fun _=>X.trans g1⟩
  ·simp only[Z8,seval,hV,hW,p,N,bt g1,bt g2,g3,g4,A,C,bf g5];exact⟨_,bE rfl Wl XG,_,rfl,ZB,fun _=>X.trans g1⟩
 ·have C:∀(st:St) (d:Nat),aO (aA prog) 264 [aw x] st (some d)=_:=fun st d=>gA (st:=st) (d:=d) (bZ m) J
  by_cases g5:(L.length:Int)=0
  ·simp only[Z8,seval,hV,hW,p,N,bt g1,bt g2,g3,g4,A,C,bt g5];exact⟨_,bE rfl Wl XG,_,rfl,ZB,fun _=>X.trans g1⟩
  ·simp only[Z8,seval,hV,hW,p,N,bt g1,bt g2,g3,g4,A,C,bf g5];exact⟨_,bE rfl Wl XG,_,rfl,ZB,fun _=>X.trans g1⟩
def a1G (h:GI s v q) (r:RG s v) (x:eZ) (V W:Option (List Int)) (hV:x.first.dL=ov aH V) (hW:x.second.dL=ov aH W) (nV:((ol V).length:Int)<=1000) (nW:((ol W).length:Int)<=1000) (N:q+1000<=900000) :
 ∃r,aA prog 181 [bc s,aw x]=some r/\StN s v (q+1000) r:=by
 have hf:=h.sd.flat
 have nY:=h.sd.fl
 have R:=sI
 have f1:Flat x.first.dL:=zr
 have f2:Flat x.second.dL:=iy
 have m:Flat (aw x):=(jT x).2 ⟨f1,f2⟩
 obtain⟨r1,O2,A,rfl,he1,p⟩:=a1E x V W hV hW WF WF (ol v.B).length
 have aFE:=kx O2 (aU m (.v _)) (.v _)
 obtain⟨r2,J,o,⟨ho,X⟩,hro⟩:=aUm x V W hV hW WF WF
 have nq:=h.nQ
 obtain⟨r3,hr3,L,n,rfl,hL,S,hLP⟩:=a1C v.Q o WF WF
 have fr:Flat (.cY [ov aH (some L),aa n]):=.cY _ (aU (bR _) (.v _))
 have k263:∀(st:St) (d:Option Nat),eH (aA prog) 263 [ov aH v.Q,ov aH o] st d=_:=fun st d=>Kf (st:=st) (d:=d) (aU (bR _) (bR _)) hr3 fr
 rw[cL func181 rfl aUs rfl];by_cases g1:A=0
 case neg =>
  simp only[Z8,seval,DQ h.sd,aFE,bf g1];exact⟨_,qh,eU,A,rfl,R,he1,fun h=>absurd h g1⟩
 have C:((ol (some L)).length:Int)<=q+1000:=by show (L.length:Int)<=_;omega
 have G:GI { s with dI:={ s.dI with dM:=ov aH (some L)} } { v with Q:=some L } (q+1000) :=
  ⟨⟨h.sd.fL,h.sd.cJ,rfl,h.sd.early,h.sd.bL,h.sd.tree,h.sd.tables,h.sd.eV,h.sd.tB,h.sd.nB,h.sd.nL,qg,h.sd.nE,h.sd.nO,h.sd.nT,h.sd.nn⟩,h.up,h.Nv,h.pos,h.nl,h.RE,h.iH,h.Wg,h.nB,h.nO,h.AH,h.nE,h.KU,h.nT,h.KV,C,N,h.dX⟩
 have hVS:L≠[]->VS { s with dI:={ s.dI with dM:=ov aH (some L)} } { v with Q:=some L }:=fun h0=>r.vs.dM (some L) (ov aH (some L)) h0 (hLP.1 (r.vs.aM3)) fun y Y=>(hLP.2 y Y).elim (r.vs.aFs y) fun Y=>(Wa (p g1)).2 y (X y Y)
 have D:=G.sd.flat
 rcases hro with rfl|⟨M,l,rfl⟩
 ·have EL:=kx J (bZ m) (bR o)
  by_cases g2:n=0
  ·simp only[Z8,seval,DQ h.sd,aFE,bt g1,h.sd.dM,EL,k263,bW,bt g2];exact⟨_,qh,eU,9,rfl,R,ZB,fun h=>wu⟩
  ·simp only[Z8,seval,DQ h.sd,aFE,bt g1,h.sd.dM,EL,k263,bW,bf g2];exact⟨_,yg,_,0,rfl,D,ZB,fun _=>⟨_,G,⟨⟨r.now,r.j,r.f,r.nd,r.or,r.rt,r.fe,r.ds,r.tb,⟨fun e=>S g2 (by injection e),r.ne.e,r.ne.t,r.ne.ea,r.ne.tb⟩,hVS (S g2)⟩,r.op⟩,rfl,rfl⟩⟩
 ·have EL:∀(st:St) (d:Nat),aO (aA prog) 264 [aw x] st (some d)=_:=fun st d=>gA (st:=st) (d:=d) (bZ m) J
  have k263':∀(st:St) (a g:Nat) (d:Option Nat),st.heap a g=some (.row 3 1 M.length (aH M))->eH (aA prog) 263 [ov aH v.Q,.own a g] st d=some { dst:=d,val:=.cY [ov aH (some L),aa n],dE:=some (a,g,none)}:=by
   intro st a g d u;rw[Hi (s:=a) (k:=g) (by rw[flatMap_cons,sJ (bR v.Q)];rfl) (by intro y Y;simp only[mem_cons,not_mem_nil,or_false] at Y;rcases Y with rfl|rfl;exact .inl (bR _);exact .inr (.inl ⟨a,g,rfl⟩)),
    map_cons,map_cons,map_nil,Hj,Mo u,aM,aM,dB,<- l]
   exact YU hr3 fr
  by_cases g2:n=0
  ·simp only[Z8,seval,DQ h.sd,aFE,bt g1,h.sd.dM,EL,k263',bW,bt g2];exact⟨_,qh,eU,9,rfl,R,ZB,fun h=>wu⟩
  ·simp only[Z8,seval,DQ h.sd,aFE,bt g1,h.sd.dM,EL,k263',bW,bf g2];exact⟨_,yg,_,0,rfl,D,ZB,fun _=>⟨_,G,⟨⟨r.now,r.j,r.f,r.nd,r.or,r.rt,r.fe,r.ds,r.tb,⟨fun e=>S g2 (by injection e),r.ne.e,r.ne.t,r.ne.ea,r.ne.tb⟩,hVS (S g2)⟩,r.op⟩,rfl,rfl⟩⟩
def EM {n:Int} (h:vM l n=0):∀x∈l,0<=x/\x<n:=by
 intro x N;unfold vM at h;have S:l≠[]:=fun e=>by subst e;cases N
 rw[if_neg S] at h;by_cases g:qP (Cp l n) l.length<0
 ·rcases lA (Cp l n) l.length with ⟨_,Y⟩|⟨k,h1,_,_,h3⟩
  ·obtain⟨j,W,rfl⟩:=getElem_of_mem N
   have hb:=Y j W
   have e:gx (0:Int) l j=l[j]:=by simp[gx,W]
   grind [Cp]
  ·omega
 omega
theorem Kg (h:(vZ s v a V).2=0):vM V (ol v.B).length=0:=by
 grind [vZ]
def GI.cast (h:GI s v q) (a:qX) (V:List Int):GI (Ec s v a V) { v with L:=some (pZ (ol v.L) a.target.aG a.root V).1 } q:=by
 have W:(pZ (ol v.L) a.target.aG a.root V).1.length=(ol v.L).length:=Wf _ _ _ _
 exact⟨⟨h.sd.fL,rfl,h.sd.dM,h.sd.early,h.sd.bL,h.sd.tree,h.sd.tables,h.sd.eV,h.sd.tB,h.sd.nB,by show ((pZ (ol v.L) a.target.aG a.root V).1.length:Int)<1000000;rw[W];exact h.sd.nL,h.sd.nQ,h.sd.nE,h.sd.nO,h.sd.nT,h.sd.nn⟩,h.up,h.Nv,h.pos,h.nl,h.RE,h.iH,W.trans h.Wg,h.nB,h.nO,h.AH,h.nE,h.KU,h.nT,h.KV,h.nQ,h.N8,h.dX⟩
def nI (s:aF) (x:AV):aF:={ s with bH:={ s.bH with early:=x }}
def R5 (h:¬ ∀c∈cs,Flat c):lG (some (.row e sz n cs))=none:=by
 grind [lG]
def aOC (h:a.dL=.own x g) (l:List qX):¬ ∀c∈cN (l++[a]),Flat c:=by
 intro W;have hm:AV.own x g∈cN (l++[a]):=by
  grind [cN,iE]
 have:=W _ hm
 cases this
def lW {α:Type} {a b:List (Option α)} {x y:List α} (ha:bM a=some x) (hb:bM b=some y):bM (a++b)=some (x++y):=by
 induction a generalizing x with
 | nil=>grind [dB]
 | cons c a ih =>
   cases c<;>grind [bM,Option.map_eq_some_iff]
theorem xC {f:AV->Option AV} (h:∀c∈cs,f c=some c):bM (cs.map f)=some cs:=by
 induction cs with
 | nil=>rfl
 | cons c cs ih=>grind [aM]
def EO {c:AV} (h:Flat c):cO st c=some c:=by unfold cO;rw[if_pos h]
def aFF {c:AV} (h:Flat c):Et st c=some c:=by
 unfold Et;cases h<;>exact EO (by constructor;try assumption)
def aCO (h:SD s v) (st:St) {E:List qX} (M:∀x∈E,Flat x.dL) {a:qX} {V:List Int} {x g x' g' n:Nat}
 (hh:st.heap x g=some (.row 68 67 n (cN (E++[{ a with dL:=.own x' g' }])))) (p:st.heap x' g'=some (.row 3 1 V.length (aH V))) :
 Rr st (bc (nI s (.own x g)))=some (bc (nI s (.sl n (cN (E++[{ a with dL:=ov aH (some V)}]))))):=by
 obtain⟨J,h2,S,h4,h5,r,u⟩:=h.fl
 have fl:∀ {cs:List AV},(∀c∈cs,Flat c)->bM (cs.map (Et st))=some cs:=fun G=>xC fun c m=>aFF (G c m)
 have A:∀ {cs:List AV},(∀c∈cs,Flat c)->bM (cs.map (cO st))=some cs:=fun G=>xC fun c m=>EO (G c m)
 have C:cO st (.own x' g')=some (ov aH (some V)):=by rw[eG,p];exact zG _ _
 have hatt:bM ((cN (E++[{ a with dL:=.own x' g' }])).map (cO st))=some (cN (E++[{ a with dL:=ov aH (some V)}])):=by
  unfold cN;rw[flatMap_append,flatMap_append,map_append];refine lW (A (uL E M)) ?_
  simp only[flatMap_cons,flatMap_nil,append_nil];unfold iE;rw[map_append,map_append,map_append];refine lW (A (eA _)) (lW (A (dR _)) (lW (A (cM _)) ?_))
  rw[map_cons,map_nil,C];rfl
 have D:Et st (.own x g)=some (.sl n (cN (E++[{ a with dL:=ov aH (some V)}]))):=by
  grind [Et]
 unfold Rr;simp only
 have:bM ((aB (nI s (.own x g))).map (Et st))=some (aB (nI s (.sl n (cN (E++[{ a with dL:=ov aH (some V)}]))))):=by
  unfold nI aB kY;simp only[map_append];refine lW (fl (vS _ J)) (lW (fl (rQ _ h2 S)) (lW (fl (kL _)) (lW (lW ?_ (fl (by simpa using h5))) (lW (fl (yD _ r)) (lW (fl (eA _)) (lW (fl (dR _)) (fl dq)))))))
  rw[map_cons,map_nil,D];rfl
 rw[this];rfl
def aFG (h:SD s v) (st:St) {E:List qX} {a:qX} {x g x' g' n:Nat} (Y:a.dL=.own x' g')
 (hh:st.heap x g=some (.row 68 67 n (cN (E++[a])))):eE st (bc (nI s (.own x g)))=none:=by
 have nY:=h.fl
 have hn:=R5 (e:=68) (sz:=67) (n:=n) (aOC Y E)
 simp_all [nI,dC,fV,eG,bY,cC,Sw]
theorem GI.early (h:GI s v q) (E:Option (List qX)) (hE:∀a∈ol E,Dh a) (M:((ol E).length:Int)<=s.cFg.lim.mK):GI (nI s (ov cN E)) { v with E:=E } q :=
 ⟨⟨h.sd.fL,h.sd.cJ,h.sd.dM,rfl,h.sd.bL,h.sd.tree,h.sd.tables,hE,h.sd.tB,h.sd.nB,h.sd.nL,h.sd.nQ,by have:=h.KU;grind,h.sd.nO,h.sd.nT,h.sd.nn⟩,h.up,h.Nv,h.pos,h.nl,h.RE,h.iH,h.Wg,h.nB,h.nO,h.AH,M,h.KU,h.nT,h.KV,h.nQ,h.N8,h.dX⟩
def aFH (s:aF) (v:SV) (a:qX) (V:List Int):(vZ s v a V).2≠21:=by
 grind [vZ,DV]
def a1H (h:GI s v q) (r:RG s v) (a:qX) (V:Option (List Int)) (hV:a.dL=ov aH V) (nV:((ol V).length:Int)<99999) :
 ∃r,aA prog 180 [bc s,au a]=some r/\StN s v q r:=by
 have hf:=h.sd.flat
 have nY:=h.sd.fl
 have R:=sI
 have u:Flat (au a):=(rS a).2 zr
 have J:=kx (aTv h.sd h.up h.sp a V hV WF) (aU hf u) (.cY _ (aU (.v _) (.v _)))
 rw[cL func180 rfl aUt rfl];by_cases g1:(vZ s v a (ol V)).2=0
 case neg =>
  simp only[Z8,seval,J,bW,bf g1];exact⟨_,qh,eU,_,rfl,R,aFH _ _ _ _,fun h=>absurd h g1⟩
 cases g2:(vZ s v a (ol V)).1
 ·have X:∀x∈ol V,0<=x/\x<(ol v.L).length:=by rw[h.Wg];exact EM (Kg g1)
  have G:=h.cast a (ol V)
  have D:=G.sd.flat
  have S:=kx (a09 h.sd a V hV WF X) (aU hf u) D
  simp only[Z8,seval,J,bW,bt g1,g2,S];exact⟨_,yg,_,0,rfl,D,ZB,fun _=>⟨_,G,⟨⟨r.now,r.j,r.f,r.nd,r.or,r.rt,r.fe,r.ds,r.tb,⟨r.ne.q,r.ne.e,r.ne.t,r.ne.ea,r.ne.tb⟩,r.vs.cast a (ol V)⟩,r.op⟩,rfl,rfl⟩⟩
 ·by_cases g3:s.cFg.lim.mK<=((ol v.E).length:Int)
  ·simp only[Z8,seval,J,bW,bt g1,g2,h.sd.early,g3];exact⟨_,qh,eU,11,rfl,R,ZB,fun h=>wu⟩
  ·have M:∀b∈ol (some (ol v.E++[{ a with dL:=ov aH (some (ol V))}])),Dh b:=by
    intro b hb;rcases mem_append.1 (show b∈ol v.E++[{ a with dL:=ov aH (some (ol V))}] from hb) with hb|hb
    ·exact h.sd.eV b hb
    ·rw[mem_singleton] at hb;subst hb;exact⟨some (ol V),rfl,yw⟩
   have aFI:ol V≠[]:=fun e=>by have h0:=Kg g1;rw[e] at h0;simp[vM] at h0
   have N:∀b∈ol (some (ol v.E++[{ a with dL:=ov aH (some (ol V))}])),∃W,b.dL=ov aH (some W)/\W≠[]:=by
    intro b hb;rcases mem_append.1 (show b∈ol v.E++[{ a with dL:=ov aH (some (ol V))}] from hb) with hb|hb
    ·exact r.ne.ea b hb
    grind
   have A:∀b∈ol (some (ol v.E++[{ a with dL:=ov aH (some (ol V))}])),∃W,b.dL=ov aH (some W)/\vM W (ol v.B).length=0:=by
    intro b hb;rcases mem_append.1 (show b∈ol v.E++[{ a with dL:=ov aH (some (ol V))}] from hb) with hb|hb
    ·exact r.vs.ea b hb
    grind [Kg]
   have Y:=r.vs.early (some (ol v.E++[{ a with dL:=ov aH (some (ol V))}])) (ov cN (some (ol v.E++[{ a with dL:=ov aH (some (ol V))}]))) A
   have G:=h.early (some (ol v.E++[{ a with dL:=ov aH (some (ol V))}])) M yw
   have D:=G.sd.flat
   have nE:=h.sd.nE
   have C:∀x∈ol v.E,Flat x.dL:=fun x m=>(h.sd.eV x m).fl
   simp only[Z8,seval,J,bW,bt g1,g2,h.sd.early,g3,hV,Ss _ (show ((ol V).length:Int)<1000000 from WF),aBk _ nE,Mq _ _ _ _ nE]
   have hlen:(ol v.E++[{ a with dL:=.own 35 0 }]).length=(ol v.E++[{ a with dL:=ov aH (some (ol V))}]).length:=qg
   exact⟨_,aUu rfl zk qn
    (aFG h.sd _ rfl Wl) (aCO (x':=35) (g':=0) h.sd _ C (by simp only[E8,seval,hlen]<;>rfl) Wl) qk,_,0,rfl,D,ZB,fun _=>⟨_,G,⟨⟨r.now,r.j,r.f,r.nd,r.or,r.rt,r.fe,r.ds,r.tb,⟨r.ne.q,qe,r.ne.t,N,r.ne.tb⟩,Y⟩,r.op⟩,rfl,rfl⟩⟩
def x56 (ns:List Node) (hu:eK ns) (X:(nd ns 0).up=-1) (M:bg ns.length) (w:List Int) (hw:w.length=ns.length) (b:List Bool) (hb:b.length=ns.length) (i:Int) :
 ∃r,aA prog 56 [ak ⟨ns⟩,.sl w.length (bD w),.sl b.length (iJ b),aa i]=some r/\∃k:Int,r=aa k/\(k=-1\/(i<k/\0<=k/\k<ns.length)):=by
 rw[cL func56 rfl a1I rfl];by_cases G:zF ns i=[]
 ·have W:=fun st d=>aM8 ns hu X M i G st d
  simp only[Z8,seval,W];refine bP (fun m st=>st.env 9=aa (-1)/\st.env 10=af/\st.env 11=aa 0/\m=0) (fun e st=>e=.exit 0/\st.env 9=aa (-1)) 0 ?step ?start ?rest
  case step =>
   rintro m st ⟨R,h10,h11,_⟩
   apply oT (.exit 0)
   ·simp only[Z8,seval,R,h10,h11,Int.lt_irrefl];rfl
   ·exact⟨rfl,nw⟩
  case start=>exact⟨Wl,Wl,Wl,rfl⟩
  case rest =>
   rintro e st ⟨rfl,R⟩
   simp only[Z8,seval,R];exact⟨_,bE rfl xz XG,-1,rfl,.inl rfl⟩
 have W:=fun st d=>aUk ns hu X M i G st d
 have hgt:∀x∈zF ns i,i<x/\0<=x/\x<ns.length:=fun x N=>RM hu X N
 have Ry:bg (zF ns i).length:=by
  grind [zF,CA]
 obtain⟨l,el⟩:∃l,zF ns i=l:=⟨_,rfl⟩
 rw[el] at W hgt Ry;simp only[Z8,seval,W];refine bP (fun m st=>∃(k:Nat) (C:Int),(st.env 4=.ptr 4 0 0/\st.heap 4 0=some (.cells (bN ⟨ns⟩))/\st.env 1=.sl w.length (bD w)/\st.env 2=.sl b.length (iJ b)/\st.env 10=.own 15 0/\st.heap 15 0=some (.row 3 1 l.length (aH l))/\st.env 9=aa C/\st.env 11=aa k)/\(C=-1\/(i<C/\0<=C/\C<ns.length))/\k<=l.length/\m=l.length-k)
  (fun e st=>e=.exit 0/\∃C:Int,st.env 9=aa C/\(C=-1\/(i<C/\0<=C/\C<ns.length))) l.length ?step ?start ?rest
 case step =>
  rintro m st ⟨k,C,D,Iv,hk,hm⟩
  by_cases A:(k:Int)<l.length
  case neg =>
   apply oT (.exit 0)
   ·simp only[Z8,seval,D,A];rfl
   ·exact⟨rfl,C,XC,Iv⟩
  have q0:(0:Int)<=k:=WF
  have S:i64.wrap ((k:Int)+1)=((k+1:Nat):Int):=cr
  have gi:=qH q0 A
  obtain⟨c,Y⟩:∃c,it l (k:Int)=c:=⟨_,rfl⟩
  have G:=hgt c (by rw[<- Y];obtain⟨h1,h2⟩:=zD q0 A;grind)
  obtain⟨p,c1,c2⟩:=G
  have c3:c<(w.length:Int):=by rw[hw];exact c2
  have J:c<(b.length:Int):=by rw[hb];exact c2
  cases g1:gx false b c
  ·apply oN (l.length-(k+1))
   ·simp only[Z8,seval,D,A,q0,gi,Y,c1,c3,J,g1,S,mF,mG];rfl
   ·exact⟨k+1,C,XC,Iv,WF,rfl⟩
  by_cases g2:C<0
  ·apply oN (l.length-(k+1))
   ·simp only[Z8,seval,D,A,q0,gi,Y,c1,c3,J,g1,g2,S,mF,mG];rfl
   ·exact⟨k+1,c,XC,.inr ⟨p,c1,c2⟩,WF,rfl⟩
  have b1:0<=C:=WF
  have b2:C<ns.length:=WF
  have u:C<(w.length:Int):=by rw[hw];exact b2
  by_cases g3:gx (0:Int) w C<gx (0:Int) w c
  ·apply oN (l.length-(k+1))
   ·simp only[Z8,seval,D,A,q0,gi,Y,c1,c3,J,g1,g2,b1,u,g3,S,mF,mG];rfl
   ·exact⟨k+1,c,XC,.inr ⟨p,c1,c2⟩,WF,rfl⟩
  by_cases g4:gx (0:Int) w c=gx (0:Int) w C
  case neg =>
   apply oN (l.length-(k+1))
   ·simp only[Z8,seval,D,A,q0,gi,Y,c1,c3,J,g1,g2,b1,u,g3,bf g4,S,mF,mG];rfl
   ·exact⟨k+1,C,XC,Iv,WF,rfl⟩
  by_cases g5:0<Jx (nd ns c).block.root (nd ns C).block.root
  ·apply oN (l.length-(k+1))
   ·simp only[Z8,seval,D,A,q0,gi,Y,c1,c2,c3,J,g1,g2,b1,b2,u,g3,bt g4,k82,g5,S,mF,mG];rfl
   ·exact⟨k+1,c,XC,.inr ⟨p,c1,c2⟩,WF,rfl⟩
  ·apply oN (l.length-(k+1))
   ·simp only[Z8,seval,D,A,q0,gi,Y,c1,c2,c3,J,g1,g2,b1,b2,u,g3,bt g4,k82,g5,S,mF,mG];rfl
   ·exact⟨k+1,C,XC,Iv,WF,rfl⟩
 case start=>exact⟨0,-1,Wl,.inl rfl,WF,WF⟩
 case rest =>
  rintro e st ⟨rfl,C,R,Iv⟩
  simp only[Z8,seval,R];exact⟨_,bE rfl xz XG,C,rfl,Iv⟩
def x25 (h:GI s v q):∃r,aA prog 25 [bc s]=some r/\∃k:Int,r=aa k/\0<=k/\k<v.ns.length:=by
 have W:=h.sd.flat
 have M:=h.sd.nn
 obtain⟨r1,e1,w,rfl,hw⟩:=x54 h
 obtain⟨r2,e2,b,rfl,hb⟩:=x55 h
 have G:∀(st:St) (d:Nat),aO (aA prog) 54 [bc s] st (some d)=_:=fun st d=>gA (st:=st) (d:=d) (bZ W) e1
 have N:∀(st:St) (d:Nat),aO (aA prog) 55 [bc s] st (some d)=_:=fun st d=>gA (st:=st) (d:=d) (bZ W) e2
 have hB:∀i:Int,∃k:Int,aA prog 56 [ak ⟨v.ns⟩,.sl w.length (bD w),.sl b.length (iJ b),aa i]=some (aa k)/\(k=-1\/(i<k/\0<=k/\k<v.ns.length)):=fun i=>by
  obtain⟨r,hr,k,rfl,R⟩:=x56 v.ns h.up h.Nv M w hw b hb i
  grind
 have Y:∀(i:Int) (k:Int),aA prog 56 [ak ⟨v.ns⟩,.sl w.length (bD w),.sl b.length (iJ b),aa i]=some (aa k)->∀(st:St) (g1 g2:Nat) (d:Option Nat),st.heap 8 g1=some (.row 23 1 w.length (bD w))->st.heap 10 g2=some (.row 4 1 b.length (iJ b)) ->
  aO (aA prog) 56 [ak ⟨v.ns⟩,.own 8 g1,.own 10 g2,aa i] st d=some { dst:=d,val:=aa k}:=by
  intro i k R st g1 g2 d C p;rw[dZ,map_cons,map_cons,map_cons,map_cons,map_nil,vB,oB,C,zA,oB,p,RN,xA,aM,aM,aM,aM,dB];exact zP R
 rw[cL func25 rfl a1J rfl];simp only[Z8,seval,G,N,h.sd.tree,qL _ _ M];refine bP (fun m st=>∃i:Int,(st.env 1=.ptr 1 0 0/\st.heap 1 0=some (.cells (aB s))/\st.env 3=.own 8 0/\st.heap 8 0=some (.row 23 1 w.length (bD w))/\st.env 4=.own 10 0/\st.heap 10 0=some (.row 4 1 b.length (iJ b))/\st.env 5=aa i)/\0<=i/\i<v.ns.length/\m=v.ns.length-i.toNat)
  (fun e st=>e=.ret/\∃i:Int,st.env 2=aa i/\0<=i/\i<v.ns.length) (v.ns.length-(aD v.ns s.aL.dX.root).toNat) ?step ?start ?rest
 case step =>
  rintro m st ⟨i,D,i0,i1,hm⟩
  obtain⟨k,R,hkk⟩:=hB i
  have J:=Y i k R
  by_cases A:k<0
  ·apply oT (.ret)
   ·simp only[Z8,seval,D,h.sd.tree,J,A];rfl
   ·exact⟨rfl,i,qb,i0,i1⟩
  ·apply oN (v.ns.length-k.toNat)
   ·simp only[Z8,seval,D,h.sd.tree,J,A];rfl
   ·exact⟨k,XC,WF,WF,rfl⟩
 case start=>exact⟨_,Wl,h.dX,(cB _ _).2,rfl⟩
 case rest =>
  rintro e st ⟨rfl,i,h2,i0,i1⟩
  simp only[Z8,seval];exact⟨_,bE rfl Qbn XG,i,rfl,i0,i1⟩
theorem Wk (r:Command):Flat (.agg (cX r))=True:=eq_true (.agg _ (gG r))
def a1K (h:GI s v q):∃r,aA prog 172 [bc s]=some r/\∃c:Command,r=.agg (cX c):=by
 have W:=h.sd.flat
 obtain⟨r1,A,k,rfl,G,k1⟩:=x25 h
 have D:=kx A (bZ W) (.v _)
 obtain⟨r2,M,r,rfl⟩:=a1m h.sd
 have C:=kx M (bZ W) (oE r)
 rw[cL func172 rfl aUv rfl];simp only[Z8,seval,D,C,h.sd.tree,G,k1];exact⟨_,iI rfl (by simp only[E8,seval,Wk]<;>rfl) (by simp only[Z8,seval,Wk]<;>rfl) (by grind [Wk]),_,rfl⟩
def aUw (t:State) (W:Flat (bd t)) (h:GI t.store v q):∃r,aA prog 107 [bd t]=some r/\∃(b:Bool) (c:Command) (y:AV),r=.cY [bd ({ t with zH:=b,last:=c }),y]/\Flat y:=by
 have KF:=h.sd.flat
 have p:=(qM t).1 W
 obtain⟨r1,A,c,rfl⟩:=a1K h
 have G:=kx A (bZ KF) (.agg _ (gG c))
 have C:∀x∈cX c,Flat x:=gG c
 have ex:lG (some (.row 55 96 1 (cX c)))=some (.sl 1 (cX c)):=by
  grind [lG]
 rw[cG func107 rfl aUx WP rfl]
 have D:Flat (bd ({ t with zH:=true,last:=c })):=(qM _).2 p
 cases g1:t.zH
 ·simp only[ZG,seval,aFK,G,g1];exact⟨_,Qbg,true,c,_,rfl,.sl _ _ C⟩
 ·by_cases g2:t.last=c
  ·simp only[ZG,seval,aFK,G,g1,g2];exact⟨_,Qbw,t.zH,t.last,_,rfl,.v _⟩
  ·simp only[ZG,seval,aFK,G,g1,g2];exact⟨_,Qbg,true,c,_,rfl,.sl _ _ C⟩
theorem wrap_u64 (x:Int) (h1:0<=x) (h2:x<18446744073709551616):u64.wrap x=x:=by
 grind [IntKind.wrap,IntKind.signed,IntKind.bits]
def a1L (o:Option (List Int)) (hn:((ol o).length:Int)<=1000) (hb:∀x∈ol o,0<=x/\x<=1000):∃a:Int,aA prog 81 [ov bD o]=some (.cY [ac a,aa 0])/\0<=a/\a<=1000000:=by
 suffices h:∃r,aA prog 81 [ov bD o]=some r/\∃a:Int,r=.cY [ac a,aa 0]/\0<=a/\a<=1000000 by
  grind
 have add:∀(a:Int) (k:Nat),0<=a/\a<=1000 * k->k<(ol o).length->KS a (gx (0:Int) (ol o) (k:Int))=(a+gx (0:Int) (ol o) (k:Int),0)/\0<=a+gx (0:Int) (ol o) (k:Int)/\a+gx (0:Int) (ol o) (k:Int)<=1000 * ((k+1:Nat):Int):=by
  grind [gx,wrap_u64,KS]
 rw[cL func81 rfl aTr wa]
 simp only[Z8,seval];refine bP (fun m st=>∃(k:Nat) (a:Int),(st.env 0=ov bD o/\st.env 4=ac a/\st.env 5=aa k)/\(0<=a/\a<=1000 * k)/\k<=(ol o).length/\m=(ol o).length-k)
  (fun e st=>e=.exit 0/\∃a:Int,st.env 4=ac a/\0<=a/\a<=1000000) (ol o).length ?step ?start ?rest
 case step =>
  rintro m st ⟨k,a,D,Y,hk,hm⟩
  by_cases A:(k:Int)<(ol o).length
  ·obtain ⟨q0,hw⟩ := yY k
   obtain⟨J,h2⟩:=add a k Y WF
   apply oN ((ol o).length-(k+1))
   ·simp only[Z8,seval,D,A,q0,aOi,bW,J,hw];rfl
   ·exact⟨k+1,_,qc,h2,WF,rfl⟩
  ·apply oT (.exit 0)
   ·simp only[Z8,seval,D,A];rfl
   ·exact⟨rfl,a,XC,WF⟩
 case start=>exact⟨0,0,yj,WF,WF,WF⟩
 case rest =>
  rintro e st ⟨rfl,a,h,Y⟩
  simp only[Z8,seval,h];exact⟨_,bT rfl rfl rfl qm qm,_,rfl,Y⟩
def a1M (t:Table) (b:Option (List Int)) (D:t.fL=ov bD b) (M:((ol b).length:Int)<=1000) (hb:∀x∈ol b,0<=x/\x<=1000):aA prog 37 [ax t,aa ((ol b).length)]=some (aa 0):=by
 obtain⟨a,X,a0,a1⟩:=a1L b M hb
 have N:=kx X (bZ (cP b)) (.cY _ (aU (.v _) (.v _)))
 rw[cL func37 rfl aTt rfl];refine eM ?_
 have S:(4611686018427387904<a)=False:=eq_false WF
 simp only[Z8,seval,D,bt (rfl:((ol b).length:Int)=(ol b).length),N,bW,S];exact⟨_,bE rfl Wl XG,rfl⟩
def aBl:mkRoot 1≠bQ:=ZB
structure sZ (c:Config) (b:List Int):Prop where
 fL:c.fL=ov bD (some b)
 nb:1<=b.length/\b.length<=64
 bv:∀x∈b,0<=x/\x<=1000
 iH:1<=c.iH/\c.iH<=64
 bp:0<=c.pO/\c.pO<=100
 tO:1<=c.lim.tO/\c.lim.tO<=4096
 vA:0<=c.lim.vA/\c.lim.vA<=64
 mK:0<=c.lim.mK/\c.lim.mK<=256
 rV:1<=c.lim.rV/\c.lim.rV<=64
 oV:0<=c.lim.oV/\c.lim.oV<=256
 back:1<=c.lim.qI/\c.lim.qI<=1048576
 gen:c.fR=mkRoot 1
 n6:6<=c.lim.tO
def aFL (n:Nat):((List.range n).flatMap fun _=>oJ nP)=dF (List.replicate n nP):=by
 induction n<;>grind [range_succ,replicate_succ',dF.eq_1]
def YW (t:Table):bG [t]=cH t:=by simp[bG]
def YX (c:Config):Block:={ gQ with root:=c.fR,dX:=⟨0,c.fR⟩,fin:=⟨0,c.fR⟩,dA:=⟨⟨0,c.fR⟩,⟨0,c.fR⟩⟩}
def Cq (c:Config) (b:List Int):aF:=⟨c,⟨ov dF (some (List.replicate b.length nP)),af⟩,⟨⟨0,c.fR⟩,⟨0,c.fR⟩⟩,Ag,⟨.sl 1 (bS [⟨YX c,-1,1⟩])⟩,0,bQ,ov bG (some [⟨⟨0,c.fR⟩,ov bD (some b)⟩])⟩
def zI (c:Config) (b:List Int):SV:={ B:=some b,L:=some (List.replicate b.length nP),Q:=none,E:=none,O:=none,ns:=[⟨YX c,-1,1⟩],T:=some [⟨⟨0,c.fR⟩,ov bD (some b)⟩]}
theorem GI.new (h:sZ c b):GI (Cq c b) (zI c b) 0:=by
 have hb:=h.nb
 refine⟨⟨h.fL,rfl,rfl,rfl,rfl,rfl,rfl, ?_, ?_, ?_, ?_, ?_, ?_, ?_, ?_, ?_⟩, ?_, ?_, ?_, ?_,h.tO.2,h.iH, ?_, ?_, ?_,h.vA.2, ?_,h.mK.2, ?_,h.rV.2, ?_,WF, ?_⟩
 ·intro a Y;cases Y
 ·intro t D;rw[show t=⟨⟨0,c.fR⟩,ov bD (some b)⟩ by simpa [zI,ol] using D]
  exact⟨some b,rfl,by show (b.length:Int)<_;omega⟩
 ·show (b.length:Int)<_;omega
 ·show ((List.replicate b.length nP).length:Int)<_;grind
 ·show ((0:Nat):Int)<_;omega
 ·show ((0:Nat):Int)<_;omega
 ·show ((0:Nat):Int)<_;omega
 ·show ((1:Nat):Int)<_;omega
 ·show ((1:Nat):Int)<_;omega
 ·intro i h0 J;have:i<((1:Nat):Int):=J;omega
 ·rfl
 ·show 0<1;omega
 ·show ((1:Nat):Int)<=c.lim.tO;have:=h.tO.1;omega
 ·show (List.replicate b.length nP).length=b.length;rw[length_replicate]
 ·show (b.length:Int)<=1024;omega
 ·show ((0:Nat):Int)<=c.lim.vA;have:=h.vA.1;omega
 ·show ((0:Nat):Int)<=c.lim.mK;have:=h.mK.1;omega
 ·show ((1:Nat):Int)<=c.lim.rV;have:=h.rV.1;omega
 ·show ((0:Nat):Int)<=0;omega
 ·exact Kb (j:=0) WF QaY rfl
def c35 (h:sZ c b):aA prog 35 [aq c]=some (.cY [bc (Cq c b),aa 0]):=by
 obtain⟨N,hnb,m,W,hbp,J,h2,S,X,C,h6,A,_⟩:=h
 have hg:c.fR≠bQ:=by rw[A];exact aBl
 have f1:=W.1;have f2:¬64<c.iH:=WF
 have r:¬c.iH<1:=WF
 have f3:¬100<c.pO:=WF
 have f4:¬(1024:Int)<(b.length:Int):=WF
 have f6:¬c.lim.qI<1:=WF
 have f7:¬1048576<c.lim.qI:=WF
 have G:bg (ol (some b)).length:=by show (b.length:Int)<_;omega
 have l:(0:Int)<=(b.length:Int):=WF
 have p:(b.length:Int) * 48<=140737488355328:=WF
 have R:(b.length:Int)<=(maxLen:Int):=zy
 have zE:dO.aG=0:=rfl
 have kt:∀(st:St) (d:Option Nat),aO (aA prog) 37 [ax ⟨⟨0,c.fR⟩,ov bD (some b)⟩,aa b.length] st d=some { dst:=d,val:=aa 0}:=kx (a1M ⟨⟨0,c.fR⟩,ov bD (some b)⟩ (some b) rfl Qbp m) (aU ((iQ ⟨⟨0,c.fR⟩,ov bD (some b)⟩).2 (cP (some b))) (.v _)) (.v _)
 have u:=kx (c80 ⟨⟨0,c.fR⟩,ov bD (some b)⟩ (some b) rfl G) (bZ ((iQ ⟨⟨0,c.fR⟩,ov bD (some b)⟩).2 (cP (some b)))) ((iQ ⟨⟨0,c.fR⟩,ov bD (some b)⟩).2 (cP (some b)))
 rw[cL func35 rfl a1N rfl];refine eM ?_
 simp only[Z8,seval,mF,mG,N,r,f2,f3,f4,f6,f7,k78,J.1,J.2,h2.1,h2.2,S.1,S.2,X.1,X.2,C.1,C.2,hg,zE,kt,l,p,R,Int.toNat_natCast,aFL,u,k79,Hb b (show (b.length:Int)<1000000 from WF)]
 have Y:=EC 1 [⟨⟨0,c.fR⟩,ov bD (some b)⟩] (by grind [cP])
 rw[YW] at Y;have M:∀x,x=c.fL->({ lim:=c.lim,iH:=c.iH,pO:=c.pO,Ps:=c.Ps,fR:=c.fR,fL:=x }:Config)=c:=by rintro _ rfl;rfl
 have D:eU.dI.dM=af/\eU.bH.early=af/\eU.bH.bL=af:=⟨rfl,rfl,rfl⟩
 exact⟨_,by apply bT;rfl;all_goals simp only[aI,bC,Z8,seval,dC,fV,eG,zA,BX,Y,bY,sB,D]<;>rfl,by unfold Cq;simp only[ov,length_replicate,YW,M (.sl b.length (bD b)) N.symm]<;>rfl⟩
end Go.Ab.Tryz
section
namespace Go.Ab
open Classical
variable {f:Nat} {fn:Func} {c:Code}
def wF [Ext] (P:Program) (W:P.funcs[f]? = some fn) (hb:fn.body=some c) (R:aZ fn=true) (e sz m:Nat) (cs xs:List AV) (N:Ext.ext f (.uniq e sz m cs :: xs)=none) :
 aA P f (.uniq e sz m cs :: xs)=cT (wP P c (St.uS e sz m cs xs)) (ey P fn):=by
 simp only[aZ,hb,Bool.and_eq_true,Bool.not_eq_true'] at R;rw[YY P W hb R.1 e sz m cs xs N,R.2];rfl
def RO [Ext] (P:Program) (W:P.funcs[f]? = some fn) (hb:fn.body=some c) (R:rP fn=true) (G:nG c=true) (e sz m:Nat) (cs xs:List AV) (N:Ext.ext f (.uniq e sz m cs :: xs)=none) :
 aA P f (.uniq e sz m cs :: xs)=cT (vN P true c (St.uS e sz m cs xs)) (ey P fn):=by
 rw[YY P W hb R e sz m cs xs N,G]
def pP [Ext] {P:Program} {st:St} {e:Ex} {t s g ee sz n:Nat} {cs:List AV} (he:e=.ret\/e=.normal) (X:fn.results.toList=[.tmp t]) (J:st.env t=.own s g) (h2:st.heap s g=some (.row ee sz n cs)) (hm:∀c∈cs,cZ c) :
 ey P fn (e,st)=some (.uniq ee sz n cs):=YZ he X (by unfold jP;simp only[J]) h2 hm
end Go.Ab
namespace Go.Ab.Tryz
open Classical Go.Proofs Go.Ab
variable {F:Nat} {rest:List AV} {K:Int}
def pQ (l:List Int):∀c∈gH l,cZ c:=by
 grind [gH,fg.eq_1,cZ.v]
def Wr (F:Nat) (rest:List AV) (K:Int):Prop:=∀l:List Int,(l.length:Int)+K<900000->∃m:List Int,aA prog F (.uniq 5 1 l.length (gH l) :: rest)=some (.uniq 5 1 m.length (gH m))/\(m.length:Int)<=l.length+K
def da (F:Nat) (rest:List AV) (K:Int):Prop:=∃m:List Int,aA prog F (af :: rest)=some (.uniq 5 1 m.length (gH m))/\(m.length:Int)<=K
def Wr.at (h:Wr F rest K) (l:List Int) (hr:∀x∈rest,Flat x:=by first|exact bZ (.v _)|exact bZ (oE _)|exact bZ (.agg _ (cM _))|exact bZ (.agg _ (gM _))) (W:(l.length:Int)+K<900000:=by omega) :
 ∃m:List Int,(∀s k d c,B3 (aA prog) F rest s k d c (some (.row 5 1 l.length (gH l)))=some { dst:=some d,val:=.own d c,dE:=some (s,k,none),new:=some (d,[.row 5 1 m.length (gH m)])})/\(m.length:Int)<=l.length+K:=by
 obtain⟨m,h1,h2⟩:=h l W
 grind [Sx,pR]
def da.at (h:da F rest K) (hr:∀x∈rest,Flat x:=by first|exact bZ (.v _)|exact bZ (oE _)|exact bZ (.agg _ (cM _))|exact bZ (.agg _ (gM _))) :
 ∃m:List Int,(∀(st:St) (d:Nat),kU (aA prog) F (af :: rest) st (some d)=some { dst:=some d,val:=.own d (st.aJ d),new:=some (d,[.row 5 1 m.length (gH m)])})/\(m.length:Int)<=K:=by
 obtain⟨m,h1,h2⟩:=h
 grind [R7]
def tb:Nat->Int
 | 0=>18446744073709551616
 | k+1=>tb k / 128+1
theorem pz:tb 9=3:=ZB
def Yz (x:Int):x.fdiv (2 ^ min 7 u64.bits)=x / 128:=by
 show x.fdiv 128=x / 128
 grind
def aJU (l:List Int):gH l=l.map fun x=>.v (.int .u8 x):=by
 induction l<;>grind [gH,fg]
theorem EP (r:bU):aW r=gH r.toList:=by rw[aJU];rfl
def Dl {P:Program} {T:Nat} {k:IntKind} {a b:Int}:jS P .or T (.v (.int k a)) (.v (.int k b))=some (.v (.int k (k.wrap (BitVec.ofInt k.bits a ||| BitVec.ofInt k.bits b).toNat))):=vt
def aUz:dD prog 29=none:=WP
def aNc (r:bU) (st:St) (s g o:Nat) (h:st.heap s g=some (.cells (aW r))):dW prog st 29 (.ptr s g o) none none=some (.vw s g o 32):=by
 simp only[dW,aUz,aOe,h]
def RP (st:St) (s g:Nat) (r:bU) (h:st.heap s g=some (.cells (aW r))):bA st (.vw s g 0 32)=some (r.toList.length,gH r.toList):=by
 grind [iN,bA,EP]
def ER (n:Int) (M:Rg n):Wr 250 [ac n] 10:=by
 intro l hl;suffices h:∃r,aA prog 250 [.uniq 5 1 l.length (gH l),ac n]=some r/\∃m:List Int,r=.uniq 5 1 m.length (gH m)/\(m.length:Int)<=l.length+10 by
  grind
 rw[wF prog func250 rfl aNd _ _ _ _ _ (cF _ _)];simp only[Z8,seval,fP,gT,fQ,fY,gU];refine bP (fun m st=>∃(x:Int) (k:Nat) (l':List Int) (a g:Nat),(st.env 0=.own a g/\st.heap a g=some (.row 5 1 l'.length (gH l'))/\st.env 1=ac x)/\((a=0/\g=0)\/(a=13/\g<st.aJ 13))/\l'.length=l.length+k/\0<=x/\x<tb k/\k<=9/\m=x.toNat)
  (fun e st=>e=.exit 0/\∃(x:Int) (l':List Int) (a g:Nat),(st.env 0=.own a g/\st.heap a g=some (.row 5 1 l'.length (gH l'))/\st.env 1=ac x)/\a≠19/\(l'.length:Int)<=l.length+9) n.toNat ?step ?start ?rest
 case step =>
  rintro m st ⟨x,k,l',a,g,D,u,X,x0,hx,hk,hm⟩
  by_cases A:127<x
  ·have hk8:k<=8:=by
    grind [pz]
   have G:bg l'.length:=WF
   have R:x / 128<tb (k+1):=by grind [tb]
   have C:∀b:Int,(l'++[b]).length=l.length+(k+1):=fun b=>by grind
   rcases u with ⟨rfl,rfl⟩|⟨rfl,hg⟩
   ·apply oN ((x / 128).toNat)
    ·simp only[Z8,seval,D,A,Dl,xD _ _ _ _ G,Yz];rfl
    ·exact⟨x / 128,k+1,_,13,_,qz,.inr ⟨rfl,Yo⟩,C _,WF,R,WF,rfl⟩
   ·have N:(g=st.aJ 13)=False:=eq_false WF
    apply oN ((x / 128).toNat)
    ·simp only[Z8,seval,D,A,N,Dl,xD _ _ _ _ G,Yz];rfl
    ·exact⟨x / 128,k+1,_,13,_,qz,.inr ⟨rfl,Yo⟩,C _,WF,R,WF,rfl⟩
  ·apply oT (.exit 0)
   ·simp only[Z8,seval,D,A];rfl
   ·exact⟨rfl,x,l',a,g,XC,WF,WF⟩
 case start=>exact⟨n,0,l,0,0,by simp only[E8,seval,fP,gT,fQ,fY,gU]<;>rfl,.inl ⟨rfl,rfl⟩,rfl,M.1,M.2,WF,rfl⟩
 case rest =>
  rintro e st ⟨rfl,x,l',a,g,D,Y,X⟩
  have J:(a=19)=False:=eq_false Y
  have G:bg l'.length:=WF
  simp only[Z8,seval,D,J,xD _ _ _ _ G];exact⟨_,pP (.inl rfl) rfl Wl Wl (pQ _),_,rfl,qg⟩
def n250 (n:Int) (M:Rg n):da 250 [ac n] 10:=by
 suffices h:∃r,aA prog 250 [af,ac n]=some r/\∃m:List Int,r=.uniq 5 1 m.length (gH m)/\(m.length:Int)<=10 by
  obtain⟨r,h,m,rfl,h2⟩:=h;exact⟨m,h,h2⟩
 rw[cL func250 rfl aNd rfl];simp only[Z8,seval];refine bP (fun m st=>∃(x:Int) (k:Nat),st.env 1=ac x/\((k=0/\st.env 0=af)\/∃(l':List Int) (g:Nat),(st.env 0=.own 13 g/\st.heap 13 g=some (.row 5 1 l'.length (gH l')))/\g<st.aJ 13/\l'.length=k)/\0<=x/\x<tb k/\k<=9/\m=x.toNat)
  (fun e st=>e=.exit 0/\∃(x:Int),st.env 1=ac x/\(st.env 0=af\/∃(l':List Int) (g:Nat),(st.env 0=.own 13 g/\st.heap 13 g=some (.row 5 1 l'.length (gH l')))/\(l'.length:Int)<=9)) n.toNat ?step ?start ?rest
 case step =>
  rintro m st ⟨x,k,D,h0,x0,hx,hk,hm⟩
  by_cases A:127<x
  ·have hk8:k<=8:=by
    grind [pz]
   have R:x / 128<tb (k+1):=by grind [tb]
   rcases h0 with ⟨pX,h0⟩|⟨l',g,h0,hg,X⟩
   ·have C:∀b:Int,([b]:List Int).length=k+1:=fun b=>by grind
    apply oN ((x / 128).toNat)
    ·simp only[Z8,seval,D,h0,A,Dl,ES,Yz];rfl
    ·exact⟨x / 128,k+1,qb,.inr ⟨_,_,⟨Wl,Wl⟩,Yo,C _⟩,WF,R,WF,rfl⟩
   ·have G:bg l'.length:=WF
    have C:∀b:Int,(l'++[b]).length=k+1:=fun b=>by grind
    have N:(g=st.aJ 13)=False:=eq_false WF
    apply oN ((x / 128).toNat)
    ·simp only[Z8,seval,D,h0,A,N,Dl,xD _ _ _ _ G,Yz];rfl
    ·exact⟨x / 128,k+1,qb,.inr ⟨_,_,⟨Wl,Wl⟩,Yo,C _⟩,WF,R,WF,rfl⟩
  ·have J:st.env 0=af\/∃(l':List Int) (g:Nat),(st.env 0=.own 13 g/\st.heap 13 g=some (.row 5 1 l'.length (gH l')))/\(l'.length:Int)<=9:=by
    grind
   apply oT (.exit 0)
   ·simp only[Z8,seval,D,A];rfl
   ·exact⟨rfl,x,XC,by simpa only[E8,seval] using J⟩
 case start=>exact⟨n,0,Wl,.inl ⟨rfl,Wl⟩,M.1,M.2,WF,rfl⟩
 case rest =>
  rintro e st ⟨rfl,x,D,h0⟩
  rcases h0 with h0|⟨l',g,h0,X⟩
  ·simp only[Z8,seval,D,h0,ES];exact⟨_,Ki (n:=([u8.wrap x]:List Int).length) (cs:=gH [u8.wrap x]) (aI ZB) (.inl rfl) rfl Wl Wl (pR _),_,rfl,qg⟩
  ·have G:bg l'.length:=WF
   simp only[Z8,seval,D,h0,xD _ _ _ _ G];exact⟨_,oH rfl Wl Wl (pR _),_,rfl,qg⟩
def RQ (r:bU):Wr 302 [.agg (aW r)] 32:=by
 intro l hl;suffices h:∃x,aA prog 302 [.uniq 5 1 l.length (gH l),.agg (aW r)]=some x/\∃m:List Int,x=.uniq 5 1 m.length (gH m)/\(m.length:Int)<=l.length+32 by
  grind
 have G:bg l.length:=WF
 have hc:aW r=gH r.toList:=EP r
 have X:bg r.toList.length:=qe
 rw[wF prog func302 rfl aUB _ _ _ _ _ (cF _ _)];simp only[Z8,seval,fP,gT,fQ,fY,gU,aNc r,RP _ _ _ r,ET _ _ _ _ G X];exact⟨_,pP (.inl rfl) rfl Wl Wl (pQ _),_,rfl,qg⟩
def jq (c:dH) (h:Rg c.aG):Wr 304 [ag c] 42:=by
 intro l hl;suffices h:∃r,aA prog 304 [.uniq 5 1 l.length (gH l),ag c]=some r/\∃m:List Int,r=.uniq 5 1 m.length (gH m)/\(m.length:Int)<=l.length+42 by
  grind
 obtain⟨m1,A,b1⟩:=(ER c.aG h).at l
 obtain⟨m2,M,b2⟩:=(RQ c.root).at m1
 rw[RO prog func304 rfl aUC WP _ _ _ _ _ (cF _ _)]
 simp only[ZG,seval,aUD,fP,gT,fQ,fY,gU,A,M];exact⟨_,pP (.inl rfl) rfl Wl Wl (pQ _),_,rfl,WF⟩
end Go.Ab.Tryz
end
namespace Go.Ab.Tryz
open Classical Go.Proofs Go.Ab
variable {x:uI} {q:Int}
def x9x (o p:Option (List Int)) (hn:bg (ol o).length):(∃r,aA prog 92 [ov aH o,ov aH p]=some r/\∃b:Bool,r=ae b)/\∃r,aA prog 90 [ov bD o,ov bD p]=some r/\∃b:Bool,r=ae b:=by
 constructor
 case' left =>
  rw[cL func92 rfl a1P (by cases o<;>cases p<;>rfl)]
  obtain⟨X,Y,G⟩:∃X Y,X=ov aH o/\Y=ov aH p:=⟨_,_,rfl,rfl⟩
 case' right =>
  rw[cL func90 rfl a1Q (by cases o<;>cases p<;>rfl)]
  obtain⟨X,Y,G⟩:∃X Y,X=ov bD o/\Y=ov bD p:=⟨_,_,rfl,rfl⟩
 all_goals
  by_cases g:((ol o).length:Int)=((ol p).length:Int)
  case neg =>
   simp only[Z8,seval,bf g];exact⟨_,bE rfl Wl XG,_,rfl⟩
  simp only[Z8,seval,bt g];refine bP (fun m st=>∃k:Nat,(st.env 0=X/\st.env 1=Y/\st.env 5=aa k)/\k<=(ol o).length/\m=(ol o).length-k)
   (fun e st=>(e=.ret/\st.env 4=ae false)\/e=.exit 0) (ol o).length ?_ ?_ ?_
  ·rintro m st ⟨k,D,hk,hm⟩
   by_cases A:(k:Int)<(ol o).length
   ·have q0:(0:Int)<=k:=WF
    have S:(k:Int)<((ol p).length:Int):=WF
    have hw := (yY k).2
    by_cases u:gx (0:Int) (ol o) (k:Int)=gx (0:Int) (ol p) (k:Int)
    ·apply oN ((ol o).length-(k+1))
     ·simp only[Z8,seval,D,G,A,q0,S,bt u,hw];rfl
     ·exact⟨k+1,by simp only[E8,seval,D,G],WF,rfl⟩
    ·apply oT (.ret)
     ·simp only[Z8,seval,D,G,A,q0,S,bf u];rfl
     ·exact .inl ⟨rfl,qb⟩
   ·apply oT (.exit 0)
    ·simp only[Z8,seval,D,G,A];rfl
    ·exact .inr rfl
  ·exact⟨0,by simp only[E8,seval,G]<;>rfl,WF,WF⟩
  ·rintro e st (⟨rfl,h⟩|rfl)
   ·simp only[Z8,seval,h];exact⟨_,bE rfl qm XG,_,rfl⟩
   ·simp only[Z8,seval];exact⟨_,bE rfl Wl XG,_,rfl⟩
def x92 (o p:Option (List Int)) (M:bg (ol o).length):=(x9x o p M).1
def x90 (o p:Option (List Int)) (M:bg (ol o).length):=(x9x o p M).2
def x95 (a b:qX) (Y:Dh a) (hb:Dh b):∃r,aA prog 95 [au a,au b]=some r/\∃b:Bool,r=ae b:=by
 obtain⟨V,hV,S⟩:=Y
 obtain⟨W,hW,nW⟩:=hb
 obtain⟨r1,A,B,rfl⟩:=x92 V W S
 have C:=kx A (aU (bR V) (bR W)) (.v _)
 rw[cL func95 rfl a1R rfl];by_cases g1:a.slot=b.slot
 case neg =>
  simp only[Z8,seval,hV,hW,bf g1];exact⟨_,bE rfl Wl XG,_,rfl⟩
 by_cases g2:a.root=b.root
 case neg =>
  simp only[Z8,seval,hV,hW,bt g1,g2];exact⟨_,bE rfl Wl XG,_,rfl⟩
 by_cases g3:a.target=b.target
 case neg =>
  simp only[Z8,seval,hV,hW,bt g1,g2,g3];exact⟨_,bE rfl Wl XG,_,rfl⟩
 simp only[Z8,seval,hV,hW,bt g1,g2,g3,C];exact⟨_,bE rfl Wl XG,_,rfl⟩
def a1S (a b:Table) (Y:vY a) (hb:vY b):∃r,aA prog 161 [ax a,ax b]=some r/\∃b:Bool,r=ae b:=by
 obtain⟨V,hV,S⟩:=Y
 obtain⟨W,hW,nW⟩:=hb
 obtain⟨r1,A,B,rfl⟩:=x90 V W S
 have C:=kx A (aU (cP V) (cP W)) (.v _)
 rw[cL func161 rfl aUE rfl];by_cases g1:a.ck=b.ck
 case neg =>
  simp only[Z8,seval,hV,hW,g1];exact⟨_,bE rfl Wl XG,_,rfl⟩
 simp only[Z8,seval,hV,hW,g1,C];exact⟨_,bE rfl Wl XG,_,rfl⟩
def yN (a:Claim):Prop:=∃V:Option (List Int),a.dL=ov aH V/\((ol V).length:Int)<=1000
def yN.fl {a:Claim} (h:yN a):Flat (av a):=by obtain⟨V,h,_⟩:=h;grind [pL,bR]
def aUF (a b:Claim) (Y:yN a) (hb:yN b):∃r,aA prog 308 [av a,av b]=some r/\∃b:Bool,r=ae b:=by
 obtain⟨V,hV,nV⟩:=Y
 obtain⟨W,hW,nW⟩:=hb
 obtain⟨r1,A,B,rfl⟩:=x92 V W WF
 have C:=kx A (aU (bR V) (bR W)) (.v _)
 rw[cL func308 rfl aUG rfl];by_cases g1:a.source=b.source
 case neg =>
  simp only[Z8,seval,hV,hW,bf g1];exact⟨_,bE rfl Wl XG,_,rfl⟩
 by_cases g2:a.target=b.target
 case neg =>
  simp only[Z8,seval,hV,hW,bt g1,bf g2];exact⟨_,bE rfl Wl XG,_,rfl⟩
 by_cases g3:a.root=b.root
 case neg =>
  simp only[Z8,seval,hV,hW,bt g1,bt g2,g3];exact⟨_,bE rfl Wl XG,_,rfl⟩
 simp only[Z8,seval,hV,hW,bt g1,bt g2,g3,C];exact⟨_,bE rfl Wl XG,_,rfl⟩
def a1T (a b:eZ) (J:yN a.first) (h2:yN a.second) (S:yN b.first) (X:yN b.second):∃r,aA prog 251 [aw a,aw b]=some r/\∃b:Bool,r=ae b:=by
 obtain⟨r1,A,m,rfl⟩:=aUF a.first b.first J S
 obtain⟨r2,M,B2,rfl⟩:=aUF a.second b.second h2 X
 have k1:=kx A (aU J.fl S.fl) (.v _)
 have l:=kx M (aU h2.fl X.fl) (.v _)
 rw[cL func251 rfl aUH rfl];cases m
 ·simp only[Z8,seval,k1];exact⟨_,bE rfl Wl XG,_,rfl⟩
 ·simp only[Z8,seval,k1,l];exact⟨_,bE rfl Wl XG,_,rfl⟩
structure rW (x:uI):Prop where
 Dy:∃V:Option (List Int),x.Dy.dL=ov aH V/\((ol V).length:Int)<=1000
 c1:yN x.mQ.first
 c2:yN x.mQ.second
 EE:∃b:Option (List Int),x.table.fL=ov bD b/\((ol b).length:Int)<=1000/\∀y∈ol b,Rg y
 rb:RB x.block
 ra:Rg x.Dy.slot/\Rg x.Dy.target.aG
 rs:Rg x.mQ.first.source/\Rg x.mQ.first.target/\Rg x.mQ.second.source/\Rg x.mQ.second.target
 rt:Rg x.table.ck.aG
 rv:Rg x.verdict.tagged.tag
def rW.aNf (h:rW x):Dh x.Dy:=by obtain⟨V,J,h2⟩:=h.Dy;exact⟨V,J,WF⟩
def rW.aFN (h:rW x):vY x.table:=by obtain⟨V,J,h2,_⟩:=h.EE;exact⟨V,J,WF⟩
def rW.fl (h:rW x):Flat x.Dy.dL/\Flat x.mQ.first.dL/\Flat x.mQ.second.dL/\Flat x.table.fL:=by
 obtain⟨V,h1,_⟩:=h.Dy;obtain⟨V2,h2,_⟩:=h.c1;obtain⟨V3,h3,_⟩:=h.c2;grind [EE,bR,cP]
theorem rW.flat (h:rW x):Flat (be x):=(P5 x).2 h.fl
def R9 (a b:uI) (Y:rW a) (hb:rW b):∃r,aA prog 174 [be a,be b]=some r/\∃b:Bool,r=ae b:=by
 have u:=Y.fl
 have R:=hb.fl
 obtain⟨r1,A,m,rfl⟩:=x95 a.Dy b.Dy Y.aNf hb.aNf
 obtain⟨r2,M,B2,rfl⟩:=a1T a.mQ b.mQ Y.c1 Y.c2 hb.c1 hb.c2
 obtain⟨r3,C,D,rfl⟩:=a1S a.table b.table Y.aFN hb.aFN
 have k1:=kx A (aU ((rS _).2 u.1) ((rS _).2 R.1)) (.v _)
 have l:=kx M (aU ((jT _).2 ⟨u.2.1,u.2.2.1⟩) ((jT _).2 ⟨R.2.1,R.2.2.1⟩)) (.v _)
 have G:=kx C (aU ((iQ _).2 u.2.2.2) ((iQ _).2 R.2.2.2)) (.v _)
 rw[cL func174 rfl aUI rfl];by_cases g1:a.kind=b.kind
 case neg =>
  simp only[Z8,seval,mF,mG,bf g1];exact⟨_,bE rfl Wl XG,_,rfl⟩
 by_cases g2:a.block=b.block
 case neg =>
  simp only[Z8,seval,mF,mG,bt g1,g2];exact⟨_,bE rfl Wl XG,_,rfl⟩
 cases m
 ·simp only[Z8,seval,mF,mG,bt g1,g2,k1];exact⟨_,bE rfl Wl XG,_,rfl⟩
 cases B2
 ·simp only[Z8,seval,mF,mG,bt g1,g2,k1,l];exact⟨_,bE rfl Wl XG,_,rfl⟩
 cases D
 ·simp only[Z8,seval,mF,mG,bt g1,g2,k1,l,G];exact⟨_,bE rfl Wl XG,_,rfl⟩
 by_cases g3:a.verdict=b.verdict
 case neg =>
  simp only[Z8,seval,mF,mG,bt g1,g2,k1,l,G,g3];exact⟨_,bE rfl Wl XG,_,rfl⟩
 by_cases g4:a.write=b.write
 case neg =>
  simp only[Z8,seval,mF,mG,bt g1,g2,k1,l,G,g3,bf g4];exact⟨_,bE rfl Wl XG,_,rfl⟩
 simp only[Z8,seval,mF,mG,bt g1,g2,k1,l,G,g3,bt g4];exact⟨_,bE rfl Wl XG,_,rfl⟩
def S3 (cs:List AV) (o:Nat) (h:32<=cs.length-o):gI prog 28 cs o=some (.agg (rd cs o 32)):=by
 have e:lJ prog 28=some (true,32):=WP
 grind [gI]
def RR:rK prog 28=some 32:=WP
def ql:eC prog 28=some vC:=WP
def aUJ:gW prog 28=some (32,1):=WP
def aUK:dD prog 28=none:=WP
def aNg (r:bU) (st:St) (s g o:Nat) (h:st.heap s g=some (.cells (aW r))):dW prog st 28 (.ptr s g o) none none=some (.vw s g o 32):=by
 simp only[dW,aUK,aUJ,h]
def aFO (st:St) (x:AV) {k:IntKind} {i:Int} (h0:0<=i) (J:i<32):bK prog st 28 x (.v (.int k i))=wT x (i.toNat * 1):=QW aUJ st x h0 J
def Kj (x:Int):(u64.wrap x<0)=False:=by
 grind [IntKind.wrap,IntKind.signed,IntKind.bits]
def a1U (w:oG):∃r:bU,aA prog 342 [.agg (fD w)]=some (.agg (aW r)):=by
 suffices h:∃x,aA prog 342 [.agg (fD w)]=some x/\∃r:bU,x=.agg (aW r) by
  grind
 rw[cL func342 rfl aUL rfl];simp only[Z8,seval,ql];refine bP (fun m st=>∃(k:Nat) (r:bU),(st.env 1=.ptr 1 0 0/\st.heap 1 0=some (.cells (fD w))/\st.env 3=.ptr 3 0 0/\st.heap 3 0=some (.cells (aW r))/\st.env 2=.ptr 2 0 0/\st.heap 2 0=some (.cells (aW bQ))/\st.env 4=aa k)/\k<=32/\m=32-k)
  (fun e st=>e=.exit 0/\∃r:bU,st.env 3=.ptr 3 0 0/\st.heap 3 0=some (.cells (aW r))/\st.env 2=.ptr 2 0 0/\st.heap 2 0=some (.cells (aW bQ))) 32 ?step ?start ?rest
 case step =>
  rintro m st ⟨k,r,D,hk,hm⟩
  by_cases A:(k:Int)<32
  ·obtain ⟨q0,hw⟩ := yY k
   obtain⟨i,hi⟩:∃i:Int,i=31-(k:Int):=⟨_,rfl⟩
   have C:i64.wrap (31-(k:Int))=i:=by rw[Dz _ WF WF,hi]
   have i0:0<=i:=WF
   have i1:i<32:=WF
   have Y:i64.wrap ((k:Int).tdiv 8)=(k:Int) / 8:=cr
   have W:0<=(k:Int) / 8:=WF
   have J:(k:Int) / 8<4:=WF
   have i31:i.toNat<=31:=WF
   have N:=Ax w W J
   have M:=fun x=>Qa r i.toNat (i.toNat+1) x WF rfl
   apply oN (32-(k+1))
   ·simp only[Z8,seval,D,A,q0,C,i0,i1,Y,W,J,Gy,aFO,N,i31,M,Kj,Nat.mul_one,hw];rfl
   ·exact⟨k+1,_,qc,WF,rfl⟩
  ·apply oT (.exit 0)
   ·simp only[Z8,seval,D,A];rfl
   ·exact⟨rfl,r,XC⟩
 case start=>exact⟨0,bQ,Wl,WF,WF⟩
 case rest =>
  rintro e st ⟨rfl,r,D⟩
  simp only[Z8,seval,D,S3,RR];exact⟨_,iI rfl (by simp only[E8,seval,D,S3,RR]<;>rfl) (by simp only[Z8,seval,D,S3,RR]<;>rfl) jd,r,rfl⟩
def a1V (w:oG):∃r:bU,∀(st:St) (d:Option Nat),aO (aA prog) 342 [.agg (fD w)] st d=some { dst:=d,val:=.agg (aW r)}:=by
 obtain⟨r,h⟩:=a1U w
 exact⟨r,kx h (bZ (.agg _ (gM w))) (oE r)⟩
def aUN (x:oG):Wr 303 [.agg (fD x)] 32:=by
 intro l hl;suffices h:∃r,aA prog 303 [.uniq 5 1 l.length (gH l),.agg (fD x)]=some r/\∃m:List Int,r=.uniq 5 1 m.length (gH m)/\(m.length:Int)<=l.length+32 by
  grind
 have G:bg l.length:=WF
 obtain⟨r,D⟩:=a1V x
 have X:bg r.toList.length:=qe
 rw[wF prog func303 rfl aUO _ _ _ _ _ (cF _ _)];simp only[Z8,seval,fP,gT,fQ,fY,gU,D,ql,RR,aNg r,RP _ _ _ r,ET _ _ _ _ G X];exact⟨_,pP (.inl rfl) rfl Wl Wl (pQ _),_,rfl,qg⟩
def a1W (b:Bool):Wr 305 [ae b] 1:=by
 intro l hl;suffices h:∃r,aA prog 305 [.uniq 5 1 l.length (gH l),ae b]=some r/\∃m:List Int,r=.uniq 5 1 m.length (gH m)/\(m.length:Int)<=l.length+1 by
  grind
 have G:bg l.length:=WF
 rw[wF prog func305 rfl aUP _ _ _ _ _ (cF _ _)];cases b
 all_goals
  simp only[Z8,seval,fP,gT,fQ,fY,gU,xD _ _ _ _ G];exact⟨_,pP (.inl rfl) rfl Wl Wl (pQ _),_,rfl,qg⟩
theorem jF (x:Int):Rg (u64.wrap x):=by
 unfold Rg IntKind.wrap;simp[IntKind.signed,IntKind.bits]
 omega
def aOJ (V:Option (List Int)) (nV:((ol V).length:Int)<=1000):Wr 306 [ov aH V] 10010:=by
 intro l hl;suffices h:∃r,aA prog 306 [.uniq 5 1 l.length (gH l),ov aH V]=some r/\∃m:List Int,r=.uniq 5 1 m.length (gH m)/\(m.length:Int)<=l.length+10010 by
  grind
 obtain⟨m1,e1,b1⟩:=(ER _ (jF ((ol V).length:Int))).at l
 rw[wF prog func306 rfl aUQ _ _ _ _ _ (cF _ _)];simp only[Z8,seval,fP,gT,fQ,fY,gU,e1];refine bP (fun m st=>∃(k:Nat) (p:List Int) (a g:Nat),(st.env 0=.own a g/\st.heap a g=some (.row 5 1 p.length (gH p))/\st.env 1=ov aH V/\st.env 5=aa k)/\((a=10/\g<st.aJ 10)\/(a=24/\g<st.aJ 24)\/(a=38/\g<st.aJ 38))/\(p.length:Int)<=l.length+10+10 * k/\k<=(ol V).length/\m=(ol V).length-k)
  (fun e st=>e=.exit 0/\∃(p:List Int) (a g:Nat),(st.env 0=.own a g/\st.heap a g=some (.row 5 1 p.length (gH p)))/\(p.length:Int)<=l.length+10010) (ol V).length ?step ?start ?rest
 case step =>
  rintro m st ⟨k,p,a,g,D,u,hp,hk,hm⟩
  by_cases A:(k:Int)<(ol V).length
  ·obtain ⟨q0,hw⟩ := yY k
   rcases u with ⟨rfl,hg⟩|⟨rfl,hg⟩|⟨rfl,hg⟩
   all_goals
    have N:=eq_false (Nat.ne_of_lt hg)
    by_cases J:(k:Int)=0
    ·have z0:(0:Int)<((ol V).length:Int):=WF
     have z1:(0:Int)<=0:=WF
     obtain⟨S,M,b2⟩:=(ER _ (jF (gx (0:Int) (ol V) (0:Int)))).at p
     apply oN ((ol V).length-(k+1))
     ·simp only[Z8,seval,D,N,A,q0,bt J,z0,z1,M,hw];rfl
     ·exact⟨k+1,S,_,_,⟨Wl,Wl,XC,qb⟩,.inr (.inl ⟨rfl,Yo⟩),WF,WF,rfl⟩
    ·have DG:i64.wrap ((k:Int)-1)=(k:Int)-1:=Dz _ WF WF
     have G:(0:Int)<=(k:Int)-1:=WF
     have y1:(k:Int)-1<((ol V).length:Int):=WF
     obtain⟨S,M,b2⟩:=(ER _ (jF (i64.wrap (i64.wrap (gx (0:Int) (ol V) (k:Int)-gx (0:Int) (ol V) ((k:Int)-1))-1)))).at p
     apply oN ((ol V).length-(k+1))
     ·simp only[Z8,seval,D,N,A,q0,bf J,DG,G,y1,M,hw];rfl
     ·exact⟨k+1,S,_,_,⟨Wl,Wl,XC,qb⟩,.inr (.inr ⟨rfl,Yo⟩),WF,WF,rfl⟩
  ·apply oT (.exit 0)
   ·simp only[Z8,seval,D,A];rfl
   ·exact⟨rfl,p,a,g,XC,WF⟩
 case start=>exact⟨0,m1,10,0,by and_intros<;>(simp only[E8,seval,fP,gT,fQ,fY,gU]<;>rfl),.inl ⟨rfl,by simp only[E8,seval,fP,gT,fQ,fY,gU]<;>omega⟩,WF,WF,WF⟩
 case rest =>
  rintro e st ⟨rfl,p,a,g,D,hp⟩
  simp only[Z8,seval,D];exact⟨_,pP (.inl rfl) rfl Wl qc (pQ _),_,rfl,hp⟩
def a1X (c:Claim) (V:Option (List Int)) (hV:c.dL=ov aH V) (S:((ol V).length:Int)<=1000) (J:Rg c.source) (h2:Rg c.target):Wr 307 [av c] 10100:=by
 intro l hl;suffices h:∃r,aA prog 307 [.uniq 5 1 l.length (gH l),av c]=some r/\∃m:List Int,r=.uniq 5 1 m.length (gH m)/\(m.length:Int)<=l.length+10100 by
  grind
 obtain⟨m1,A,b1⟩:=(ER c.source J).at l
 obtain⟨m2,M,b2⟩:=(ER c.target h2).at m1
 obtain⟨m3,C,b3⟩:=(RQ c.root).at m2
 obtain⟨m4,G,b4⟩:=(aOJ V S).at m3 (bZ (bR V))
 rw[RO prog func307 rfl aNh WP _ _ _ _ _ (cF _ _)]
 simp only[ZG,seval,aNi,fP,gT,fQ,fY,gU,A,M,C,G,hV,wA,wB,yI,yJ];exact⟨_,pP (.inl rfl) rfl Wl Wl (pQ _),_,rfl,WF⟩
def n307 (c:Claim) (V:Option (List Int)) (hV:c.dL=ov aH V) (S:((ol V).length:Int)<=1000) (J:Rg c.source) (h2:Rg c.target):da 307 [av c] 10100:=by
 suffices h:∃r,aA prog 307 [af,av c]=some r/\∃m:List Int,r=.uniq 5 1 m.length (gH m)/\(m.length:Int)<=10100 by
  obtain⟨r,h,m,rfl,h2⟩:=h;exact⟨m,h,h2⟩
 obtain⟨m1,A,b1⟩:=(n250 c.source J).at
 obtain⟨m2,M,b2⟩:=(ER c.target h2).at m1
 obtain⟨m3,C,b3⟩:=(RQ c.root).at m2
 obtain⟨m4,G,b4⟩:=(aOJ V S).at m3 (bZ (bR V))
 rw[cG func307 rfl aNh WP rfl]
 simp only[ZG,seval,aNi,A,M,C,G,hV,wA,wB,yI,yJ];exact⟨_,oH rfl Wl Wl (pR _),_,rfl,WF⟩
def n245 (x:Block) (h:RB x):da 245 [ah x] 400:=by
 suffices h:∃r,aA prog 245 [af,ah x]=some r/\∃m:List Int,r=.uniq 5 1 m.length (gH m)/\(m.length:Int)<=400 by
  obtain⟨r,h,m,rfl,h2⟩:=h;exact⟨m,h,h2⟩
 obtain⟨m1,A,b1⟩:=(n250 x.slot h.sl).at
 obtain⟨m2,M,b2⟩:=(RQ x.root).at m1
 obtain⟨m3,C,b3⟩:=(RQ x.parent).at m2
 obtain⟨m4,G,b4⟩:=(RQ x.eQ).at m3
 obtain⟨m5,D,b5⟩:=(aUN x.diff).at m4
 obtain⟨m6,l,b6⟩:=(aUN x.Yx).at m5
 obtain⟨m7,N,b7⟩:=(jq x.dX h.j).at m6
 obtain⟨m8,S,b8⟩:=(jq x.fin h.f).at m7
 obtain⟨m9,R,b9⟩:=(jq x.dA.pj h.pj).at m8
 obtain⟨m10,J,b10⟩:=(jq x.dA.pf h.pf).at m9
 obtain⟨m11,W,b11⟩:=(a1W x.oU).at m10
 rw[cG func245 rfl aUR WP rfl]
 simp only[ZG,seval,aUS,A,M,C,G,D,l,N,S,R,J,W];exact⟨_,oH rfl Wl Wl (pR _),_,rfl,WF⟩
def oW (r:AV):Prop:=∃(o:Option (List Int)) (e:Int),r=.cY [ov gH o,aa e]
def oW.none (e:Int):oW (.cY [af,aa e]):=⟨Option.none,e,rfl⟩
def oW.some (l:List Int) (e:Int):oW (.cY [.sl l.length (gH l),aa e]):=⟨Option.some l,e,rfl⟩
def a1Z (a:qX) (V:Option (List Int)) (hV:a.dL=ov aH V) (S:((ol V).length:Int)<=1000) (J:Rg a.slot) (h2:Rg a.target.aG):∃r,aA prog 246 [au a]=some r/\oW r:=by
 have D:=kx (eh V WF 1024) (aU (bR V) (.v _)) (.v _)
 obtain⟨e,he⟩:∃e,vM (ol V) 1024=e:=⟨_,rfl⟩
 rw[he] at D;obtain⟨m1,A,b1⟩:=(n250 a.slot J).at
 obtain⟨m2,M,b2⟩:=(RQ a.root).at m1
 obtain⟨m3,C,b3⟩:=(jq a.target h2).at m2
 obtain⟨m4,G,b4⟩:=(aOJ V S).at m3 (bZ (bR V))
 rw[cG func246 rfl aUT WP rfl]
 by_cases g:e=0
 ·simp only[ZG,seval,aNj,hV,D,bt g,A,M,C,G,wA,wB,yI,yJ];exact⟨_,bT rfl rfl rfl qu qu,oW.some _ _⟩
 ·simp only[ZG,seval,aNj,hV,D,bf g];exact⟨_,bT rfl rfl rfl Wl Wl,oW.none _⟩
def a10 (a:eZ) (J:yN a.first) (h2:yN a.second) (G:Rg a.first.source) (C:Rg a.first.target) (D:Rg a.second.source) (l:Rg a.second.target):∃r,aA prog 247 [aw a]=some r/\oW r:=by
 obtain⟨V,hV,S⟩:=id J
 obtain⟨W,hW,nW⟩:=id h2
 have p:=kx (eh V WF 1024) (aU (bR V) (.v _)) (.v _)
 have N:=kx (eh W WF 1024) (aU (bR W) (.v _)) (.v _)
 obtain⟨ev,X⟩:∃e,vM (ol V) 1024=e:=⟨_,rfl⟩
 obtain⟨R,Y⟩:∃e,vM (ol W) 1024=e:=⟨_,rfl⟩
 rw[X] at p;rw[Y] at N;obtain⟨m1,A,b1⟩:=(n307 a.first V hV S G C).at (bZ J.fl)
 obtain⟨m2,M,b2⟩:=(a1X a.second W hW nW D l).at m1 (bZ h2.fl)
 rw[cL func247 rfl aUU rfl];by_cases g1:ev=0
 case neg =>
  simp only[Z8,seval,hV,hW,p,bf g1];exact⟨_,bT rfl rfl rfl Wl Wl,oW.none _⟩
 by_cases g2:R=0
 case neg =>
  simp only[Z8,seval,hV,hW,p,N,bt g1,bf g2];exact⟨_,bT rfl rfl rfl Wl Wl,oW.none _⟩
 simp only[Z8,seval,hV,hW,p,N,bt g1,bt g2,A,M];exact⟨_,bT rfl rfl rfl qu qu,oW.some _ _⟩
def a11 (t:Table) (b:Option (List Int)) (hb:t.fL=ov bD b) (nb:((ol b).length:Int)<=1000) (rb:∀y∈ol b,Rg y) (rt:Rg t.ck.aG):∃r,aA prog 248 [ax t]=some r/\oW r:=by
 have hfT:Flat (ax t):=(iQ t).2 (by rw[hb];exact cP b)
 obtain⟨m1,e1,b1⟩:=(n250 t.ck.aG rt).at
 obtain⟨m2,M,b2⟩:=(RQ t.ck.root).at m1
 obtain⟨m3,C,b3⟩:=(ER _ (jF ((ol b).length:Int))).at m2
 rw[cG func248 rfl aUV WP rfl]
 have g1:¬(1024:Int)<((ol b).length:Int):=WF
 simp only[ZG,seval,ZA,hb,g1,e1,M,C,wA,wB,yI,yJ];refine jV (fun m st=>∃(k:Nat) (p:List Int) (a g:Nat),(st.env 1=.ptr 1 0 0/\st.heap 1 0=some (.cells (cH t))/\st.env 4=.own a g/\st.heap a g=some (.row 5 1 p.length (gH p))/\st.env 5=aa k)/\((a=22/\g=0)\/(a=36/\g<st.aJ 36))/\(p.length:Int)<=100+10 * k/\k<=(ol b).length/\m=(ol b).length-k)
  (fun e st=>e=.exit 0/\∃(p:List Int) (a g:Nat),st.env 4=.own a g/\st.heap a g=some (.row 5 1 p.length (gH p))) (ol b).length ?step ?start ?rest
 case step =>
  rintro m st ⟨k,p,a,g,D,KX,hp,hk,hm⟩
  by_cases A:(k:Int)<(ol b).length
  ·obtain ⟨q0,hw⟩ := yY k
   obtain⟨S,G,b4⟩:=(ER _ (rb _ (lB (z:=(0:Int)) q0 A))).at p
   rcases KX with ⟨rfl,rfl⟩|⟨rfl,hg⟩
   ·apply Ka ((ol b).length-(k+1))
    ·simp only[ZG,seval,ZA,D,A,q0,hb,G,hw];rfl
    ·exact⟨k+1,S,36,_,⟨XC,XC,Wl,Wl,qb⟩,.inr ⟨rfl,Yo⟩,WF,WF,rfl⟩
   ·have N:(g=st.aJ 36)=False:=eq_false WF
    apply Ka ((ol b).length-(k+1))
    ·simp only[ZG,seval,ZA,D,N,A,q0,hb,G,hw];rfl
    ·exact⟨k+1,S,36,_,⟨XC,XC,Wl,Wl,qb⟩,.inr ⟨rfl,Yo⟩,WF,WF,rfl⟩
  ·apply BW (.exit 0)
   ·simp only[ZG,seval,ZA,D,A,hb];rfl
   ·exact⟨rfl,p,a,g,XC,XC⟩
 case start=>exact⟨0,m3,22,0,qz,.inl ⟨rfl,rfl⟩,WF,WF,WF⟩
 case rest =>
  rintro e st ⟨rfl,p,a,g,X,u⟩
  simp only[ZG,seval,ZA,X,u];exact⟨_,bT rfl rfl rfl z9 z9,oW.some _ _⟩
def a13 (v:fM) (h:Rg v.tagged.tag):∃r,aA prog 249 [am v]=some r/\oW r:=by
 obtain⟨m1,A,b1⟩:=(n250 v.tagged.tag h).at
 obtain⟨m2,M,b2⟩:=(ER _ (jF v.kind)).at m1
 obtain⟨m3,C,b3⟩:=(RQ v.cJ).at m2
 rw[cG func249 rfl aUW WP rfl]
 by_cases g1:v.kind<1
 ·simp only[ZG,seval,aFP,g1];exact⟨_,bT rfl rfl rfl Wl Wl,oW.none _⟩
 by_cases g2:4<v.kind
 ·simp only[ZG,seval,aFP,g1,g2];exact⟨_,bT rfl rfl rfl Wl Wl,oW.none _⟩
 simp only[ZG,seval,aFP,g1,g2,A,M,C];exact⟨_,bT rfl rfl rfl qu qu,oW.some _ _⟩
def a14 (x:uI) (h:rW x):∃r,aA prog 173 [be x]=some r/\oW r:=by
 have p:=h.fl
 obtain⟨V,hV,S⟩:=h.Dy
 obtain⟨b,hb,nb,rb⟩:=h.EE
 obtain⟨m1,A,b1⟩:=(n245 x.block h.rb).at (bZ (lF _))
 obtain⟨r2,M,o2,f2,rfl⟩:=a1Z x.Dy V hV S h.ra.1 h.ra.2
 obtain⟨r3,C,o3,f3,rfl⟩:=a10 x.mQ h.c1 h.c2 h.rs.1 h.rs.2.1 h.rs.2.2.1 h.rs.2.2.2
 obtain⟨r4,G,o4,f4,rfl⟩:=a11 x.table b hb nb rb h.rt
 obtain⟨r5,D,o5,f5,rfl⟩:=a13 x.verdict h.rv
 have l:=kx M (bZ ((rS _).2 p.1)) (.cY _ (aU (pS _) (.v _)))
 have k3:=kx C (bZ ((jT _).2 ⟨p.2.1,p.2.2.1⟩)) (.cY _ (aU (pS _) (.v _)))
 have J:=kx G (bZ ((iQ _).2 p.2.2.2)) (.cY _ (aU (pS _) (.v _)))
 have R:=kx D (bZ (.agg _ (fJ _))) (.cY _ (aU (pS _) (.v _)))
 obtain⟨m6,e6,b6⟩:=(n250 _ (jF x.write)).at
 obtain⟨m7,N,b7⟩:=(ER _ (jF x.oM)).at m6
 rw[cL func173 rfl aUX rfl];by_cases g2:x.kind=2
 ·simp only[Z8,seval,bt g2,A];exact⟨_,bT rfl rfl rfl qu qu,oW.some _ _⟩
 by_cases g3:x.kind=3
 ·simp only[Z8,seval,bf g2,bt g3,l,bW];exact⟨_,bT rfl rfl rfl qw qw,_,_,rfl⟩
 by_cases g4:x.kind=4
 ·simp only[Z8,seval,bf g2,bf g3,bt g4,k3,bW];exact⟨_,bT rfl rfl rfl qw qw,_,_,rfl⟩
 by_cases g5:x.kind=5
 ·simp only[Z8,seval,bf g2,bf g3,bf g4,bt g5,J,bW];exact⟨_,bT rfl rfl rfl qw qw,_,_,rfl⟩
 by_cases g6:x.kind=6
 ·simp only[Z8,seval,bf g2,bf g3,bf g4,bf g5,bt g6,R,bW];exact⟨_,bT rfl rfl rfl qw qw,_,_,rfl⟩
 by_cases g8:x.kind=8
 case neg =>
  simp only[Z8,seval,bf g2,bf g3,bf g4,bf g5,bf g6,bf g8];exact⟨_,bT rfl rfl rfl Wl Wl,oW.none _⟩
 by_cases u:x.write<0
 ·simp only[Z8,seval,bf g2,bf g3,bf g4,bf g5,bf g6,bt g8,u];exact⟨_,bT rfl rfl rfl Wl Wl,oW.none _⟩
 by_cases X:32768<x.write
 ·simp only[Z8,seval,bf g2,bf g3,bf g4,bf g5,bf g6,bt g8,u,X];exact⟨_,bT rfl rfl rfl Wl Wl,oW.none _⟩
 by_cases W:x.oM<0
 ·simp only[Z8,seval,bf g2,bf g3,bf g4,bf g5,bf g6,bt g8,u,X,W];exact⟨_,bT rfl rfl rfl Wl Wl,oW.none _⟩
 by_cases m:32768<x.oM
 ·simp only[Z8,seval,bf g2,bf g3,bf g4,bf g5,bf g6,bt g8,u,X,W,m];exact⟨_,bT rfl rfl rfl Wl Wl,oW.none _⟩
 simp only[Z8,seval,bf g2,bf g3,bf g4,bf g5,bf g6,bt g8,u,X,W,m,e6,N];exact⟨_,bT rfl rfl rfl qu qu,oW.some _ _⟩
def S4:Rg 0:=⟨WF,WF⟩
def zOk:rW yO:=⟨⟨none,rfl,zc⟩,⟨none,rfl,zc⟩,⟨none,rfl,zc⟩,⟨none,rfl,zc,zc⟩,⟨S4,S4,S4,S4,S4⟩,⟨S4,S4⟩,⟨S4,S4,S4,S4⟩,S4,S4⟩
def a15 (x:uI) (h:rW x):∃r,aA prog 108 [be x]=some r/\∃e:Int,r=aa e:=by
 have z:=zOk
 have W:=h.flat
 obtain⟨r1,A,o1,e,rfl⟩:=a14 x h
 have X:=kx A (bZ W) (.cY _ (aU (pS _) (.v _)))
 rw[cG func108 rfl aUY WP rfl]
 by_cases g1:x.kind<1
 ·simp only[ZG,seval,Ox,g1];exact⟨_,bE rfl Wl XG,_,rfl⟩
 by_cases g9:8<x.kind
 ·simp only[ZG,seval,Ox,g1,g9];exact⟨_,bE rfl Wl XG,_,rfl⟩
 by_cases g0:e=0
 case neg =>
  simp only[ZG,seval,Ox,g1,g9,X,bW,bf g0];exact⟨_,bE rfl Wl XG,_,rfl⟩
 by_cases l:x.kind=2
 ·have Y:rW { yO with kind:=x.kind,block:=x.block }:=⟨z.Dy,z.c1,z.c2,z.EE,h.rb,z.ra,z.rs,z.rt,z.rv⟩
  obtain⟨C,M,B,rfl⟩:=R9 x { yO with kind:=x.kind,block:=x.block } h Y
  have N:=kx M (aU W Y.flat) (.v _)
  have D:=h.fl
  cases B
  all_goals
   simp only[ZG,seval,Ox,g1,g9,X,bW,bt g0,bt l,N,wA,wB,yI,yJ];exact⟨_,bE rfl Wl XG,_,rfl⟩
 by_cases G:x.kind=3
 ·have Y:rW { yO with kind:=x.kind,Dy:=x.Dy }:=⟨h.Dy,z.c1,z.c2,z.EE,z.rb,h.ra,z.rs,z.rt,z.rv⟩
  obtain⟨C,M,B,rfl⟩:=R9 x { yO with kind:=x.kind,Dy:=x.Dy } h Y
  have N:=kx M (aU W Y.flat) (.v _)
  have D:=h.fl
  cases B
  all_goals
   simp only[ZG,seval,Ox,g1,g9,X,bW,bt g0,bf l,bt G,N,wA,wB,yI,yJ];exact⟨_,bE rfl Wl XG,_,rfl⟩
 by_cases J:x.kind=4
 ·have Y:rW { yO with kind:=x.kind,mQ:=x.mQ }:=⟨z.Dy,h.c1,h.c2,z.EE,z.rb,z.ra,h.rs,z.rt,z.rv⟩
  obtain⟨C,M,B,rfl⟩:=R9 x { yO with kind:=x.kind,mQ:=x.mQ } h Y
  have N:=kx M (aU W Y.flat) (.v _)
  have D:=h.fl
  cases B
  all_goals
   simp only[ZG,seval,Ox,g1,g9,X,bW,bt g0,bf l,bf G,bt J,N,wA,wB,yI,yJ];exact⟨_,bE rfl Wl XG,_,rfl⟩
 by_cases R:x.kind=5
 ·have Y:rW { yO with kind:=x.kind,table:=x.table }:=⟨z.Dy,z.c1,z.c2,h.EE,z.rb,z.ra,z.rs,h.rt,z.rv⟩
  obtain⟨C,M,B,rfl⟩:=R9 x { yO with kind:=x.kind,table:=x.table } h Y
  have N:=kx M (aU W Y.flat) (.v _)
  have D:=h.fl
  cases B
  all_goals
   simp only[ZG,seval,Ox,g1,g9,X,bW,bt g0,bf l,bf G,bf J,bt R,N,wA,wB,yI,yJ];exact⟨_,bE rfl Wl XG,_,rfl⟩
 by_cases S:x.kind=6
 ·have Y:rW { yO with kind:=x.kind,verdict:=x.verdict }:=⟨z.Dy,z.c1,z.c2,z.EE,z.rb,z.ra,z.rs,z.rt,h.rv⟩
  obtain⟨C,M,B,rfl⟩:=R9 x { yO with kind:=x.kind,verdict:=x.verdict } h Y
  have N:=kx M (aU W Y.flat) (.v _)
  have D:=h.fl
  cases B
  all_goals
   simp only[ZG,seval,Ox,g1,g9,X,bW,bt g0,bf l,bf G,bf J,bf R,bt S,N,wA,wB,yI,yJ];exact⟨_,bE rfl Wl XG,_,rfl⟩
 by_cases m:x.kind=8
 ·have Y:rW { yO with kind:=x.kind,write:=x.write,oM:=x.oM }:=⟨z.Dy,z.c1,z.c2,z.EE,z.rb,z.ra,z.rs,z.rt,z.rv⟩
  obtain⟨C,M,B,rfl⟩:=R9 x { yO with kind:=x.kind,write:=x.write,oM:=x.oM } h Y
  have N:=kx M (aU W Y.flat) (.v _)
  have D:=h.fl
  cases B
  all_goals
   simp only[ZG,seval,Ox,g1,g9,X,bW,bt g0,bf l,bf G,bf J,bf R,bf S,bt m,N,wA,wB,yI,yJ];exact⟨_,bE rfl Wl XG,_,rfl⟩
 have Y:rW { yO with kind:=x.kind }:=⟨z.Dy,z.c1,z.c2,z.EE,z.rb,z.ra,z.rs,z.rt,z.rv⟩
 obtain⟨C,M,B,rfl⟩:=R9 x { yO with kind:=x.kind } h Y
 have N:=kx M (aU W Y.flat) (.v _)
 have D:=h.fl
 cases B
 all_goals
  simp only[ZG,seval,Ox,g1,g9,X,bW,bt g0,bf l,bf G,bf J,bf R,bf S,bf m,N,wA,wB,yI,yJ];exact⟨_,bE rfl Wl XG,_,rfl⟩
def x88 (n bits:Int) (h0:0<n) (h1:n<=1000):∃r,aA prog 88 [aa n,aa bits]=some r/\∃l:List Int,r=.uniq 3 1 l.length (aH l)/\(l.length:Int)<=n:=by
 rw[cL func88 rfl a16 rfl];simp only[Z8,seval];refine bP (fun m st=>∃k:Nat,(st.env 0=aa n/\st.env 1=aa bits/\st.env 6=aa k)/\(st.env 5=af\/∃(l:List Int) (g:Nat),(st.env 5=.own 21 g/\st.heap 21 g=some (.row 3 1 l.length (aH l)))/\g<st.aJ 21/\0<l.length/\l.length<=k)/\(k:Int)<=n/\m=(n-k).toNat)
  (fun e st=>e=.exit 0/\st.env 0=aa n/\(st.env 5=af\/∃(l:List Int) (g:Nat),(st.env 5=.own 21 g/\st.heap 21 g=some (.row 3 1 l.length (aH l)))/\0<l.length/\(l.length:Int)<=n)) n.toNat ?step ?start ?rest
 case step =>
  rintro m st ⟨k,D,C,hk,hm⟩
  by_cases A:(k:Int)<n
  ·obtain ⟨q0,hw⟩ := yY k
   by_cases u:i64.wrap ((BitVec.ofInt i64.bits (bits.fdiv (2 ^ min (u64.wrap (k:Int)).toNat i64.bits)) &&& BitVec.ofInt i64.bits 1).toNat:Int)=1
   ·rcases C with C|⟨l,g,C,hg,Y,W⟩
    ·apply oN ((n-((k+1:Nat):Int)).toNat)
     ·simp only[Z8,seval,D,C,A,q0,Kj,bt u,hw];rfl
     ·exact⟨k+1,XC,.inr ⟨[(k:Int)],_,⟨Wl,Wl⟩,Yo,qe,qe⟩,WF,rfl⟩
    ·have N:(g=st.aJ 21)=False:=eq_false WF
     have nl:bg l.length:=WF
     apply oN ((n-((k+1:Nat):Int)).toNat)
     ·simp only[Z8,seval,D,C,N,A,q0,Kj,bt u,hw,Ai _ _ _ _ nl];rfl
     ·exact⟨k+1,XC,.inr ⟨l++[(k:Int)],_,⟨Wl,Wl⟩,Yo,qe,qg⟩,WF,rfl⟩
   ·have M:st.env 5=af\/∃(l:List Int) (g:Nat),(st.env 5=.own 21 g/\st.heap 21 g=some (.row 3 1 l.length (aH l)))/\g<st.aJ 21/\0<l.length/\l.length<=k+1:=C.imp id fun ⟨l,g,a,b,c,d⟩=>⟨l,g,a,b,c,WF⟩
    apply oN ((n-((k+1:Nat):Int)).toNat)
    ·simp only[Z8,seval,D,A,q0,Kj,bf u,hw];rfl
    ·exact⟨k+1,XC,by simpa only[E8,seval] using M,WF,rfl⟩
  ·have M:st.env 5=af\/∃(l:List Int) (g:Nat),(st.env 5=.own 21 g/\st.heap 21 g=some (.row 3 1 l.length (aH l)))/\0<l.length/\(l.length:Int)<=n:=C.imp id fun ⟨l,g,a,b,c,d⟩=>⟨l,g,a,c,WF⟩
   apply oT (.exit 0)
   ·simp only[Z8,seval,D,A];rfl
   ·exact⟨rfl,XC,by simpa only[E8,seval] using M⟩
 case start=>exact⟨0,Wl,.inl qb,WF,qe⟩
 case rest =>
  rintro e st ⟨rfl,J,C|⟨l,g,C,Y,W⟩⟩
  ·simp only[Z8,seval,J,C,h0];exact⟨_,Ki (n:=([0]:List Int).length) (cs:=aH [0]) (aI ZB) (.inl rfl) rfl Wl Wl (eP _),_,rfl,qs⟩
  ·have G:¬((l.length:Int)=0):=WF
   simp only[Z8,seval,J,C,bf G];exact⟨_,oH rfl wh wh (eP _),l,rfl,W⟩
def k88 (n bits:Int) (h0:0<n) (J:n<=1000):∃l:List Int,(∀(st:St) (d:Nat),aO (aA prog) 88 [aa n,aa bits] st (some d)=some { dst:=some d,val:=.own d (st.aJ d),new:=some (d,[.row 3 1 l.length (aH l)])})/\(l.length:Int)<=n:=by
 obtain⟨r,hr,l,rfl,hl⟩:=x88 n bits h0 J
 grind [gA,Flat.v]
def x86 {s:aF} {v:SV} (h:GI s v q) (r:RG s v) (i e:Int) (he:Rg e):∃x,aA prog 86 [bc s,aa i,ac e]=some x/\∃c:dH,x=ag c/\Rg c.aG:=by
 have A:=YE v.ns h.up h.sd.nn i (u64.wrap (e * s.cFg.iH))
 have X:=Wb h.up (i:=i) (s:=u64.wrap (e * s.cFg.iH))
 obtain⟨k,R⟩:∃k,Gu v.ns i (u64.wrap (e * s.cFg.iH))=k:=⟨_,rfl⟩
 rw[R] at A X
 rw[cL func86 rfl a2a rfl];by_cases g1:k<0
 ·simp only[Z8,seval,h.sd.tree,A,g1];exact⟨_,iI rfl (by simp only[E8,seval,Dg]<;>rfl) (by simp only[Z8,seval,Dg]<;>rfl) (by grind [Dg]),_,rfl,r.f⟩
 ·have G:0<=k:=WF
  have k1:k<v.ns.length:=WF
  simp only[Z8,seval,h.sd.tree,A,g1,G,k1];exact⟨_,iI rfl (by simp only[E8,seval,Dg]<;>rfl) (by simp only[Z8,seval,Dg]<;>rfl) (by grind [Dg]),_,rfl,he⟩
def x87 (n:Int):∃x,aA prog 87 [aa n]=some x/\∃w:oG,x=.agg (fD w):=by
 obtain⟨j,Y⟩:∃j,(i64.wrap ((BitVec.ofInt i64.bits (((n).fdiv (2 ^ min 9 i64.bits))) &&& BitVec.ofInt i64.bits 3).toNat:Int))=j:=⟨_,rfl⟩
 have hb:=Mr ((n).fdiv (2 ^ min 9 i64.bits)) 3 ZB
 rw[Y] at hb;have W:=hb.1
 have J:j<4:=WF
 have C:j.toNat<4:=WF
 have l:j.toNat<=3:=WF
 have M:∀(w:oG) (x:Int),dE (fD w) j.toNat [ac x] (j.toNat+1)=fD (w.set j.toNat x):=fun w x=>Br w j.toNat _ x C rfl
 have A:∀w:oG,Flat (.agg (fD w))=True:=fun w=>eq_true (.agg _ (gM w))
 obtain⟨c,G⟩:∃c,(i64.wrap ((BitVec.ofInt i64.bits (((n).fdiv (2 ^ min 7 i64.bits))) &&& BitVec.ofInt i64.bits 3).toNat:Int))=c:=⟨_,rfl⟩
 rw[cL func87 rfl a2b rfl];rcases (show c=1\/c=2\/c=3\/(c == 1)=false/\(c == 2)=false/\(c == 3)=false from qg) with e|e|e|e
 all_goals
  simp only[Z8,seval,G,e,Br,Nat.reduceLT,Gy,Y,W,J,l,M,Nat.mul_one,Kj];exact⟨_,iI rfl (by simp only[E8,seval,A]<;>rfl) (by simp only[Z8,seval,A]<;>rfl) qg,_,rfl⟩
def x48 (n k:Int) (h0:0<n) (J:n<=1000):∃r,aA prog 48 [aa n,aa k]=some r/\∃x:eZ,r=aw x/\yN x.first/\yN x.second/\Rg x.first.source/\Rg x.first.target/\Rg x.second.source/\Rg x.second.target:=by
 obtain⟨l,kl,hl⟩:=k88 n k h0 J
 obtain⟨m,A,hm⟩:=k88 n ((k).fdiv (2 ^ min 6 i64.bits)) h0 J
 have rg:∀x:Int,0<=x/\x<=6->Rg x:=fun x h=>⟨WF,WF⟩
 have ok:∀a b r (l:List Int),(l.length:Int)<=1000->yN ⟨a,b,r,ov aH (some l)⟩:=fun a b r l h=>⟨some l,rfl,h⟩
 obtain⟨c,G⟩:∃c,((((k).fdiv (2 ^ min 12 i64.bits))).tmod 8)=c:=⟨_,rfl⟩
 rw[cL func48 rfl a2c rfl];rcases (show c=0\/c=1\/c=2\/c=3\/c=4\/(c == 0)=false/\(c == 1)=false/\(c == 2)=false/\(c == 3)=false/\(c == 4)=false from qg) with e|e|e|e|e|e
 all_goals
  simp only[Z8,seval,kl,A,lK,G,e];exact⟨_,by apply jE;rfl;all_goals simp only[aI,Z8,seval,dC,RS,OU,eG,bY,zG,sB]<;>rfl,_,rfl,Qbb,Qbb,rg _ ws,rg _ ws,rg _ ws,rg _ ws⟩
def x49 {s:aF} {v:SV} (h:GI s v q) (r:RG s v) (hB:0<(ol v.B).length/\(ol v.B).length<=64) (k:Int) (R:0<=k):∃x,aA prog 49 [bc s,aa k]=some x/\∃(t:Table) (b:List Int),x=ax t/\t.fL=ov bD (some b)/\(b.length:Int)<=1000/\(∀y∈b,Rg y)/\Rg t.ck.aG:=by
 have hn:=h.sd.nn
 have hp:(0:Int)<(v.ns.length:Int):=iz
 have S:¬((v.ns.length:Int)=0):=WF
 obtain⟨m1,m2⟩:=fU (n:=(v.ns.length:Int)) R hp
 obtain⟨i,hi⟩:∃i,k.tmod (v.ns.length:Int)=i:=⟨_,rfl⟩
 rw[hi] at m1 m2;have ZD:=h.sp
 obtain⟨y,Y,c2,rfl,rc2⟩:=x86 h r i (pY s s.now) (jF _)
 unfold pY at Y;have k86:=kx Y (jC h.sd.flat (.v _) (.v _)) (.agg _ (cM _))
 obtain⟨d,l⟩:∃d,(k.fdiv (2 ^ min 5 i64.bits)).tmod 4=d:=⟨_,rfl⟩
 obtain⟨C,rC,⟨e,W⟩|⟨e,W⟩⟩:∃C:dH,Rg C.aG/\((d == 0)=true/\c2=C\/(d == 0)=false/\(nd v.ns i).block.dA.pj=C):=by
  cases d == 0
  ·exact⟨_,(r.nd _ (zB m1 m2)).1.pj,.inr ⟨rfl,rfl⟩⟩
  ·exact⟨_,rc2,.inl ⟨rfl,rfl⟩⟩
 all_goals
  rw[cL func49 rfl a2d rfl];simp only[Z8,seval,h.sd.tree,S,hi,m1,m2,l,e,ZD,k86,W];refine bP (fun m st=>∃(j:Nat) (X:AV) (L:List Int),(st.env 1=aa k/\st.env 2=.ptr 2 0 0/\st.heap 2 0=some (.cells (aB s))/\st.env 4=.ptr 4 0 0/\st.heap 4 0=some (.cells (cH fW))/\st.env 6=.ptr 6 0 0/\st.heap 6 0=some (.cells (cH ⟨C,X⟩))/\st.env 7=aa j)/\((X=af/\L=[])\/∃g,X=.own 55 g/\g<st.aJ 55/\st.heap 55 g=some (.row 23 1 L.length (bD L)))/\(∀y∈L,Rg y)/\L.length=j/\j<=(ol v.B).length/\m=(ol v.B).length-j)
   (fun e st=>e=.exit 0/\∃(g:Nat) (L:List Int),(st.env 1=aa k/\st.env 2=.ptr 2 0 0/\st.heap 2 0=some (.cells (aB s))/\st.env 4=.ptr 4 0 0/\st.heap 4 0=some (.cells (cH fW))/\st.env 6=.ptr 6 0 0/\st.heap 6 0=some (.cells (cH ⟨C,.own 55 g⟩))/\st.heap 55 g=some (.row 23 1 L.length (bD L)))/\(∀y∈L,Rg y)/\L.length=(ol v.B).length) (ol v.B).length ?_ ?_ ?_
  ·rintro m st ⟨j,X,L,D,G,hL,hj,hjB,hm⟩
   by_cases A:(j:Int)<(ol v.B).length
   ·obtain ⟨q0,hw⟩ := yY j
    have nL:bg L.length:=WF
    obtain⟨y,M⟩:∃y,u64.wrap ((k.fdiv (2 ^ min (u64.wrap (j:Int)).toNat i64.bits)).tmod 50)=y:=⟨_,rfl⟩
    have ry:Rg y:=by rw[<- M];exact jF _
    have J:∀z∈L++[y],Rg z:=fun z hz=>(mem_append.1 hz).elim (hL z) fun e=>by grind
    have KY:(L++[y]).length=j+1:=qg
    rcases G with ⟨rfl,rfl⟩|⟨g,rfl,hg,u⟩
    ·refine Bp (st':=?_) ?_ ((ol v.B).length-(j+1)) WF ?_
     rotate_left
     ·simp only[Z8,seval,D,A,q0,h.sd.fL,Kj,M,hw];rfl
     ·exact⟨j+1,_,[]++[y],UV,.inr ⟨_,rfl,Yo,Wl⟩,J,KY,WF,rfl⟩
    ·have N:(g=st.aJ 55)=False:=eq_false WF
     refine Bp (st':=?_) ?_ ((ol v.B).length-(j+1)) WF ?_
     rotate_left
     ·simp only[Z8,seval,D,u,N,A,q0,h.sd.fL,Kj,M,hw,Hf _ _ _ _ nL];rfl
     ·exact⟨j+1,_,L++[y],UV,.inr ⟨_,rfl,Yo,Wl⟩,J,KY,WF,rfl⟩
   ·rcases G with ⟨rfl,rfl⟩|⟨g,rfl,hg,u⟩
    ·simp at hj;omega
    ·refine aFR (e:=.exit 0) (st':=?_) ?_ qe ?_
     rotate_left
     ·simp only[Z8,seval,D,A,h.sd.fL];rfl
     ·exact⟨rfl,g,L,by simp only[E8,seval,D,u],hL,WF⟩
  ·exact⟨0,_,[],qz,.inl ⟨rfl,rfl⟩,qe,rfl,WF,WF⟩
  ·rintro e st ⟨rfl,g,L,D,hL,hlL⟩
   have nL:bg L.length:=WF
   have z:(0:Int)<=0/\(0:Int)<(L.length:Int)/\1<=L.length:=WF
   have p:dE (bD L) 0 [ac 4611686018427387904] 1=bD (L.set 0 4611686018427387904):=by
    cases L<;>grind [dE,bD,qY]
   obtain⟨d,l⟩:∃d,(k.fdiv (2 ^ min 12 i64.bits)).tmod 16=d:=⟨_,rfl⟩
   rcases (show d=0\/d=1\/(d == 0)=false/\(d == 1)=false from qg) with e|e|e
   all_goals
    simp only[Z8,seval,D,l,e,Hf _ _ _ _ nL,z,p,Int.toNat_zero,Nat.zero_mul];exact⟨_,by apply jE;rfl;all_goals simp only[aI,Z8,seval,D,dC,Wd,eG,zA,sB]<;>rfl,⟨C,_⟩,_,rfl,by first|rfl|(rw[show L.length=(L.set 0 4611686018427387904).length from qe];rfl),qg,by grind [Rg],rC⟩
end Go.Ab.Tryz
