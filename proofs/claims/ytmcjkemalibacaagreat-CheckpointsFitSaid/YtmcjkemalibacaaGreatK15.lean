/-
  Part 15 of the proof: an evaluator of programs, its soundness, and what functions of this program compute.
-/
import Derived.Test.YtmcjkemalibacaaGreatK14
import Derived.Test.YtmcjkemalibacaaGreatK12
set_option linter.all false
set_option maxRecDepth 20000
set_option maxHeartbeats 40000000
namespace Go.Ab.Tryz
open Classical Go.Proofs Go.Ab
def kU:Code→Code
 | .loop b=>.loop b
 | .seq a b=>match kU a with
   | .skip=>kU b
   | c=>c
 | .cond _ a b=>match kU a with
   | .skip=>kU b
   | c=>c
 | .block _ b=>kU b
 | _=>.skip
noncomputable def Br:Code:=kU (Tryz.f203.body.getD .skip)
def aR6 (s:aL) (v:SV) (q:Int) (m:Nat) (st:St):Prop:=∃(S0:aL) (w:SV) (X:AV) (R:List cN) (a g:Nat),((st).env 2=.ptr 2 0 0∧(st).heap 2 0=some (.cells (aA (mU S0 X)))∧(st).env 4=.ptr 4 0 0∧(st).heap 4 0=some (.cells (aA gA))∧(st).env 9=.own a g∧(st).heap a g=some (.row 27 32 R.length (gZ R))∧(st).env 10=.v (.int .i64 (CL w)))∧((a=66∧g=0)∨(a=105∧g<st.aT 105))∧(X=ov aG w.O∨∃g' L,w.O=some L∧X=.own 91 g'∧g'<st.aT 91∧st.heap 91 g'=some (.row 74 238 L.length (aG L)))∧GI S0 w q∧RG S0 w∧S0.cFg=s.cFg∧R.length+(ol w.O).length≤1+(ol v.O).length∧m=(ol w.O).length
def G4 (s:aL) (v:SV) (q:Int) (e:Ex) (st:St):Prop:=e=.exit 0∧∃(S0:aL) (w:SV) (X:AV) (R:List cN) (a g:Nat),(st.env 2=.ptr 2 0 0∧st.heap 2 0=some (.cells (aA (mU S0 X)))∧st.env 4=.ptr 4 0 0∧st.heap 4 0=some (.cells (aA gA))∧st.env 9=.own a g∧st.heap a g=some (.row 27 32 R.length (gZ R)))∧a≠4∧(X=ov aG w.O∨∃g' L,w.O=some L∧X=.own 91 g'∧st.heap 91 g'=some (.row 74 238 L.length (aG L)))∧GI S0 w q∧RG S0 w∧S0.cFg=s.cFg∧R.length≤1+(ol v.O).length
theorem HW {s:aL} {v:SV} {q:Int} (nb:((ol v.O).length:Int)≤64) {m:Nat} {st:St} (hs:aR6 s v q m st):∃e st',zJ Tryz.prog Br st=some (e,st')∧G4 s v q e st':=by
 have key:∃r,cT (zJ Tryz.prog Br st) some=some r∧G4 s v q r.1 r.2:=by
  unfold Br;simp only[Tryz.f203,Option.getD_some,kU];refine cC (fun m st=>∃(S0:aL) (w:SV) (X:AV) (R:List cN) (a g:Nat),((st).env 2=.ptr 2 0 0∧(st).heap 2 0=some (.cells (aA (mU S0 X)))∧(st).env 4=.ptr 4 0 0∧(st).heap 4 0=some (.cells (aA gA))∧(st).env 9=.own a g∧(st).heap a g=some (.row 27 32 R.length (gZ R))∧(st).env 10=.v (.int .i64 (CL w)))∧((a=66∧g=0)∨(a=105∧g<st.aT 105))∧(X=ov aG w.O∨∃g' L,w.O=some L∧X=.own 91 g'∧g'<st.aT 91∧st.heap 91 g'=some (.row 74 238 L.length (aG L)))∧GI S0 w q∧RG S0 w∧S0.cFg=s.cFg∧R.length+(ol w.O).length≤1+(ol v.O).length∧m=(ol w.O).length) (fun e st=>e=.exit 0∧∃(S0:aL) (w:SV) (X:AV) (R:List cN) (a g:Nat),(st.env 2=.ptr 2 0 0∧st.heap 2 0=some (.cells (aA (mU S0 X)))∧st.env 4=.ptr 4 0 0∧st.heap 4 0=some (.cells (aA gA))∧st.env 9=.own a g∧st.heap a g=some (.row 27 32 R.length (gZ R)))∧a≠4∧(X=ov aG w.O∨∃g' L,w.O=some L∧X=.own 91 g'∧st.heap 91 g'=some (.row 74 238 L.length (aG L)))∧GI S0 w q∧RG S0 w∧S0.cFg=s.cFg∧R.length≤1+(ol v.O).length) m ?step ?start ?rest
  case start=>exact hs
  case rest=>exact fun e st h=>⟨_,rfl,h⟩
  case step =>
   clear hs
   rintro m st ⟨S0,w,X,R,a,g,hI,HT,hX,hG,oS,hC,hR,hm⟩
   have hlO:=hG.nO
   have hlB:=hG.NG
   by_cases aY:0≤CL w
   case neg =>
    have hI':=hI
    have hX':X=ov aG w.O∨∃g' L,w.O=some L∧X=.own 91 g'∧st.heap 91 g'=some (.row 74 238 L.length (aG L)):=hX.imp id fun ⟨g',L,h1,h2,_,h4⟩=>⟨g',L,h1,h2,h4⟩
    apply oT (.exit 0)
    ·simp only[Z8,seval,hI,aY];rfl
    ·exact⟨rfl,S0,w,X,R,a,g,by simp only[E8,seval,hI],by omega,by simpa only[E8,seval] using hX',hG,oS,hC,by omega⟩
   obtain⟨k,hk,hkp,hkw⟩:∃k:Nat,k<(ol w.O).length∧0≤aN w.ns (gx eA (ol w.O) k).parent∧CL w=k:=by
    rcases rD (fun k=>0≤aN w.ns (gx eA (ol w.O) k).parent) (ol w.O).length with ⟨e,_⟩|⟨k,h1,h2,_,h3⟩
    ·have:CL w=-1:=e;omega
    ·exact⟨k,h1,h2,h3⟩
   rw[hkw] at hI aY;have q0:(0:Int)≤k:=by omega
   have q1:(k:Int)<((ol w.O).length:Int):=by omega
   have q2:(k:Int)≤((ol w.O).length:Int):=by omega
   have q3:(0:Int)≤((k+1:Nat):Int):=by omega
   have q4:((k+1:Nat):Int)≤((ol w.O).length:Int):=by omega
   have hw:IntKind.i64.wrap ((k:Int)+1)=((k+1:Nat):Int):=by rw[mT _ (by omega) (by omega)];omega
   obtain⟨bb,xL⟩:∃bb,gx eA (ol w.O) (k:Int)=bb:=⟨_,rfl⟩
   have n1:((((ol w.O).take k).length:Nat):Int)<1000000:=by rw[List.length_take];omega
   have n2:((((ol w.O).drop (k+1)).length:Nat):Int)<1000000:=by rw[List.length_drop];omega
   obtain⟨LL,CB⟩:∃LL,(ol w.O).take k++(ol w.O).drop (k+1)=LL:=⟨_,rfl⟩
   have nl:LL.length+1=(ol w.O).length:=by rw[← CB,List.length_append,List.length_take,List.length_drop];omega
   have hmem:∀b∈LL,b∈ol w.O:=fun b hb=>by rw[← CB] at hb;exact (List.mem_append.1 hb).elim List.mem_of_mem_take List.mem_of_mem_drop
   have nR:(R.length:Int)<1000000:=by omega
   have hbm:bb∈ol w.O:=by rw[← xL];exact oO q0 q1
   have e1:ol (w.O.map (·.take k))=(ol w.O).take k:=by cases w.O<;>simp[ol]
   have e2:ol (w.O.map (·.drop (k+1)))=(ol w.O).drop (k+1):=by cases w.O<;>simp[ol]
   by_cases hz:LL=[]
   ·skip
    have hT:((ol w.O).take k).length=0:=by have:=congrArg List.length CB;rw[hz,List.length_append] at this;simp only[List.length_nil] at this;omega
    have hD:((ol w.O).drop (k+1)).length=0:=by have:=congrArg List.length CB;rw[hz,List.length_append] at this;simp only[List.length_nil] at this;omega
    have yF:(ol w.O).length=1:=by rw[hz] at nl;simpa using nl.symm
    have On:=hG.VA none (by show ((0:Nat):Int)≤_;omega)
    have Dm:RG (mU S0 (ov aG none)) { w with O:=none }:=oS.VA none (ov aG none) (fun b hb=>by cases hb) nofun
    have Yn:∀(st:St) (d:Option Nat),aM (aB Tryz.prog) 52 [.agg (aA (mU S0 (.v (.slice none 0 0)))),.agg (aP bb)] st d=_:=k52 On.sd On.up On.sp bb
    have Kw:∀(st:St) (d:Option Nat),aM (aB Tryz.prog) 218 [.agg (aA (mU S0 (.v (.slice none 0 0))))] st d=_:=NC On.sd
    have hO2:(ol (lL (mU S0 (ov aG none)) { w with O:=none } bb).O).length≤0:=VC _ _ _
    obtain⟨c,hc⟩:∃c,Ku (mU S0 (ov aG none)) { w with O:=none } bb=c:=⟨_,rfl⟩
    rw[hc] at Yn;by_cases qT:c=0
    ·rw[qT] at hc;have Ma:=On.ins hc
     have Dn:=Dm.ins (oS.or bb hbm) hc
     have NU:=(Bo (mU S0 (ov aG none)) { w with O:=none } bb).1
     have FV:∀(st:St) (d:Option Nat),fG (aB Tryz.prog) 217 [.agg (aA (mU S0 (.v (.slice none 0 0)))),.agg (aP bb)] st d=_:=aMT On hc
     have pU:=NC Ma.sd
     obtain⟨S2,hS2⟩:∃S2,tC (mU S0 (ov aG none)) { w with O:=none } bb=S2:=⟨_,rfl⟩
     rw[hS2] at FV Ma Dn pU NU
     have Mb:=tE Ma.sd
     simp only[mU] at Yn Kw FV hI;rcases hX with rfl|⟨g',L,hL,rfl,hg1,NV⟩
     ·rcases HT with ⟨rfl,rfl⟩|⟨rfl,hg⟩
      ·refine pD (st':=?_) ?_ ((ol (lL (mU S0 (ov aG none)) { w with O:=none } bb).O).length) (by omega) ?_
       rotate_left
       ·simp only[Z8,seval,hI,aY,q0,q1,q2,q3,q4,hw,xL,Int.toNat_natCast,iM,iN,nU,Option.isSome_some,Option.map_some,Option.some.injEq,hT,hD,Yn,Kw,e1,e2,bt qT,FV,pU,oU _ _ _ _ nR];rfl
       ·refine⟨S2,lL (mU S0 (ov aG none)) { w with O:=none } bb,_,R++[bb.root],105,st.aT 105, ?_,.inr ⟨rfl,by simp only[E8,seval]<;>omega⟩,.inl rfl,Ma,Dn,NU.trans hC, ?_,rfl⟩
        ·rw[Mb];simp only[E8,seval,hI]<;>rfl
        ·rw[List.length_append,List.length_cons,List.length_nil];omega
      ·have vC:(g=st.aT 105)=False:=eq_false (by omega)
       refine pD (st':=?_) ?_ ((ol (lL (mU S0 (ov aG none)) { w with O:=none } bb).O).length) (by omega) ?_
       rotate_left
       ·simp only[Z8,seval,hI,aY,q0,q1,q2,q3,q4,hw,xL,Int.toNat_natCast,iM,iN,nU,Option.isSome_some,Option.map_some,Option.some.injEq,hT,hD,Yn,Kw,e1,e2,vC,bt qT,FV,pU,oU _ _ _ _ nR];rfl
       ·refine⟨S2,lL (mU S0 (ov aG none)) { w with O:=none } bb,_,R++[bb.root],105,st.aT 105, ?_,.inr ⟨rfl,by simp only[E8,seval]<;>omega⟩,.inl rfl,Ma,Dn,NU.trans hC, ?_,rfl⟩
        ·rw[Mb];simp only[E8,seval,hI]<;>rfl
        ·rw[List.length_append,List.length_cons,List.length_nil];omega
     ·have eL:ol w.O=L:=by rw[hL];rfl
      have NX:(g'=st.aT 91)=False:=eq_false (by omega)
      obtain⟨X1,NY,Hu⟩:=Rp (L:=L) (k:=k) (by rw[← eL];omega) 91 g'
      obtain⟨X2,NZ,Hv⟩:=Dj (L:=L) (k:=k+1) (by rw[← eL];omega) 91 g'
      have Yo:(k:Int)<(L.length:Int):=by rw[← eL];omega
      have Yp:=xA (T:=74) (n:=L.length) (k:=238) q0 Yo OA (by decide) (by decide)
      simp only[Int.toNat_natCast] at Yp;subst eL;rcases HT with ⟨rfl,rfl⟩|⟨rfl,hg⟩
      ·refine pD (st':=?_) ?_ ((ol (lL (mU S0 (ov aG none)) { w with O:=none } bb).O).length) (by omega) ?_
       rotate_left
       ·simp only[Z8,seval,hI,aY,q0,q1,q2,q3,q4,hw,xL,Int.toNat_natCast,iM,iN,nU,Option.isSome_some,Option.map_some,Option.some.injEq,hT,hD,Yn,Kw,NV,NX,NY _ _,Hu,NZ _ _,Hv,Yo,Yp,bt qT,FV,pU,oU _ _ _ _ nR];rfl
       ·refine⟨S2,lL (mU S0 (ov aG none)) { w with O:=none } bb,_,R++[bb.root],105,st.aT 105, ?_,.inr ⟨rfl,by simp only[E8,seval]<;>omega⟩,.inl rfl,Ma,Dn,NU.trans hC, ?_,rfl⟩
        ·rw[Mb];simp only[E8,seval,hI]<;>rfl
        ·rw[List.length_append,List.length_cons,List.length_nil];omega
      ·have vC:(g=st.aT 105)=False:=eq_false (by omega)
       refine pD (st':=?_) ?_ ((ol (lL (mU S0 (ov aG none)) { w with O:=none } bb).O).length) (by omega) ?_
       rotate_left
       ·simp only[Z8,seval,hI,aY,q0,q1,q2,q3,q4,hw,xL,Int.toNat_natCast,iM,iN,nU,Option.isSome_some,Option.map_some,Option.some.injEq,hT,hD,Yn,Kw,NV,NX,NY _ _,Hu,NZ _ _,Hv,Yo,Yp,vC,bt qT,FV,pU,oU _ _ _ _ nR];rfl
       ·refine⟨S2,lL (mU S0 (ov aG none)) { w with O:=none } bb,_,R++[bb.root],105,st.aT 105, ?_,.inr ⟨rfl,by simp only[E8,seval]<;>omega⟩,.inl rfl,Ma,Dn,NU.trans hC, ?_,rfl⟩
        ·rw[Mb];simp only[E8,seval,hI]<;>rfl
        ·rw[List.length_append,List.length_cons,List.length_nil];omega
    ·simp only[mU] at Yn Kw hI;rcases hX with rfl|⟨g',L,hL,rfl,hg1,NV⟩
     ·rcases HT with ⟨rfl,rfl⟩|⟨rfl,hg⟩
      ·refine pD (st':=?_) ?_ 0 (by omega) ?_
       rotate_left
       ·simp only[Z8,seval,hI,aY,q0,q1,q2,q3,q4,hw,xL,Int.toNat_natCast,iM,iN,nU,Option.isSome_some,Option.map_some,Option.some.injEq,hT,hD,Yn,Kw,e1,e2,bf qT];rfl
       ·refine⟨(mU S0 (ov aG none)),{ w with O:=none },ov aG none,R,_,_, ?_,.inl ⟨rfl,rfl⟩,.inl rfl,On,Dm,hC,by show R.length+0≤_;omega,rfl⟩
        simp only[E8,seval,hI]<;>rfl
      ·have vC:(g=st.aT 105)=False:=eq_false (by omega)
       refine pD (st':=?_) ?_ 0 (by omega) ?_
       rotate_left
       ·simp only[Z8,seval,hI,aY,q0,q1,q2,q3,q4,hw,xL,Int.toNat_natCast,iM,iN,nU,Option.isSome_some,Option.map_some,Option.some.injEq,hT,hD,Yn,Kw,e1,e2,vC,bf qT];rfl
       ·refine⟨(mU S0 (ov aG none)),{ w with O:=none },ov aG none,R,_,_, ?_,.inr ⟨rfl,by simp only[E8,seval]<;>omega⟩,.inl rfl,On,Dm,hC,by show R.length+0≤_;omega,rfl⟩
        simp only[E8,seval,hI]<;>rfl
     ·have eL:ol w.O=L:=by rw[hL];rfl
      have NX:(g'=st.aT 91)=False:=eq_false (by omega)
      obtain⟨X1,NY,Hu⟩:=Rp (L:=L) (k:=k) (by rw[← eL];omega) 91 g'
      obtain⟨X2,NZ,Hv⟩:=Dj (L:=L) (k:=k+1) (by rw[← eL];omega) 91 g'
      have Yo:(k:Int)<(L.length:Int):=by rw[← eL];omega
      have Yp:=xA (T:=74) (n:=L.length) (k:=238) q0 Yo OA (by decide) (by decide)
      simp only[Int.toNat_natCast] at Yp;subst eL;rcases HT with ⟨rfl,rfl⟩|⟨rfl,hg⟩
      ·refine pD (st':=?_) ?_ 0 (by omega) ?_
       rotate_left
       ·simp only[Z8,seval,hI,aY,q0,q1,q2,q3,q4,hw,xL,Int.toNat_natCast,iM,iN,nU,Option.isSome_some,Option.map_some,Option.some.injEq,hT,hD,Yn,Kw,NV,NX,NY _ _,Hu,NZ _ _,Hv,Yo,Yp,bf qT];rfl
       ·refine⟨(mU S0 (ov aG none)),{ w with O:=none },ov aG none,R,_,_, ?_,.inl ⟨rfl,rfl⟩,.inl rfl,On,Dm,hC,by show R.length+0≤_;omega,rfl⟩
        simp only[E8,seval,hI]<;>rfl
      ·have vC:(g=st.aT 105)=False:=eq_false (by omega)
       refine pD (st':=?_) ?_ 0 (by omega) ?_
       rotate_left
       ·simp only[Z8,seval,hI,aY,q0,q1,q2,q3,q4,hw,xL,Int.toNat_natCast,iM,iN,nU,Option.isSome_some,Option.map_some,Option.some.injEq,hT,hD,Yn,Kw,NV,NX,NY _ _,Hu,NZ _ _,Hv,Yo,Yp,vC,bf qT];rfl
       ·refine⟨(mU S0 (ov aG none)),{ w with O:=none },ov aG none,R,_,_, ?_,.inr ⟨rfl,by simp only[E8,seval]<;>omega⟩,.inl rfl,On,Dm,hC,by show R.length+0≤_;omega,rfl⟩
        simp only[E8,seval,hI]<;>rfl
   have CO:(LL.length=0)=False:=eq_false fun h=>hz (List.length_eq_zero_iff.1 h)
   have On:=hG.VA (some LL) (by show ((LL.length:Nat):Int)≤_;omega)
   have sP:=aR5 hG.sd On bb 91
   have oV:=aMU hG.sd On 91
   have hO2:(ol (lL (mU S0 (ov aG (some LL))) { w with O:=some LL } bb).O).length≤LL.length:=VC _ _ _
   obtain⟨c,hc⟩:∃c,Ku (mU S0 (ov aG (some LL))) { w with O:=some LL } bb=c:=⟨_,rfl⟩
   rw[hc] at sP
   have Dm:=oS.VA (some LL) (ov aG (some LL)) (fun b hb=>oS.or b (hmem b hb)) (fun e=>hz (by injection e))
   have eO:∀x,mU (mU S0 (ov aG (some LL))) x=mU S0 x:=fun x=>rfl
   by_cases qC:k=0
   ·have hT:((ol w.O).take k).length=0:=by rw[qC];rfl
    have hD:(ol w.O).drop (k+1)=LL:=by rw[← CB,qC];rfl
    have n3:((LL.length:Nat):Int)<1000000:=by omega
    by_cases qT:c=0
    · -- taken in
     rw[qT] at hc;have Ma:=On.ins hc
     have Dn:=Dm.ins (oS.or bb hbm) hc
     have NU:=(Bo (mU S0 (ov aG (some LL))) { w with O:=some LL } bb).1
     have vY:=aFP hG.sd On hc 91
     have pU:=NC Ma.sd
     obtain⟨S2,hS2⟩:∃S2,tC (mU S0 (ov aG (some LL))) { w with O:=some LL } bb=S2:=⟨_,rfl⟩
     rw[hS2] at vY Ma Dn pU NU
     have Mb:=tE Ma.sd
     have HX:(ol (lL (mU S0 (ov aG (some LL))) { w with O:=some LL } bb).O).length<m:=by omega
     have HY:(R++[bb.root]).length+(ol (lL (mU S0 (ov aG (some LL))) { w with O:=some LL } bb).O).length≤1+(ol v.O).length:=by rw[List.length_append,List.length_cons,List.length_nil];omega
     simp only[mU] at sP oV vY hI
     rcases hX with rfl|⟨g',L,hL,rfl,hg1,NV⟩
     · -- a list
      rcases HT with ⟨rfl,rfl⟩|⟨rfl,hg⟩
      · -- 66
       refine pD (st':=?_) ?_ ((ol (lL (mU S0 (ov aG (some LL))) { w with O:=some LL } bb).O).length) HX ?_
       rotate_left
       ·simp only[Z8,seval,hI,aY,q0,q1,q2,q3,q4,hw,xL,Int.toNat_natCast,iV _ n3,iM,iN,nU,Option.isSome_some,Option.map_some,Option.some.injEq,hT,CO,hD,sP,oV,e1,e2,bt qT,vY,pU,oU _ _ _ _ nR];rfl
       ·refine⟨S2,lL (mU S0 (ov aG (some LL))) { w with O:=some LL } bb,_,R++[bb.root],105,st.aT 105, ?_,.inr ⟨rfl,by simp only[E8,seval]<;>omega⟩,.inl rfl,Ma,Dn,NU.trans hC, ?_,rfl⟩
        ·rw[Mb];simp only[E8,seval,hI]<;>rfl
        ·exact HY
      · -- 105
       have vC:(g=st.aT 105)=False:=eq_false (by omega)
       refine pD (st':=?_) ?_ ((ol (lL (mU S0 (ov aG (some LL))) { w with O:=some LL } bb).O).length) HX ?_
       rotate_left
       ·simp only[Z8,seval,hI,aY,q0,q1,q2,q3,q4,hw,xL,Int.toNat_natCast,iV _ n3,iM,iN,nU,Option.isSome_some,Option.map_some,Option.some.injEq,hT,CO,hD,sP,oV,e1,e2,vC,bt qT,vY,pU,oU _ _ _ _ nR];rfl
       ·refine⟨S2,lL (mU S0 (ov aG (some LL))) { w with O:=some LL } bb,_,R++[bb.root],105,st.aT 105, ?_,.inr ⟨rfl,by simp only[E8,seval]<;>omega⟩,.inl rfl,Ma,Dn,NU.trans hC, ?_,rfl⟩
        ·rw[Mb];simp only[E8,seval,hI]<;>rfl
        ·exact HY
     · -- a row of its own
      have eL:ol w.O=L:=by rw[hL];rfl
      have NX:(g'=st.aT 91)=False:=eq_false (by omega)
      obtain⟨X1,NY,Hu⟩:=Rp (L:=L) (k:=k) (by rw[← eL];omega) 91 g'
      obtain⟨X2,NZ,Hv⟩:=Dj (L:=L) (k:=k+1) (by rw[← eL];omega) 91 g'
      have Yo:(k:Int)<(L.length:Int):=by rw[← eL];omega
      have Yp:=xA (T:=74) (n:=L.length) (k:=238) q0 Yo OA (by decide) (by decide)
      simp only[Int.toNat_natCast] at Yp;subst eL;rcases HT with ⟨rfl,rfl⟩|⟨rfl,hg⟩
      · -- 66
       refine pD (st':=?_) ?_ ((ol (lL (mU S0 (ov aG (some LL))) { w with O:=some LL } bb).O).length) HX ?_
       rotate_left
       ·simp only[Z8,seval,hI,aY,q0,q1,q2,q3,q4,hw,xL,Int.toNat_natCast,iV _ n3,iM,iN,nU,Option.isSome_some,Option.map_some,Option.some.injEq,hT,CO,hD,sP,oV,NV,NX,NY _ _,Hu,NZ _ _,Hv,Yo,Yp,bt qT,vY,pU,oU _ _ _ _ nR];rfl
       ·refine⟨S2,lL (mU S0 (ov aG (some LL))) { w with O:=some LL } bb,_,R++[bb.root],105,st.aT 105, ?_,.inr ⟨rfl,by simp only[E8,seval]<;>omega⟩,.inl rfl,Ma,Dn,NU.trans hC, ?_,rfl⟩
        ·rw[Mb];simp only[E8,seval,hI]<;>rfl
        ·exact HY
      · -- 105
       have vC:(g=st.aT 105)=False:=eq_false (by omega)
       refine pD (st':=?_) ?_ ((ol (lL (mU S0 (ov aG (some LL))) { w with O:=some LL } bb).O).length) HX ?_
       rotate_left
       ·simp only[Z8,seval,hI,aY,q0,q1,q2,q3,q4,hw,xL,Int.toNat_natCast,iV _ n3,iM,iN,nU,Option.isSome_some,Option.map_some,Option.some.injEq,hT,CO,hD,sP,oV,NV,NX,NY _ _,Hu,NZ _ _,Hv,Yo,Yp,vC,bt qT,vY,pU,oU _ _ _ _ nR];rfl
       ·refine⟨S2,lL (mU S0 (ov aG (some LL))) { w with O:=some LL } bb,_,R++[bb.root],105,st.aT 105, ?_,.inr ⟨rfl,by simp only[E8,seval]<;>omega⟩,.inl rfl,Ma,Dn,NU.trans hC, ?_,rfl⟩
        ·rw[Mb];simp only[E8,seval,hI]<;>rfl
        ·exact HY
    · -- left out
     have HX:LL.length<m:=by omega
     have HY:R.length+LL.length≤1+(ol v.O).length:=by omega
     simp only[mU] at sP oV hI
     rcases hX with rfl|⟨g',L,hL,rfl,hg1,NV⟩
     · -- a list
      rcases HT with ⟨rfl,rfl⟩|⟨rfl,hg⟩
      · -- 66
       refine pD (st':=?_) ?_ (LL.length) HX ?_
       rotate_left
       ·simp only[Z8,seval,hI,aY,q0,q1,q2,q3,q4,hw,xL,Int.toNat_natCast,iV _ n3,iM,iN,nU,Option.isSome_some,Option.map_some,Option.some.injEq,hT,CO,hD,sP,oV,e1,e2,bf qT];rfl
       ·refine⟨(mU S0 (ov aG (some LL))),{ w with O:=some LL },_,R,_,_, ?_,.inl ⟨rfl,rfl⟩,.inr ⟨st.aT 91,_,rfl,rfl,by simp only[E8,seval]<;>omega,by simp only[E8,seval]<;>rfl⟩,On,Dm,hC,HY,rfl⟩
        simp only[E8,seval,hI]<;>rfl
      · -- 105
       have vC:(g=st.aT 105)=False:=eq_false (by omega)
       refine pD (st':=?_) ?_ (LL.length) HX ?_
       rotate_left
       ·simp only[Z8,seval,hI,aY,q0,q1,q2,q3,q4,hw,xL,Int.toNat_natCast,iV _ n3,iM,iN,nU,Option.isSome_some,Option.map_some,Option.some.injEq,hT,CO,hD,sP,oV,e1,e2,vC,bf qT];rfl
       ·refine⟨(mU S0 (ov aG (some LL))),{ w with O:=some LL },_,R,_,_, ?_,.inr ⟨rfl,by simp only[E8,seval]<;>omega⟩,.inr ⟨st.aT 91,_,rfl,rfl,by simp only[E8,seval]<;>omega,by simp only[E8,seval]<;>rfl⟩,On,Dm,hC,HY,rfl⟩
        simp only[E8,seval,hI]<;>rfl
     · -- a row of its own
      have eL:ol w.O=L:=by rw[hL];rfl
      have NX:(g'=st.aT 91)=False:=eq_false (by omega)
      obtain⟨X1,NY,Hu⟩:=Rp (L:=L) (k:=k) (by rw[← eL];omega) 91 g'
      obtain⟨X2,NZ,Hv⟩:=Dj (L:=L) (k:=k+1) (by rw[← eL];omega) 91 g'
      have Yo:(k:Int)<(L.length:Int):=by rw[← eL];omega
      have Yp:=xA (T:=74) (n:=L.length) (k:=238) q0 Yo OA (by decide) (by decide)
      simp only[Int.toNat_natCast] at Yp;subst eL;rcases HT with ⟨rfl,rfl⟩|⟨rfl,hg⟩
      · -- 66
       refine pD (st':=?_) ?_ (LL.length) HX ?_
       rotate_left
       ·simp only[Z8,seval,hI,aY,q0,q1,q2,q3,q4,hw,xL,Int.toNat_natCast,iV _ n3,iM,iN,nU,Option.isSome_some,Option.map_some,Option.some.injEq,hT,CO,hD,sP,oV,NV,NX,NY _ _,Hu,NZ _ _,Hv,Yo,Yp,bf qT];rfl
       ·refine⟨(mU S0 (ov aG (some LL))),{ w with O:=some LL },_,R,_,_, ?_,.inl ⟨rfl,rfl⟩,.inr ⟨st.aT 91,_,rfl,rfl,by simp only[E8,seval]<;>omega,by simp only[E8,seval]<;>rfl⟩,On,Dm,hC,HY,rfl⟩
        simp only[E8,seval,hI]<;>rfl
      · -- 105
       have vC:(g=st.aT 105)=False:=eq_false (by omega)
       refine pD (st':=?_) ?_ (LL.length) HX ?_
       rotate_left
       ·simp only[Z8,seval,hI,aY,q0,q1,q2,q3,q4,hw,xL,Int.toNat_natCast,iV _ n3,iM,iN,nU,Option.isSome_some,Option.map_some,Option.some.injEq,hT,CO,hD,sP,oV,NV,NX,NY _ _,Hu,NZ _ _,Hv,Yo,Yp,vC,bf qT];rfl
       ·refine⟨(mU S0 (ov aG (some LL))),{ w with O:=some LL },_,R,_,_, ?_,.inr ⟨rfl,by simp only[E8,seval]<;>omega⟩,.inr ⟨st.aT 91,_,rfl,rfl,by simp only[E8,seval]<;>omega,by simp only[E8,seval]<;>rfl⟩,On,Dm,hC,HY,rfl⟩
        simp only[E8,seval,hI]<;>rfl
   have hT:(((ol w.O).take k).length=0)=False:=eq_false (by rw[List.length_take];omega)
   by_cases qT:c=0
   · -- taken in
    rw[qT] at hc;have Ma:=On.ins hc
    have Dn:=Dm.ins (oS.or bb hbm) hc
    have NU:=(Bo (mU S0 (ov aG (some LL))) { w with O:=some LL } bb).1
    have vY:=aFP hG.sd On hc 91
    have pU:=NC Ma.sd
    obtain⟨S2,hS2⟩:∃S2,tC (mU S0 (ov aG (some LL))) { w with O:=some LL } bb=S2:=⟨_,rfl⟩
    rw[hS2] at vY Ma Dn pU NU
    have Mb:=tE Ma.sd
    have HX:(ol (lL (mU S0 (ov aG (some LL))) { w with O:=some LL } bb).O).length<m:=by omega
    have HY:(R++[bb.root]).length+(ol (lL (mU S0 (ov aG (some LL))) { w with O:=some LL } bb).O).length≤1+(ol v.O).length:=by rw[List.length_append,List.length_cons,List.length_nil];omega
    simp only[mU] at sP oV vY hI
    rcases hX with rfl|⟨g',L,hL,rfl,hg1,NV⟩
    · -- a list
     rcases HT with ⟨rfl,rfl⟩|⟨rfl,hg⟩
     · -- 66
      refine pD (st':=?_) ?_ ((ol (lL (mU S0 (ov aG (some LL))) { w with O:=some LL } bb).O).length) HX ?_
      rotate_left
      ·simp only[Z8,seval,hI,aY,q0,q1,q2,q3,q4,hw,xL,Int.toNat_natCast,iV _ n1,rT _ _ _ _ n1 n2,iM,iN,nU,Option.isSome_some,Option.map_some,Option.some.injEq,hT,CO,CB,sP,oV,e1,e2,bt qT,vY,pU,oU _ _ _ _ nR];rfl
      ·refine⟨S2,lL (mU S0 (ov aG (some LL))) { w with O:=some LL } bb,_,R++[bb.root],105,st.aT 105, ?_,.inr ⟨rfl,by simp only[E8,seval]<;>omega⟩,.inl rfl,Ma,Dn,NU.trans hC, ?_,rfl⟩
       ·rw[Mb];simp only[E8,seval,hI]<;>rfl
       ·exact HY
     · -- 105
      have vC:(g=st.aT 105)=False:=eq_false (by omega)
      refine pD (st':=?_) ?_ ((ol (lL (mU S0 (ov aG (some LL))) { w with O:=some LL } bb).O).length) HX ?_
      rotate_left
      ·simp only[Z8,seval,hI,aY,q0,q1,q2,q3,q4,hw,xL,Int.toNat_natCast,iV _ n1,rT _ _ _ _ n1 n2,iM,iN,nU,Option.isSome_some,Option.map_some,Option.some.injEq,hT,CO,CB,sP,oV,e1,e2,vC,bt qT,vY,pU,oU _ _ _ _ nR];rfl
      ·refine⟨S2,lL (mU S0 (ov aG (some LL))) { w with O:=some LL } bb,_,R++[bb.root],105,st.aT 105, ?_,.inr ⟨rfl,by simp only[E8,seval]<;>omega⟩,.inl rfl,Ma,Dn,NU.trans hC, ?_,rfl⟩
       ·rw[Mb];simp only[E8,seval,hI]<;>rfl
       ·exact HY
    · -- a row of its own
     have eL:ol w.O=L:=by rw[hL];rfl
     have NX:(g'=st.aT 91)=False:=eq_false (by omega)
     obtain⟨X1,NY,Hu⟩:=Rp (L:=L) (k:=k) (by rw[← eL];omega) 91 g'
     obtain⟨X2,NZ,Hv⟩:=Dj (L:=L) (k:=k+1) (by rw[← eL];omega) 91 g'
     have Yo:(k:Int)<(L.length:Int):=by rw[← eL];omega
     have Yp:=xA (T:=74) (n:=L.length) (k:=238) q0 Yo OA (by decide) (by decide)
     simp only[Int.toNat_natCast] at Yp;subst eL;rcases HT with ⟨rfl,rfl⟩|⟨rfl,hg⟩
     · -- 66
      refine pD (st':=?_) ?_ ((ol (lL (mU S0 (ov aG (some LL))) { w with O:=some LL } bb).O).length) HX ?_
      rotate_left
      ·simp only[Z8,seval,hI,aY,q0,q1,q2,q3,q4,hw,xL,Int.toNat_natCast,iV _ n1,rT _ _ _ _ n1 n2,iM,iN,nU,Option.isSome_some,Option.map_some,Option.some.injEq,hT,CO,CB,sP,oV,NV,NX,NY _ _,Hu,NZ _ _,Hv,Yo,Yp,bt qT,vY,pU,oU _ _ _ _ nR];rfl
      ·refine⟨S2,lL (mU S0 (ov aG (some LL))) { w with O:=some LL } bb,_,R++[bb.root],105,st.aT 105, ?_,.inr ⟨rfl,by simp only[E8,seval]<;>omega⟩,.inl rfl,Ma,Dn,NU.trans hC, ?_,rfl⟩
       ·rw[Mb];simp only[E8,seval,hI]<;>rfl
       ·exact HY
     · -- 105
      have vC:(g=st.aT 105)=False:=eq_false (by omega)
      refine pD (st':=?_) ?_ ((ol (lL (mU S0 (ov aG (some LL))) { w with O:=some LL } bb).O).length) HX ?_
      rotate_left
      ·simp only[Z8,seval,hI,aY,q0,q1,q2,q3,q4,hw,xL,Int.toNat_natCast,iV _ n1,rT _ _ _ _ n1 n2,iM,iN,nU,Option.isSome_some,Option.map_some,Option.some.injEq,hT,CO,CB,sP,oV,NV,NX,NY _ _,Hu,NZ _ _,Hv,Yo,Yp,vC,bt qT,vY,pU,oU _ _ _ _ nR];rfl
      ·refine⟨S2,lL (mU S0 (ov aG (some LL))) { w with O:=some LL } bb,_,R++[bb.root],105,st.aT 105, ?_,.inr ⟨rfl,by simp only[E8,seval]<;>omega⟩,.inl rfl,Ma,Dn,NU.trans hC, ?_,rfl⟩
       ·rw[Mb];simp only[E8,seval,hI]<;>rfl
       ·exact HY
   · -- left out
    have HX:LL.length<m:=by omega
    have HY:R.length+LL.length≤1+(ol v.O).length:=by omega
    simp only[mU] at sP oV hI
    rcases hX with rfl|⟨g',L,hL,rfl,hg1,NV⟩
    · -- a list
     rcases HT with ⟨rfl,rfl⟩|⟨rfl,hg⟩
     · -- 66
      refine pD (st':=?_) ?_ (LL.length) HX ?_
      rotate_left
      ·simp only[Z8,seval,hI,aY,q0,q1,q2,q3,q4,hw,xL,Int.toNat_natCast,iV _ n1,rT _ _ _ _ n1 n2,iM,iN,nU,Option.isSome_some,Option.map_some,Option.some.injEq,hT,CO,CB,sP,oV,e1,e2,bf qT];rfl
      ·refine⟨(mU S0 (ov aG (some LL))),{ w with O:=some LL },_,R,_,_, ?_,.inl ⟨rfl,rfl⟩,.inr ⟨st.aT 91,_,rfl,rfl,by simp only[E8,seval]<;>omega,by simp only[E8,seval]<;>rfl⟩,On,Dm,hC,HY,rfl⟩
       simp only[E8,seval,hI]<;>rfl
     · -- 105
      have vC:(g=st.aT 105)=False:=eq_false (by omega)
      refine pD (st':=?_) ?_ (LL.length) HX ?_
      rotate_left
      ·simp only[Z8,seval,hI,aY,q0,q1,q2,q3,q4,hw,xL,Int.toNat_natCast,iV _ n1,rT _ _ _ _ n1 n2,iM,iN,nU,Option.isSome_some,Option.map_some,Option.some.injEq,hT,CO,CB,sP,oV,e1,e2,vC,bf qT];rfl
      ·refine⟨(mU S0 (ov aG (some LL))),{ w with O:=some LL },_,R,_,_, ?_,.inr ⟨rfl,by simp only[E8,seval]<;>omega⟩,.inr ⟨st.aT 91,_,rfl,rfl,by simp only[E8,seval]<;>omega,by simp only[E8,seval]<;>rfl⟩,On,Dm,hC,HY,rfl⟩
       simp only[E8,seval,hI]<;>rfl
    · -- a row of its own
     have eL:ol w.O=L:=by rw[hL];rfl
     have NX:(g'=st.aT 91)=False:=eq_false (by omega)
     obtain⟨X1,NY,Hu⟩:=Rp (L:=L) (k:=k) (by rw[← eL];omega) 91 g'
     obtain⟨X2,NZ,Hv⟩:=Dj (L:=L) (k:=k+1) (by rw[← eL];omega) 91 g'
     have Yo:(k:Int)<(L.length:Int):=by rw[← eL];omega
     have Yp:=xA (T:=74) (n:=L.length) (k:=238) q0 Yo OA (by decide) (by decide)
     simp only[Int.toNat_natCast] at Yp;subst eL;rcases HT with ⟨rfl,rfl⟩|⟨rfl,hg⟩
     · -- 66
      refine pD (st':=?_) ?_ (LL.length) HX ?_
      rotate_left
      ·simp only[Z8,seval,hI,aY,q0,q1,q2,q3,q4,hw,xL,Int.toNat_natCast,iV _ n1,rT _ _ _ _ n1 n2,iM,iN,nU,Option.isSome_some,Option.map_some,Option.some.injEq,hT,CO,CB,sP,oV,NV,NX,NY _ _,Hu,NZ _ _,Hv,Yo,Yp,bf qT];rfl
      ·refine⟨(mU S0 (ov aG (some LL))),{ w with O:=some LL },_,R,_,_, ?_,.inl ⟨rfl,rfl⟩,.inr ⟨st.aT 91,_,rfl,rfl,by simp only[E8,seval]<;>omega,by simp only[E8,seval]<;>rfl⟩,On,Dm,hC,HY,rfl⟩
       simp only[E8,seval,hI]<;>rfl
     · -- 105
      have vC:(g=st.aT 105)=False:=eq_false (by omega)
      refine pD (st':=?_) ?_ (LL.length) HX ?_
      rotate_left
      ·simp only[Z8,seval,hI,aY,q0,q1,q2,q3,q4,hw,xL,Int.toNat_natCast,iV _ n1,rT _ _ _ _ n1 n2,iM,iN,nU,Option.isSome_some,Option.map_some,Option.some.injEq,hT,CO,CB,sP,oV,NV,NX,NY _ _,Hu,NZ _ _,Hv,Yo,Yp,vC,bf qT];rfl
      ·refine⟨(mU S0 (ov aG (some LL))),{ w with O:=some LL },_,R,_,_, ?_,.inr ⟨rfl,by simp only[E8,seval]<;>omega⟩,.inr ⟨st.aT 91,_,rfl,rfl,by simp only[E8,seval]<;>omega,by simp only[E8,seval]<;>rfl⟩,On,Dm,hC,HY,rfl⟩
       simp only[E8,seval,hI]<;>rfl
 obtain⟨r,h,hq⟩:=key
 cases hx:zJ Tryz.prog Br st with
 | none=>rw[hx] at h;cases h
 | some y=>rw[hx] at h;simp only[cO,Option.some.injEq] at h;subst h;exact⟨y.1,y.2,rfl,hq⟩
theorem OB {s:aL} (h:1≤s.cFg.jL) {x y:Int} (hx:0≤x) (hxy:x≤y) (hy:y<18446744073709551616):wH s x≤wH s y:=by
 have e:∀z:Int,0≤z→z<18446744073709551616→wH s z=z / s.cFg.jL:=fun z h0 h1=>by
  unfold wH;rw[Int.tdiv_eq_ediv_of_nonneg h0];have:=Int.ediv_le_self s.cFg.jL h0
  exact wrap_u64 _ (Int.ediv_nonneg h0 (by omega)) (by omega)
 rw[e x hx (by omega),e y (by omega) hy]
 exact Int.ediv_le_ediv (by omega) hxy
theorem aC2 {acc:Bool × dP × dP} {n:Node} (h1:Rg acc.2.1.aE) (h2:Rg acc.2.2.aE) (hn:RB n.block):Rg (CJ acc n).2.1.aE∧Rg (CJ acc n).2.2.aE:=by
 unfold CJ;split
 ·exact⟨h1,h2⟩
 ·refine⟨?_, ?_⟩
  ·dsimp only;split
   ·exact hn.pj
   ·exact h1
  ·dsimp only;split
   ·exact hn.pf
   ·exact h2
theorem aC3 {ns:List Node} (h:∀n∈ns,RB n.block):Rg (zT ns).pj.aE∧Rg (zT ns).pf.aE:=by
 have key:∀(l:List Node) (acc:Bool × dP × dP),(∀n∈l,RB n.block)→Rg acc.2.1.aE→Rg acc.2.2.aE→Rg (l.foldl CJ acc).2.1.aE∧Rg (l.foldl CJ acc).2.2.aE:=by
  intro l;induction l with
  | nil=>intro acc _ h1 h2;exact⟨h1,h2⟩
  | cons n l ih =>
    intro acc hl h1 h2;have hs:=aC2 h1 h2 (hl n (List.mem_cons_self ..))
    exact ih _ (fun x hx=>hl x (List.mem_cons_of_mem _ hx)) hs.1 hs.2
 exact key ns _ h ⟨by show (0:Int)≤0;omega,by show (0:Int)<_;omega⟩ ⟨by show (0:Int)≤0;omega,by show (0:Int)<_;omega⟩
theorem Jr (s:aL) (X:AV):(wW s X).now=s.now:=rfl
theorem yX (s:aL) (X:AV):(wW s X).cF.early=X:=rfl
theorem Yq {s:aL} {v:SV} (h:SD s v) {L:List sG} (hL:∀x∈L,Flat x.eZ) (st:St) {g:Nat} (hh:st.heap 61 g=some (.row 87 67 L.length (dR L))):fO st (.agg (aA (wW s (.own 61 g))))=some (.agg (aA (wW s (ov dR (some L))))):=by
 have pJ:=h.fl
 have hx:=W7 L.length L hL
 unfold wW;simp only[bS,gJ,bP,hh,hx,cW,dU,pJ,cO];rfl
theorem aMV {call:Nat→List AV→Option AV} {inl:Nat→List AV→St→Option (AV × St)} {ops:Array Oper} {st:St} {T:Nat} {pos:String} {eU:Array Edge} (x:Array Operand) (y:Array Nat) :
 gT Tryz.prog true call inl ops ⟨some 80,.call ⟨.value (.func 44),x,y⟩,T,pos,eU,none⟩ st=cT (inl 44 (x.toList.map st.ev) st) fun r=>some ((st.back r.2).put (some 80) r.1):=VP 44 x y (Yr rfl)
noncomputable def Js:Code:=kU (Tryz.f202.body.getD .skip)
def aR8 (c0:Config) (E:Option (List sG)) (q:Int) (m:Nat) (st:St):Prop:=∃(k:Nat) (S:aL) (w:SV) (X:AV),(st.env 1=.ptr 1 0 0∧st.heap 1 0=some (.cells (aA (wW S X)))∧st.env 2=.ptr 2 0 0∧st.heap 2 0=some (.cells (aA gA))∧st.env 5=ov dR E∧st.env 6=.v (.int .i64 k)∧0<st.aT 1∧0<st.aT 2)∧((X=.v (.slice none 0 0)∧w.E=none)∨∃g L,w.E=some L∧X=.own 61 g∧g<st.aT 61∧st.heap 61 g=some (.row 87 67 L.length (dR L)))∧GI (wW S (ov dR w.E)) w q∧RG (wW S (ov dR w.E)) w∧S.cFg=c0∧(ol w.E).length≤k∧k≤(ol E).length∧m=(ol E).length-k
def aC4 (c0:Config) (q:Int) (e:Ex) (st:St):Prop:=e=.exit 0∧∃(S:aL) (w:SV) (X:AV),(st.env 1=.ptr 1 0 0∧st.heap 1 0=some (.cells (aA (wW S X)))∧st.env 2=.ptr 2 0 0∧st.heap 2 0=some (.cells (aA gA)))∧((X=.v (.slice none 0 0)∧w.E=none)∨∃g L,w.E=some L∧X=.own 61 g∧st.heap 61 g=some (.row 87 67 L.length (dR L)))∧GI (wW S (ov dR w.E)) w q∧RG (wW S (ov dR w.E)) w∧S.cFg=c0
theorem W8 {c0:Config} {E:Option (List sG)} {q:Int} (hE:∀a∈ol E,Df a) (hEa:∀a∈ol E,∃V,a.eZ=ov aK (some V)∧V≠[]) (nE:((ol E).length:Int)≤c0.lK.qG) (nE':((ol E).length:Int)<900000) {m:Nat} {st:St} (hs:aR8 c0 E q m st):∃e st',wX Tryz.prog true Js st=some (e,st')∧aC4 c0 q e st':=by
 have key:∃r,cT (wX Tryz.prog true Js st) some=some r∧aC4 c0 q r.1 r.2:=by
  unfold Js;simp only[Tryz.f202,Option.getD_some,kU];refine jH (fun m st=>∃(k:Nat) (S:aL) (w:SV) (X:AV),(st.env 1=.ptr 1 0 0∧st.heap 1 0=some (.cells (aA (wW S X)))∧st.env 2=.ptr 2 0 0∧st.heap 2 0=some (.cells (aA gA))∧st.env 5=ov dR E∧st.env 6=.v (.int .i64 k)∧0<st.aT 1∧0<st.aT 2)∧((X=.v (.slice none 0 0)∧w.E=none)∨∃g L,w.E=some L∧X=.own 61 g∧g<st.aT 61∧st.heap 61 g=some (.row 87 67 L.length (dR L)))∧GI (wW S (ov dR w.E)) w q∧RG (wW S (ov dR w.E)) w∧S.cFg=c0∧(ol w.E).length≤k∧k≤(ol E).length∧m=(ol E).length-k) (fun e st=>e=.exit 0∧∃(S:aL) (w:SV) (X:AV),(st.env 1=.ptr 1 0 0∧st.heap 1 0=some (.cells (aA (wW S X)))∧st.env 2=.ptr 2 0 0∧st.heap 2 0=some (.cells (aA gA)))∧((X=.v (.slice none 0 0)∧w.E=none)∨∃g L,w.E=some L∧X=.own 61 g∧st.heap 61 g=some (.row 87 67 L.length (dR L)))∧GI (wW S (ov dR w.E)) w q∧RG (wW S (ov dR w.E)) w∧S.cFg=c0) m ?step ?start ?rest
  case start=>exact hs
  case rest=>exact fun e st h=>⟨_,rfl,h⟩
  case step =>
   clear hs
   rintro m st ⟨k,S,w,X,hI,hX,hG,oS,hC,hF,hk,hm⟩
   by_cases aY:(k:Int)<(ol E).length
   case neg =>
    have hX':(X=.v (.slice none 0 0)∧w.E=none)∨∃g L,w.E=some L∧X=.own 61 g∧st.heap 61 g=some (.row 87 67 L.length (dR L)):=hX.imp id fun ⟨g,L,h1,h2,_,h4⟩=>⟨g,L,h1,h2,h4⟩
    apply BZ (.exit 0)
    ·simp only[ZG,seval,Bool.false_and,Prod.mk.injEq,Bs,hI,aY];rfl
    ·exact⟨rfl,S,w,X,by simp only[E8,seval,hI],by simpa only[E8,seval] using hX',hG,oS,hC⟩
   have q0:(0:Int)≤k:=by omega
   have hw:IntKind.i64.wrap ((k:Int)+1)=((k+1:Nat):Int):=by rw[mT _ (by omega) (by omega)];omega
   obtain⟨a,ea⟩:∃a,gx Hw (ol E) (k:Int)=a:=⟨_,rfl⟩
   have ha:Df a:=by rw[← ea];exact hE _ (oO q0 aY)
   have hEa':∃V,a.eZ=ov aK (some V)∧V≠[]:=by rw[← ea];exact hEa _ (oO q0 aY)
   obtain⟨V,hV,nV⟩:=id ha
   have fa:Flat (.agg (iD a)):=(zP a).2 ha.fl
   have fl9:=hG.sd.flat
   by_cases g1:S.now≤a.slot
   · -- kept
    rcases hX with ⟨rfl,Ys⟩|⟨g,L,Ys,rfl,hg,hh⟩
    ·have On:=hG.early (some [a]) (by intro b hb;rw[show b=a by simpa [ol] using hb];exact ha) (by show ((1:Nat):Int)≤S.cFg.lK.qG;rw[hC];omega)
     have Dm:RG (wW S (ov dR (some [a]))) { w with E:=some [a]}:=⟨oS.now,oS.j,oS.f,oS.nd,oS.or,oS.rt,oS.fe,oS.ds,oS.tb,⟨oS.ne.q,by simp,oS.ne.o,oS.ne.t,fun b hb=>by rw[show b=a by simpa [ol] using hb];exact hEa' ,oS.ne.tb⟩⟩
     have an1:=HZ a
     apply Au ((ol E).length-(k+1))
     ·simp only[ZG,seval,Bool.false_and,Prod.mk.injEq,Bs,hI,aY,q0,ea,Jr,yX,g1,fa,an1,hw];rfl
     ·exact⟨k+1,S,{ w with E:=some [a]},_,by and_intros<;>(simp only[E8,seval,hI]<;>rfl),.inr ⟨_,[a],rfl,rfl,by simp only[E8,seval]<;>omega,by simp only[E8,seval]<;>rfl⟩,On,Dm,hC,by show 1≤k+1;omega,by omega,rfl⟩
    ·have hlL:L.length≤k:=by rw[Ys] at hF;exact hF
     have nL:(L.length:Int)<1000000:=by omega
     have vC:(g=st.aT 61)=False:=eq_false (by omega)
     have On:=hG.early (some (L++[a])) (by
      intro b hb;rcases List.mem_append.1 (show b∈L++[a] from hb) with hb|hb
      ·exact hG.sd.eV b (by rw[Ys];exact hb)
      ·rw[List.mem_singleton] at hb;rw[hb];exact ha) (by show (((L++[a]).length:Nat):Int)≤S.cFg.lK.qG;rw[hC,List.length_append,List.length_cons,List.length_nil];omega)
     have Dm:RG (wW S (ov dR (some (L++[a])))) { w with E:=some (L++[a])}:=⟨oS.now,oS.j,oS.f,oS.nd,oS.or,oS.rt,oS.fe,oS.ds,oS.tb,⟨oS.ne.q,by simp,oS.ne.o,oS.ne.t,fun b hb=>by rcases List.mem_append.1 (show b∈L++[a] from hb) with hb|hb;exact oS.ne.ea b (by rw[Ys];exact hb);rw[List.mem_singleton] at hb;rw[hb];exact hEa',oS.ne.tb⟩⟩
     apply Au ((ol E).length-(k+1))
     ·simp only[ZG,seval,Bool.false_and,Prod.mk.injEq,Bs,hI,hh,vC,aY,q0,ea,Jr,yX,g1,fa,We _ _ _ _ nL,hw];rfl
     ·exact⟨k+1,S,{ w with E:=some (L++[a])},_,by and_intros<;>(simp only[E8,seval,hI]<;>rfl),.inr ⟨_,L++[a],rfl,rfl,by simp only[E8,seval]<;>omega,by simp only[E8,seval]<;>rfl⟩,On,Dm,hC,by show (L++[a]).length≤k+1;rw[List.length_append,List.length_cons,List.length_nil];omega,by omega,rfl⟩
   ·have c39':=c39 hG.sd hG.up hG.sp a V hV (by omega)
    have k39:∀(st:St) (d:Option Nat),fO st (.agg (aA (wW S X)))=some (.agg (aA (wW S (ov dR w.E))))→aM (aB Tryz.prog) 39 [.agg (aA (wW S X)),.agg (iD a)] st d=some { dst:=d,val:=.eG [.v (.bool (Gy (wW S (ov dR w.E)) w a (ol V)).1),.v (.int .i64 (Gy (wW S (ov dR w.E)) w a (ol V)).2)]}:=by
     intro st d hx;rw[jU,List.map_cons,List.map_cons,List.map_nil,hx,eC fa,bO,bO,fR];exact D7 c39' (by intro x hx;simp only[List.mem_cons,List.not_mem_nil,or_false] at hx;rcases hx with rfl|rfl<;>exact .v _) (.eG _ (bE (.v _) (.v _)))
    have Ma:GI (wW (Rn S w a (ol V)) (ov dR w.E)) { w with L:=some (uO (ol w.L) a.target.aE a.root (ol V)).1 } q:=hG.cast a (ol V)
    have Dn:RG (wW (Rn S w a (ol V)) (ov dR w.E)) { w with L:=some (uO (ol w.L) a.target.aE a.root (ol V)).1 }:=⟨oS.now,oS.j,oS.f,oS.nd,oS.or,oS.rt,oS.fe,oS.ds,oS.tb,⟨oS.ne.q,oS.ne.e,oS.ne.o,oS.ne.t,oS.ne.ea,oS.ne.tb⟩⟩
    rcases hX with ⟨rfl,Ys⟩|⟨g,L,Ys,rfl,hg,hh⟩
    ·have e0:ov dR w.E=.v (.slice none 0 0):=by rw[Ys];rfl
     have k39n:=fun st d=>k39 st d (by rw[e0];rw[e0] at fl9;exact eC fl9)
     by_cases g2:(Gy (wW S (ov dR w.E)) w a (ol V)).2=0
     case neg =>
      apply Au ((ol E).length-(k+1))
      ·simp only[ZG,seval,Bool.false_and,Prod.mk.injEq,Bs,hI,aY,q0,ea,Jr,yX,g1,k39n,dE,bf g2,hw];rfl
      ·exact⟨k+1,S,w,_,by and_intros<;>(simp only[E8,seval,hI]<;>rfl),.inl ⟨rfl,Ys⟩,hG,oS,hC,by omega,by omega,rfl⟩
     have hr:∀x∈ol V,0≤x∧x<(ol w.L).length:=by rw[hG.NF];exact VE (HS g2)
     obtain⟨G,Rv⟩:=aFN hG.sd (.v (.slice none 0 0)) a V hV (by omega) hr
     have kG:∀st,pT Tryz.prog 44 [.agg (aA (wW S (.v (.slice none 0 0)))),.agg (iD a)] st=some (.agg (aA (wW (Rn S w a (ol V)) (.v (.slice none 0 0)))),G st):=fun st=>(Rv st).1
     have f1:∀st:St,0<st.aT 1→(G st).heap 1 0=st.heap 1 0:=fun st h=>(Rv st).2.1 1 0 h
     have f2:∀st:St,0<st.aT 2→(G st).heap 2 0=st.heap 2 0:=fun st h=>(Rv st).2.1 2 0 h
     have c1:∀st:St,0<st.aT 1→(0<(G st).aT 1)=True:=fun st h=>eq_true (Nat.lt_of_lt_of_le h ((Rv st).2.2 1))
     have c2:∀st:St,0<st.aT 2→(0<(G st).aT 2)=True:=fun st h=>eq_true (Nat.lt_of_lt_of_le h ((Rv st).2.2 2))
     apply Au ((ol E).length-(k+1))
     ·simp only[ZG,seval,Bool.false_and,Prod.mk.injEq,Bs,hI,aY,q0,ea,Jr,yX,g1,k39n,dE,bt g2,aMV,kG,f1,bU,aV,aZ,hw];rfl
     ·exact⟨k+1,Rn S w a (ol V),{ w with L:=some (uO (ol w.L) a.target.aE a.root (ol V)).1 },_,⟨by simp only[E8,seval,hI,bU],by simp only[E8,seval,hI,aV,aZ]<;>rfl,by simp only[E8,seval,hI,bU],by simp only[E8,seval,hI,aV,aZ,f2],by simp only[E8,seval,hI,bU],by simp only[E8,seval,hI,bU],by simp only[E8,seval,hI,aZ,c1],by simp only[E8,seval,hI,aZ,c2]⟩,.inl ⟨rfl,Ys⟩,Ma,Dn,hC,by show (ol w.E).length≤k+1;omega,by omega,rfl⟩
    ·have hLf:∀x∈L,Flat x.eZ:=fun x hx=>(hG.sd.eV x (by rw[Ys];exact hx)).fl
     have k39o:∀(st:St) (d:Option Nat),st.heap 61 g=some (.row 87 67 L.length (dR L))→_:=fun st d h61=>k39 st d (by rw[Ys];exact Yq hG.sd hLf st h61)
     by_cases g2:(Gy (wW S (ov dR w.E)) w a (ol V)).2=0
     case neg =>
      apply Au ((ol E).length-(k+1))
      ·simp only[ZG,seval,Bool.false_and,Prod.mk.injEq,Bs,hI,hh,aY,q0,ea,Jr,yX,g1,k39o,dE,bf g2,hw];rfl
      ·exact⟨k+1,S,w,_,by and_intros<;>(simp only[E8,seval,hI]<;>rfl),.inr ⟨g,L,Ys,rfl,by simp only[E8,seval]<;>omega,by simp only[E8,seval,hh]⟩,hG,oS,hC,by omega,by omega,rfl⟩
     have hr:∀x∈ol V,0≤x∧x<(ol w.L).length:=by rw[hG.NF];exact VE (HS g2)
     obtain⟨G,Rv⟩:=aFN hG.sd (.own 61 g) a V hV (by omega) hr
     have kG:∀st,pT Tryz.prog 44 [.agg (aA (wW S (.own 61 g))),.agg (iD a)] st=some (.agg (aA (wW (Rn S w a (ol V)) (.own 61 g))),G st):=fun st=>(Rv st).1
     have f1:∀st:St,0<st.aT 1→(G st).heap 1 0=st.heap 1 0:=fun st h=>(Rv st).2.1 1 0 h
     have f2:∀st:St,0<st.aT 2→(G st).heap 2 0=st.heap 2 0:=fun st h=>(Rv st).2.1 2 0 h
     have f3:∀st:St,g<st.aT 61→(G st).heap 61 g=st.heap 61 g:=fun st h=>(Rv st).2.1 61 g h
     have c1:∀st:St,0<st.aT 1→(0<(G st).aT 1)=True:=fun st h=>eq_true (Nat.lt_of_lt_of_le h ((Rv st).2.2 1))
     have c2:∀st:St,0<st.aT 2→(0<(G st).aT 2)=True:=fun st h=>eq_true (Nat.lt_of_lt_of_le h ((Rv st).2.2 2))
     have c3:∀st:St,g<st.aT 61→(g<(G st).aT 61)=True:=fun st h=>eq_true (Nat.lt_of_lt_of_le h ((Rv st).2.2 61))
     apply Au ((ol E).length-(k+1))
     ·simp only[ZG,seval,Bool.false_and,Prod.mk.injEq,Bs,hI,hh,aY,q0,ea,Jr,yX,g1,k39o,dE,bt g2,aMV,kG,f1,bU,aV,aZ,hw];rfl
     ·exact⟨k+1,Rn S w a (ol V),{ w with L:=some (uO (ol w.L) a.target.aE a.root (ol V)).1 },_,⟨by simp only[E8,seval,hI,bU],by simp only[E8,seval,hI,aV,aZ]<;>rfl,by simp only[E8,seval,hI,bU],by simp only[E8,seval,hI,aV,aZ,f2],by simp only[E8,seval,hI,bU],by simp only[E8,seval,hI,bU],by simp only[E8,seval,hI,aZ,c1],by simp only[E8,seval,hI,aZ,c2]⟩,.inr ⟨g,L,Ys,rfl,by simp only[E8,seval,aZ,hg,c3],by simp only[E8,seval,aV,aZ,hg,hh,f3]⟩,Ma,Dn,hC,by show (ol w.E).length≤k+1;omega,by omega,rfl⟩
 obtain⟨r,h,hq⟩:=key
 cases hx:wX Tryz.prog true Js st with
 | none=>rw[hx] at h;cases h
 | some y=>rw[hx] at h;simp only[cO,Option.some.injEq] at h;subst h;exact⟨y.1,y.2,rfl,hq⟩
theorem aR9 {s:aL} {v:SV} {q:Int} (h:GI s v q) (r:RG s v):∃x,aB Tryz.prog 202 [.agg (aA s)]=some x∧StR s q x:=by
 have hz:=Jo
 have hf:=h.sd.flat
 have Ng:=h.sp
 rw[cG Tryz.func202 rfl aMX (by kernel_rfl) rfl]
 by_cases g1:1099511627776≤s.now
 ·simp only[ZG,seval,Bool.false_and,Prod.mk.injEq,Bs,g1];exact⟨_,by apply dN;rfl;all_goals simp only[aH,bY,Z8,seval,hz]<;>rfl,gA,3,rfl,hz,by decide,fun h=>by cases h⟩
 have hw:IntKind.u64.wrap (s.now+1)=s.now+1:=wrap_u64 _ (by have:=r.now.1;omega) (by have:=r.now.2;omega)
 obtain⟨s1,hs1⟩:∃s1:aL,s1={ s with now:=s.now+1,eW:=dV }:=⟨_,rfl⟩
 have h1:GI s1 v q:=by
  rw[hs1];exact⟨⟨h.sd.iP,h.sd.eB,h.sd.gW,h.sd.early,h.sd.bN,h.sd.tree,h.sd.tables,h.sd.eV,h.sd.tB,h.sd.nB,h.sd.nL,h.sd.nQ,h.sd.nE,h.sd.nO,h.sd.nT,h.sd.nn⟩,h.up,h.Xi,h.pos,h.nl,h.UY,h.jL,h.NF,h.nB,h.nO,h.NG,h.nE,h.TL,h.nT,h.TM,h.nQ,h.S7,h.gD⟩
 have r1:RG s1 v:=by
  rw[hs1];exact⟨⟨by show 0≤s.now+1;have:=r.now.1;omega,by show s.now+1≤_;omega⟩,r.j,r.f,fun n hn=>⟨(r.nd n hn).1,by show n.block.slot≤s.now+1;have:=(r.nd n hn).2;omega⟩,r.or,r.rt,⟨r.fe.1,Int.le_trans r.fe.2 (show wH s s.now≤wH s (s.now+1) from OB h.jL.1 r.now.1 (by omega) (by have:=r.now.2;omega))⟩,r.ds,r.tb,r.ne⟩
 have c1:s1.cFg=s.cFg:=by rw[hs1]
 have nE:=h.nE
 have TL:=h.TL
 subst hs1;have uE:∀(S:aL) (w:SV) (a b:dP),(Dh S w a b).E=w.E:=fun S w a b=>by unfold Dh;split;rfl;split<;>rfl
 by_cases g2:(s.now+1).tmod s.cFg.jL=0
 case neg =>
  simp only[ZG,seval,Bool.false_and,Prod.mk.injEq,Bs,g1,hw,Ng,bf g2,h.sd.early];refine Jt (a:=Js) (aC4 s.cFg q) (W8 (E:=v.E) h.sd.eV r.ne.ea (by omega) (by omega) (m:=(ol v.E).length) ⟨0,{ s with now:=s.now+1,eW:=dV },{ v with E:=none },.v (.slice none 0 0),⟨by simp only[E8,seval],by simp only[E8,seval]<;>rfl,by simp only[E8,seval],by simp only[E8,seval],by simp only[E8,seval],by simp only[E8,seval]<;>rfl,by simp only[E8,seval]<;>omega,by simp only[E8,seval]<;>omega⟩,.inl ⟨rfl,rfl⟩,h1.early none (by simp[ol]) (by show ((0:Nat):Int)≤_;rw[c1];omega),⟨r1.now,r1.j,r1.f,r1.nd,r1.or,r1.rt,r1.fe,r1.ds,r1.tb,⟨r1.ne.q,nofun,r1.ne.o,r1.ne.t,(fun a ha=>by cases ha),r1.ne.tb⟩⟩,c1,by simp[ol],by omega,by omega⟩) ?rest
  rintro e st ⟨rfl,S,w,X,hI,hX,hG,oS,hC⟩
  have Tw:=hG.sd.flat
  rcases hX with ⟨rfl,Ys⟩|⟨g,L,Ys,rfl,hh⟩
  ·rw[Ys] at Tw hG oS;have hf1:Flat (.agg (aA (wW S (.v (.slice none 0 0))))):=Tw
   simp only[ZG,seval,Bool.false_and,Prod.mk.injEq,Bs,hI];exact⟨_,by apply dN;rfl;all_goals simp only[aH,bY,Z8,seval,hI,hf1]<;>rfl,_,0,rfl,hf1,by decide,fun _=>⟨w,hG,oS,hC⟩⟩
  ·have hLf:∀x∈L,Flat x.eZ:=fun x hx=>(hG.sd.eV x (by rw[Ys];exact hx)).fl
   have hex:∀st:St,st.heap 61 g=some (.row 87 67 L.length (dR L))→fO st (.agg (aA (wW S (.own 61 g))))=some (.agg (aA (wW S (ov dR (some L))))):=fun st hh=>Yq hG.sd hLf st hh
   rw[Ys] at Tw hG oS;simp only[ZG,seval,Bool.false_and,Prod.mk.injEq,Bs,hI];exact⟨_,by apply dN;rfl;all_goals simp only[aH,bY,Z8,seval,hI,hh,hex]<;>rfl,_,0,rfl,Tw,by decide,fun _=>⟨w,hG,oS,hC⟩⟩
 have k67':=k67 h1.sd
 have pv:=aC3 fun n hn=>(r1.nd n hn).1
 have G5:=k61 h1.sd h1.up h1.sp (zT v.ns).pj (zT v.ns).pf
 have h2:=h1.dS (zT v.ns).pj (zT v.ns).pf
 have r2:=RG.dS r1 pv.1 pv.2
 have c2:=wV { s with now:=s.now+1,eW:=dV } v (zT v.ns).pj (zT v.ns).pf
 have e2:=h2.sd.early
 rw[uE] at e2;obtain⟨S2,hS2⟩:∃S2,vB { s with now:=s.now+1,eW:=dV } v (zT v.ns).pj (zT v.ns).pf=S2:=⟨_,rfl⟩
 rw[hS2] at G5 h2 r2 c2 e2
 have c3:S2.cFg=s.cFg:=c2
 simp only[ZG,seval,Bool.false_and,Prod.mk.injEq,Bs,g1,hw,Ng,bt g2,k67',G5,e2];refine Jt (a:=Js) (aC4 s.cFg q) (W8 (E:=v.E) h.sd.eV r.ne.ea (by omega) (by omega) (m:=(ol v.E).length) ⟨0,S2,{ Dh { s with now:=s.now+1,eW:=dV } v (zT v.ns).pj (zT v.ns).pf with E:=none },.v (.slice none 0 0),⟨by simp only[E8,seval],by simp only[E8,seval]<;>rfl,by simp only[E8,seval],by simp only[E8,seval],by simp only[E8,seval],by simp only[E8,seval]<;>rfl,by simp only[E8,seval]<;>omega,by simp only[E8,seval]<;>omega⟩,.inl ⟨rfl,rfl⟩,h2.early none (by simp[ol]) (by show ((0:Nat):Int)≤_;rw[c3];omega),⟨r2.now,r2.j,r2.f,r2.nd,r2.or,r2.rt,r2.fe,r2.ds,r2.tb,⟨r2.ne.q,nofun,r2.ne.o,r2.ne.t,(fun a ha=>by cases ha),r2.ne.tb⟩⟩,c3,by simp[ol],by omega,by omega⟩) ?Yi
 rintro e st ⟨rfl,S,w,X,hI,hX,hG,oS,hC⟩
 have Tw:=hG.sd.flat
 rcases hX with ⟨rfl,Ys⟩|⟨g,L,Ys,rfl,hh⟩
 ·rw[Ys] at Tw hG oS;have hf1:Flat (.agg (aA (wW S (.v (.slice none 0 0))))):=Tw
  simp only[ZG,seval,Bool.false_and,Prod.mk.injEq,Bs,hI];exact⟨_,by apply dN;rfl;all_goals simp only[aH,bY,Z8,seval,hI,hf1]<;>rfl,_,0,rfl,hf1,by decide,fun _=>⟨w,hG,oS,hC⟩⟩
 ·have hLf:∀x∈L,Flat x.eZ:=fun x hx=>(hG.sd.eV x (by rw[Ys];exact hx)).fl
  have hex:∀st:St,st.heap 61 g=some (.row 87 67 L.length (dR L))→fO st (.agg (aA (wW S (.own 61 g))))=some (.agg (aA (wW S (ov dR (some L))))):=fun st hh=>Yq hG.sd hLf st hh
  rw[Ys] at Tw hG oS;simp only[ZG,seval,Bool.false_and,Prod.mk.injEq,Bs,hI];exact⟨_,by apply dN;rfl;all_goals simp only[aH,bY,Z8,seval,hI,hh,hex]<;>rfl,_,0,rfl,Tw,by decide,fun _=>⟨w,hG,oS,hC⟩⟩
def Dp (t:State) (X Y:AV) (tag:Int):State:={ t with iY:=X,rO:=Y,dA:=tag }
theorem aMY:aD 0 3 (some 3)=[]∧aD 1 8 (some 8)=[]∧aD 2 8 (some 14)=[]∧aD 3 5 (some 21)=[]∧aD 4 2 (some 25)=[]:=⟨rfl,rfl,rfl,rfl,rfl⟩
theorem aFQ (t:State) (Y:AV) (o:Option (List Request)) (tag:Int) (hn:((ol o).length:Int)<1000000) (r:cN) (n:Int) :
 ∃G:St→St,∀st,pT Tryz.prog 86 [.agg (aQ (Dp t (ov aF o) Y tag)),.agg (bF r),.v (.int .i64 n)] st=some (.agg (aQ (Dp t (.own 19 (st.aT 19)) Y (IntKind.u64.wrap (tag+1)))),G st)∧Fx st (G st)∧(G st).heap 19 (st.aT 19)=some (.row 63 35 (ol o++[(⟨⟨tag⟩,r,n,0⟩:Request)]).length (aF (ol o++[(⟨⟨tag⟩,r,n,0⟩:Request)])))∧st.aT 19<(G st).aT 19:=by
 have one:∀st,∃st',pT Tryz.prog 86 [.agg (aQ (Dp t (ov aF o) Y tag)),.agg (bF r),.v (.int .i64 n)] st=some (.agg (aQ (Dp t (.own 19 (st.aT 19)) Y (IntKind.u64.wrap (tag+1)))),st')∧Fx st (st')∧(st').heap 19 (st.aT 19)=some (.row 63 35 (ol o++[(⟨⟨tag⟩,r,n,0⟩:Request)]).length (aF (ol o++[(⟨⟨tag⟩,r,n,0⟩:Request)])))∧st.aT 19<(st').aT 19:=by
  intro st;by_cases hy:True
  case neg=>exact⟨st,absurd trivial hy⟩
  suffices h:∃st',pT Tryz.prog 86 [.agg (aQ (Dp t (ov aF o) Y tag)),.agg (bF r),.v (.int .i64 n)] st=some (.agg (aQ (Dp t (.own 19 (st.aT 19)) Y (IntKind.u64.wrap (tag+1)))),st')∧Fx st (st')∧(st').heap 19 (st.aT 19)=some (.row 63 35 (ol o++[(⟨⟨tag⟩,r,n,0⟩:Request)]).length (aF (ol o++[(⟨⟨tag⟩,r,n,0⟩:Request)])))∧st.aT 19<(st').aT 19 by
   obtain⟨st',h⟩:=h
   exact⟨st',h⟩
  have e1:(Dp t (ov aF o) Y tag).iY=ov aF o:=rfl
  have e2:(Dp t (ov aF o) Y tag).dA=tag:=rfl
  have zR:cY.due=0:=rfl
  rw[Bq Tryz.prog Tryz.func86 rfl (by kernel_rfl)]
  simp only[ZG,seval,Bool.false_and,Prod.mk.injEq,aMY,e1,e2,zR,rG _ hn,tP _ _ _ _ hn];refine⟨_,wZ (P:=Tryz.prog) (fn:=Tryz.f86) (r:=.cell 6 58) (x:=.agg (aQ (Dp t (.own 19 (st.aT 19)) Y (IntKind.u64.wrap (tag+1))))) (.inl rfl) rfl ?h1,⟨fun x g hg=>?h2,fun x=>?h3⟩, ?h4, ?h5⟩
  case h1 =>
   rw[rM];simp only[bY,Z8,seval];rfl
  case h2 =>
   have n3:(x=3∧g=st.aT 3)=False:=eq_false (by rintro⟨rfl,rfl⟩;omega)
   have n4:(x=4∧g=st.aT 4)=False:=eq_false (by rintro⟨rfl,rfl⟩;omega)
   have n6:(x=6∧g=st.aT 6)=False:=eq_false (by rintro⟨rfl,rfl⟩;omega)
   have n7:(x=7∧g=st.aT 7)=False:=eq_false (by rintro⟨rfl,rfl⟩;omega)
   have n16:(x=16∧g=st.aT 16)=False:=eq_false (by rintro⟨rfl,rfl⟩;omega)
   have n18:(x=18∧g=st.aT 18)=False:=eq_false (by rintro⟨rfl,rfl⟩;omega)
   have n19:(x=19∧g=st.aT 19)=False:=eq_false (by rintro⟨rfl,rfl⟩;omega)
   simp only[E8,seval,aV,aZ,n3,n4,n6,n7,n16,n18,n19,if_false]
  case h3 =>
   simp only[E8,seval,aV,aZ];split<;>(try split)<;>(try split)<;>(try split)<;>(try split)<;>(try split)<;>(try split)<;>subst_vars<;>omega
  case h4=>simp only[E8,seval,aV,aZ]
  case h5=>simp only[E8,seval,aV,aZ]<;>omega
 exact⟨fun st=>Classical.choose (one st),fun st=>Classical.choose_spec (one st)⟩
theorem W9 (t:State) (Y:AV) (g0:Nat) (L:List Request) (tag:Int) (hn:((L).length:Int)<1000000) (r:cN) (n:Int) :
 ∃G:St→St,∀st,(st.heap 19 g0=some (.row 63 35 L.length (aF L))∧g0<st.aT 19)→pT Tryz.prog 86 [.agg (aQ (Dp t (.own 19 g0) Y tag)),.agg (bF r),.v (.int .i64 n)] st=some (.agg (aQ (Dp t (.own 19 (st.aT 19)) Y (IntKind.u64.wrap (tag+1)))),G st)∧Fx st (G st)∧(G st).heap 19 (st.aT 19)=some (.row 63 35 (L++[(⟨⟨tag⟩,r,n,0⟩:Request)]).length (aF (L++[(⟨⟨tag⟩,r,n,0⟩:Request)])))∧st.aT 19<(G st).aT 19:=by
 have one:∀st,∃st',(st.heap 19 g0=some (.row 63 35 L.length (aF L))∧g0<st.aT 19)→pT Tryz.prog 86 [.agg (aQ (Dp t (.own 19 g0) Y tag)),.agg (bF r),.v (.int .i64 n)] st=some (.agg (aQ (Dp t (.own 19 (st.aT 19)) Y (IntKind.u64.wrap (tag+1)))),st')∧Fx st (st')∧(st').heap 19 (st.aT 19)=some (.row 63 35 (L++[(⟨⟨tag⟩,r,n,0⟩:Request)]).length (aF (L++[(⟨⟨tag⟩,r,n,0⟩:Request)])))∧st.aT 19<(st').aT 19:=by
  intro st;by_cases hy:(st.heap 19 g0=some (.row 63 35 L.length (aF L))∧g0<st.aT 19)
  case neg=>exact⟨st,fun h=>absurd h hy⟩
  suffices h:∃st',pT Tryz.prog 86 [.agg (aQ (Dp t (.own 19 g0) Y tag)),.agg (bF r),.v (.int .i64 n)] st=some (.agg (aQ (Dp t (.own 19 (st.aT 19)) Y (IntKind.u64.wrap (tag+1)))),st')∧Fx st (st')∧(st').heap 19 (st.aT 19)=some (.row 63 35 (L++[(⟨⟨tag⟩,r,n,0⟩:Request)]).length (aF (L++[(⟨⟨tag⟩,r,n,0⟩:Request)])))∧st.aT 19<(st').aT 19 by
   obtain⟨st',h⟩:=h
   exact⟨st',fun _=>h⟩
  have e1:(Dp t (.own 19 g0) Y tag).iY=.own 19 g0:=rfl
  have e2:(Dp t (.own 19 g0) Y tag).dA=tag:=rfl
  have zR:cY.due=0:=rfl
  have vC:(g0=st.aT 19)=False:=eq_false (by have:=hy.2;omega)
  rw[Bq Tryz.prog Tryz.func86 rfl (by kernel_rfl)]
  simp only[ZG,seval,Bool.false_and,Prod.mk.injEq,aMY,e1,e2,zR,hy.1,vC,rG _ hn,tP _ _ _ _ hn];refine⟨_,wZ (P:=Tryz.prog) (fn:=Tryz.f86) (r:=.cell 6 58) (x:=.agg (aQ (Dp t (.own 19 (st.aT 19)) Y (IntKind.u64.wrap (tag+1))))) (.inl rfl) rfl ?h1,⟨fun x g hg=>?h2,fun x=>?h3⟩, ?h4, ?h5⟩
  case h1 =>
   rw[rM];simp only[bY,Z8,seval];rfl
  case h2 =>
   have n3:(x=3∧g=st.aT 3)=False:=eq_false (by rintro⟨rfl,rfl⟩;omega)
   have n4:(x=4∧g=st.aT 4)=False:=eq_false (by rintro⟨rfl,rfl⟩;omega)
   have n6:(x=6∧g=st.aT 6)=False:=eq_false (by rintro⟨rfl,rfl⟩;omega)
   have n7:(x=7∧g=st.aT 7)=False:=eq_false (by rintro⟨rfl,rfl⟩;omega)
   have n16:(x=16∧g=st.aT 16)=False:=eq_false (by rintro⟨rfl,rfl⟩;omega)
   have n18:(x=18∧g=st.aT 18)=False:=eq_false (by rintro⟨rfl,rfl⟩;omega)
   have n19:(x=19∧g=st.aT 19)=False:=eq_false (by rintro⟨rfl,rfl⟩;omega)
   simp only[E8,seval,aV,aZ,n3,n4,n6,n7,n16,n18,n19,if_false]
  case h3 =>
   simp only[E8,seval,aV,aZ];split<;>(try split)<;>(try split)<;>(try split)<;>(try split)<;>(try split)<;>(try split)<;>subst_vars<;>omega
  case h4=>simp only[E8,seval,aV,aZ]
  case h5=>simp only[E8,seval,aV,aZ]<;>omega
 exact⟨fun st=>Classical.choose (one st),fun st=>Classical.choose_spec (one st)⟩
noncomputable def Mc (ns:List Node) (now:Int) (a:(Option (List Request) × Int) × List Request) (r:Request):(Option (List Request) × Int) × List Request :=
 if now<r.due then (a.1,a.2++[r]) else if zY ns r.block then ((some (ol a.1.1++[⟨⟨a.1.2⟩,r.block,r.tries,0⟩]),IntKind.u64.wrap (a.1.2+1)),a.2) else a
noncomputable def zZ (ns:List Node) (now:Int) (a:(Option (List Request) × Int) × List Request) (l:List Request):(Option (List Request) × Int) × List Request:=l.foldl (Mc ns now) a
theorem G6 (ns:List Node) (now:Int) (a:(Option (List Request) × Int) × List Request) (l:List Request) (k:Nat) (h:k<l.length):zZ ns now a (l.take (k+1))=Mc ns now (zZ ns now a (l.take k)) (gx cY l k):=by
 unfold zZ;rw[List.take_succ_eq_append_getElem h,List.foldl_append];simp[gx,h]
theorem X0 (ns:List Node) (now:Int) (a:(Option (List Request) × Int) × List Request) (r:Request):(ol (Mc ns now a r).1.1).length≤(ol a.1.1).length+1∧(Mc ns now a r).2.length≤a.2.length+1:=by
 unfold Mc;split
 ·refine⟨by dsimp only;omega, ?_⟩
  dsimp only;rw[List.length_append,List.length_cons,List.length_nil];omega
 ·split
  ·refine⟨?_,by dsimp only;omega⟩
   show (ol a.1.1++[_]).length≤_;rw[List.length_append,List.length_cons,List.length_nil];omega
  ·omega
theorem OC (ns:List Node) (now:Int) (l:List Request):∀(a:(Option (List Request) × Int) × List Request),(ol (zZ ns now a l).1.1).length≤(ol a.1.1).length+l.length∧(zZ ns now a l).2.length≤a.2.length+l.length:=by
 induction l with
 | nil=>intro a;exact⟨Nat.le_refl _,Nat.le_refl _⟩
 | cons r l ih =>
   intro a;have h1:=ih (Mc ns now a r)
   have h2:=X0 ns now a r
   rw[List.length_cons];show (ol (zZ ns now (Mc ns now a r) l).1.1).length≤_∧(zZ ns now (Mc ns now a r) l).2.length≤_
   omega
theorem pV {st:St} (o:Option (List Request)):cS st (ov aF o)=some (ov aF o):=Yk (iZ o)
theorem kF {st:St} {a g:Nat} {L:List Request} (h:st.heap a g=some (.row 63 35 L.length (aF L))):cS st (.own a g)=some (ov aF (some L)):=by
 rw[bP,h];exact pM _ _
theorem p6 {t:State} {v:SV} {Q R:Option (List Request)} (h:TD t v Q R) (st:St) {X Y X' Y':AV} (hx:cS st X=some X') (hy:cS st Y=some Y') (tag:Int):fO st (.agg (aQ (Dp t X Y tag)))=some (.agg (aQ (Dp t X' Y' tag))):=by
 have pJ:=h.fl
 unfold Dp;simp only[bS,vX,gJ,hx,hy,cW,dU,pJ,cO]
theorem TD.rq {t:State} {v:SV} {Q R:Option (List Request)} (h:TD t v Q R) (q z:Option (List Request)) (tag:Int) (hq:((ol q).length:Int)<900000) (hz:((ol z).length:Int)<900000):TD (Dp t (ov aF q) (ov aF z) tag) v q z:=⟨h.sd,rfl,rfl,hq,hz⟩
theorem OD {t:State} {v:SV} {Q R:Option (List Request)} (h:TD t v Q R) (q z:Option (List Request)) (tag:Int) (hq:((ol q).length:Int)<900000) (hz:((ol z).length:Int)<900000) (r:cN) (st:St) (d:Option Nat) {X Y:AV} (hx:cS st X=some (ov aF q)) (hy:cS st Y=some (ov aF z)) :
 aM (aB Tryz.prog) 85 [.agg (aQ (Dp t X Y tag)),.agg (bF r)] st d=some { dst:=d,val:=.v (.bool (decide (zY v.ns r)))}:=by
 rw[jU,List.map_cons,List.map_cons,List.map_nil,p6 h st hx hy,Rr,bO,bO,fR];exact Rc (c85 (h.rq q z tag hq hz) r)
theorem aC6 {call:Nat→List AV→Option AV} {inl:Nat→List AV→St→Option (AV × St)} {ops:Array Oper} {st:St} {T:Nat} {pos:String} {eU:Array Edge} (x:Array Operand) (y:Array Nat) :
 gT Tryz.prog true call inl ops ⟨some 50,.call ⟨.value (.func 86),x,y⟩,T,pos,eU,none⟩ st=cT (inl 86 (x.toList.map st.ev) st) fun r=>some ((st.back r.2).put (some 50) r.1):=VP 86 x y (Yr rfl)
noncomputable def IA (t:State) (ns:List Node) (Q R:Option (List Request)):(Option (List Request) × Int) × List Request:=zZ ns t.store.now ((Q,t.dA),[]) (ol R)
noncomputable def aC7 (t:State) (ns:List Node) (Q R:Option (List Request)):State:=Dp t (ov aF (IA t ns Q R).1.1) (ov aF (nz (IA t ns Q R).2)) (IA t ns Q R).1.2
theorem Ck (t:State) (X Y:AV) (tag:Int):(Dp t X Y tag).iY=X:=rfl
theorem Cl (t:State) (X Y:AV) (tag:Int):(Dp t X Y tag).rO=Y:=rfl
theorem Cm (t:State) (X Y:AV) (tag:Int):(Dp t X Y tag).dA=tag:=rfl
theorem Cn (t:State) (X Y:AV) (tag:Int):(Dp t X Y tag).store=t.store:=rfl
theorem c74 {t:State} {v:SV} {Q R:Option (List Request)} (h:TD t v Q R) (hn:((ol Q).length:Int)+(ol R).length<800000):aB Tryz.prog 74 [.agg (aQ t)]=some (.agg (aQ (aC7 t v.ns Q R))):=by
 have pJ:=h.fl
 have nR:=h.nR
 have hlen:∀k:Nat,(ol (zZ v.ns t.store.now ((Q,t.dA),[]) ((ol R).take k)).1.1).length≤(ol Q).length+(ol R).length∧(zZ v.ns t.store.now ((Q,t.dA),[]) ((ol R).take k)).2.length≤(ol R).length:=fun k=>by
  have h1:=OC v.ns t.store.now ((ol R).take k) ((Q,t.dA),[])
  have h2:=List.length_take_le' k (ol R)
  have e:(ol ((Q,t.dA),([]:List Request)).1.1).length=(ol Q).length:=rfl
  have e2:((Q,t.dA),([]:List Request)).2.length=0:=rfl
  rw[e,e2] at h1;omega
 rw[cG Tryz.func74 rfl aSd (by kernel_rfl) rfl]
 refine gX ?_
 simp only[ZG,seval,Bool.false_and,Prod.mk.injEq,Kg,h.ret];refine jH (fun m st=>∃(k:Nat) (X Y:AV) (p:(Option (List Request) × Int) × List Request),(st.env 1=.ptr 1 0 0∧st.heap 1 0=some (.cells (aQ (Dp t X Y p.1.2)))∧st.env 2=.ptr 2 0 0∧st.heap 2 0=some (.cells (aQ lZ))∧st.env 3=ov aF R∧st.env 4=.v (.int .i64 k)∧0<st.aT 1∧0<st.aT 2)∧(X=ov aF p.1.1∨∃g L,p.1.1=some L∧X=.own 19 g∧g<st.aT 19∧st.heap 19 g=some (.row 63 35 L.length (aF L)))∧((Y=.v (.slice none 0 0)∧p.2=[])∨∃g,p.2≠[]∧Y=.own 30 g∧g<st.aT 30∧st.heap 30 g=some (.row 63 35 p.2.length (aF p.2)))∧p=zZ v.ns t.store.now ((Q,t.dA),[]) ((ol R).take k)∧k≤(ol R).length∧m=(ol R).length-k)
  (fun e st=>e=.exit 0∧∃(X Y:AV) (p:(Option (List Request) × Int) × List Request),(st.env 1=.ptr 1 0 0∧st.heap 1 0=some (.cells (aQ (Dp t X Y p.1.2)))∧st.env 2=.ptr 2 0 0∧st.heap 2 0=some (.cells (aQ lZ)))∧(X=ov aF p.1.1∨∃g L,p.1.1=some L∧X=.own 19 g∧st.heap 19 g=some (.row 63 35 L.length (aF L)))∧((Y=.v (.slice none 0 0)∧p.2=[])∨∃g,p.2≠[]∧Y=.own 30 g∧st.heap 30 g=some (.row 63 35 p.2.length (aF p.2)))∧p=IA t v.ns Q R) (ol R).length ?step ?start ?rest
 case step =>
  rintro m st ⟨k,X,Y,p,hI,hX,hY,hp,hk,hm⟩
  by_cases aY:(k:Int)<(ol R).length
  case neg =>
   have Aq:k=(ol R).length:=by omega
   rw[Aq,List.take_length] at hp;have hX':(X=ov aF p.1.1∨∃g L,p.1.1=some L∧X=.own 19 g∧st.heap 19 g=some (.row 63 35 L.length (aF L))):=hX.imp id fun ⟨g,L,a,b,_,c⟩=>⟨g,L,a,b,c⟩
   have hY':((Y=.v (.slice none 0 0)∧p.2=[])∨∃g,p.2≠[]∧Y=.own 30 g∧st.heap 30 g=some (.row 63 35 p.2.length (aF p.2))):=hY.imp id fun ⟨g,a,b,_,c⟩=>⟨g,a,b,c⟩
   apply BZ (.exit 0)
   ·simp only[ZG,seval,Bool.false_and,Prod.mk.injEq,Kg,hI,aY];rfl
   ·exact⟨rfl,X,Y,p,by simp only[E8,seval,hI],by simpa only[E8,seval] using hX',by simpa only[E8,seval] using hY',hp⟩
  have q0:(0:Int)≤k:=by omega
  have hw:IntKind.i64.wrap ((k:Int)+1)=((k+1:Nat):Int):=by rw[mT _ (by omega) (by omega)];omega
  have hs:=G6 v.ns t.store.now ((Q,t.dA),[]) (ol R) k (by omega)
  have hl:=hlen k
  have yF:=hlen (k+1)
  rw[← hp] at hs hl;obtain⟨r,er⟩:∃r,gx cY (ol R) (k:Int)=r:=⟨_,rfl⟩
  rw[er] at hs;unfold Mc at hs;have P1:((ol p.1.1).length:Int)<900000:=by omega
  have nZ9:(p.2.length:Int)<900000:=by omega
  have nZ:(p.2.length:Int)<1000000:=by omega
  by_cases g1:t.store.now<r.due
  ·rw[if_pos g1] at hs;rcases hY with ⟨rfl,hz⟩|⟨g,hz,rfl,hg,hh⟩
   ·apply Au ((ol R).length-(k+1))
    ·simp only[ZG,seval,Bool.false_and,Prod.mk.injEq,Kg,hI,aY,q0,er,Ck,Cl,Cm,Cn,g1,hw];rfl
    ·exact⟨k+1,X,_,(p.1,p.2++[r]),by and_intros<;>(simp only[E8,seval,hI]<;>rfl),by simpa only[E8,seval] using hX,.inr ⟨_,by simp,rfl,by simp only[E8,seval]<;>omega,by rw[hz];simp only[E8,seval]<;>rfl⟩,hs.symm,by omega,rfl⟩
   ·have vC:(g=st.aT 30)=False:=eq_false (by omega)
    apply Au ((ol R).length-(k+1))
    ·simp only[ZG,seval,Bool.false_and,Prod.mk.injEq,Kg,hI,aY,q0,er,Ck,Cl,Cm,Cn,hh,vC,g1,hw,tP _ _ _ _ nZ];rfl
    ·exact⟨k+1,X,_,(p.1,p.2++[r]),by and_intros<;>(simp only[E8,seval,hI]<;>rfl),by simpa only[E8,seval] using hX,.inr ⟨_,by simp,rfl,by simp only[E8,seval]<;>omega,by simp only[E8,seval]<;>rfl⟩,hs.symm,by omega,rfl⟩
  rw[if_neg g1] at hs;by_cases g2:zY v.ns r.block
  case neg =>
   rw[if_neg g2] at hs;rcases hX with rfl|⟨g,L,hL,rfl,hg,hh⟩
   ·rcases hY with ⟨rfl,hz⟩|⟨g9,hz,rfl,hg9,OE⟩
    ·have Md:∀(st:St) (d:Option Nat),aM (aB Tryz.prog) 85 [.agg (aQ (Dp t (ov aF p.1.1) (.v (.slice none 0 0)) p.1.2)),.agg (bF r.block)] st d=some { dst:=d,val:=.v (.bool (decide (zY v.ns r.block)))}:=fun st d=>OD h p.1.1 none p.1.2 P1 (by show ((0:Nat):Int)<_;omega) r.block st d (pV _) (show cS st (.v (.slice none 0 0))=some (ov aF none) from pV none)
     apply Au ((ol R).length-(k+1))
     ·simp only[ZG,seval,Bool.false_and,Prod.mk.injEq,Kg,hI,aY,q0,er,Ck,Cl,Cm,Cn,g1,Md,g2,hw];rfl
     ·exact⟨k+1,_,_,p,by and_intros<;>(simp only[E8,seval,hI]<;>rfl),.inl rfl,.inl ⟨rfl,hz⟩,hs.symm,by omega,rfl⟩
    ·have Md:∀(st:St) (d:Option Nat),st.heap 30 g9=some (.row 63 35 p.2.length (aF p.2))→aM (aB Tryz.prog) 85 [.agg (aQ (Dp t (ov aF p.1.1) (.own 30 g9) p.1.2)),.agg (bF r.block)] st d=some { dst:=d,val:=.v (.bool (decide (zY v.ns r.block)))}:=fun st d h2=>OD h p.1.1 (some p.2) p.1.2 P1 nZ9 r.block st d (pV _) (show cS st (.own 30 g9)=some (ov aF (some p.2)) from kF h2)
     apply Au ((ol R).length-(k+1))
     ·simp only[ZG,seval,Bool.false_and,Prod.mk.injEq,Kg,hI,aY,q0,er,Ck,Cl,Cm,Cn,g1,Md,OE,g2,hw];rfl
     ·exact⟨k+1,_,_,p,by and_intros<;>(simp only[E8,seval,hI]<;>rfl),.inl rfl,.inr ⟨g9,hz,rfl,by simp only[E8,seval]<;>omega,by simp only[E8,seval,OE]⟩,hs.symm,by omega,rfl⟩
   ·rcases hY with ⟨rfl,hz⟩|⟨g9,hz,rfl,hg9,OE⟩
    ·have Md:∀(st:St) (d:Option Nat),st.heap 19 g=some (.row 63 35 L.length (aF L))→aM (aB Tryz.prog) 85 [.agg (aQ (Dp t (.own 19 g) (.v (.slice none 0 0)) p.1.2)),.agg (bF r.block)] st d=some { dst:=d,val:=.v (.bool (decide (zY v.ns r.block)))}:=fun st d h1=>OD h p.1.1 none p.1.2 P1 (by show ((0:Nat):Int)<_;omega) r.block st d (by rw[hL];exact kF h1) (show cS st (.v (.slice none 0 0))=some (ov aF none) from pV none)
     apply Au ((ol R).length-(k+1))
     ·simp only[ZG,seval,Bool.false_and,Prod.mk.injEq,Kg,hI,aY,q0,er,Ck,Cl,Cm,Cn,g1,Md,hh,g2,hw];rfl
     ·exact⟨k+1,_,_,p,by and_intros<;>(simp only[E8,seval,hI]<;>rfl),.inr ⟨g,L,hL,rfl,by simp only[E8,seval]<;>omega,by simp only[E8,seval,hh]⟩,.inl ⟨rfl,hz⟩,hs.symm,by omega,rfl⟩
    ·have Md:∀(st:St) (d:Option Nat),st.heap 19 g=some (.row 63 35 L.length (aF L))→st.heap 30 g9=some (.row 63 35 p.2.length (aF p.2))→aM (aB Tryz.prog) 85 [.agg (aQ (Dp t (.own 19 g) (.own 30 g9) p.1.2)),.agg (bF r.block)] st d=some { dst:=d,val:=.v (.bool (decide (zY v.ns r.block)))}:=fun st d h1 h2=>OD h p.1.1 (some p.2) p.1.2 P1 nZ9 r.block st d (by rw[hL];exact kF h1) (show cS st (.own 30 g9)=some (ov aF (some p.2)) from kF h2)
     apply Au ((ol R).length-(k+1))
     ·simp only[ZG,seval,Bool.false_and,Prod.mk.injEq,Kg,hI,aY,q0,er,Ck,Cl,Cm,Cn,g1,Md,hh,OE,g2,hw];rfl
     ·exact⟨k+1,_,_,p,by and_intros<;>(simp only[E8,seval,hI]<;>rfl),.inr ⟨g,L,hL,rfl,by simp only[E8,seval]<;>omega,by simp only[E8,seval,hh]⟩,.inr ⟨g9,hz,rfl,by simp only[E8,seval]<;>omega,by simp only[E8,seval,OE]⟩,hs.symm,by omega,rfl⟩
  rw[if_pos g2] at hs;rcases hX with rfl|⟨g,L,hL,rfl,hg,hh⟩
  ·rcases hY with ⟨rfl,hz⟩|⟨g9,hz,rfl,hg9,OE⟩
   ·have Md:∀(st:St) (d:Option Nat),aM (aB Tryz.prog) 85 [.agg (aQ (Dp t (ov aF p.1.1) (.v (.slice none 0 0)) p.1.2)),.agg (bF r.block)] st d=some { dst:=d,val:=.v (.bool (decide (zY v.ns r.block)))}:=fun st d=>OD h p.1.1 none p.1.2 P1 (by show ((0:Nat):Int)<_;omega) r.block st d (pV _) (show cS st (.v (.slice none 0 0))=some (ov aF none) from pV none)
    obtain⟨G,hG⟩:=aFQ t (.v (.slice none 0 0)) p.1.1 p.1.2 (by omega) r.block r.tries
    have kG:=fun st=>(hG st).1
    have f1:∀st:St,0<st.aT 1→(G st).heap 1 0=st.heap 1 0:=fun st h=>(hG st).2.1.1 1 0 h
    have f2:∀st:St,0<st.aT 2→(G st).heap 2 0=st.heap 2 0:=fun st h=>(hG st).2.1.1 2 0 h
    have c1:∀st:St,0<st.aT 1→(0<(G st).aT 1)=True:=fun st h=>eq_true (Nat.lt_of_lt_of_le h ((hG st).2.1.2 1))
    have c2:∀st:St,0<st.aT 2→(0<(G st).aT 2)=True:=fun st h=>eq_true (Nat.lt_of_lt_of_le h ((hG st).2.1.2 2))
    have fn:∀(st:St) (c:Nat),c=st.aT 19→(G st).heap 19 c=_:=fun st c e=>e ▸ (hG st).2.2.1
    have cn:∀(st:St) (c:Nat),c=st.aT 19→(c<(G st).aT 19)=True:=fun st c e=>e ▸ eq_true (hG st).2.2.2
    apply Au ((ol R).length-(k+1))
    ·simp only[ZG,seval,Bool.false_and,Prod.mk.injEq,Kg,hI,aY,q0,er,Ck,Cl,Cm,Cn,g1,Md,g2,aC6,kG,f1,bU,aV,aZ,hw];rfl
    ·exact⟨k+1,_,_,((some (ol p.1.1++[(⟨⟨p.1.2⟩,r.block,r.tries,0⟩:Request)]),IntKind.u64.wrap (p.1.2+1)),p.2),⟨by simp only[E8,seval,hI,bU],by simp only[E8,seval,hI,aV,aZ]<;>rfl,by simp only[E8,seval,hI,bU],by simp only[E8,seval,hI,aV,aZ,f2],by simp only[E8,seval,hI,bU],by simp only[E8,seval,hI,bU],by simp only[E8,seval,hI,aZ,c1],by simp only[E8,seval,hI,aZ,c2]⟩,.inr ⟨_,(ol p.1.1++[(⟨⟨p.1.2⟩,r.block,r.tries,0⟩:Request)]),rfl,rfl,by simp only[E8,seval,aZ,cn],by simp only[E8,seval,aV,aZ,fn]⟩,.inl ⟨rfl,hz⟩,hs.symm,by omega,rfl⟩
   ·have Md:∀(st:St) (d:Option Nat),st.heap 30 g9=some (.row 63 35 p.2.length (aF p.2))→aM (aB Tryz.prog) 85 [.agg (aQ (Dp t (ov aF p.1.1) (.own 30 g9) p.1.2)),.agg (bF r.block)] st d=some { dst:=d,val:=.v (.bool (decide (zY v.ns r.block)))}:=fun st d h2=>OD h p.1.1 (some p.2) p.1.2 P1 nZ9 r.block st d (pV _) (show cS st (.own 30 g9)=some (ov aF (some p.2)) from kF h2)
    obtain⟨G,hG⟩:=aFQ t (.own 30 g9) p.1.1 p.1.2 (by omega) r.block r.tries
    have kG:=fun st=>(hG st).1
    have f1:∀st:St,0<st.aT 1→(G st).heap 1 0=st.heap 1 0:=fun st h=>(hG st).2.1.1 1 0 h
    have f2:∀st:St,0<st.aT 2→(G st).heap 2 0=st.heap 2 0:=fun st h=>(hG st).2.1.1 2 0 h
    have c1:∀st:St,0<st.aT 1→(0<(G st).aT 1)=True:=fun st h=>eq_true (Nat.lt_of_lt_of_le h ((hG st).2.1.2 1))
    have c2:∀st:St,0<st.aT 2→(0<(G st).aT 2)=True:=fun st h=>eq_true (Nat.lt_of_lt_of_le h ((hG st).2.1.2 2))
    have fn:∀(st:St) (c:Nat),c=st.aT 19→(G st).heap 19 c=_:=fun st c e=>e ▸ (hG st).2.2.1
    have cn:∀(st:St) (c:Nat),c=st.aT 19→(c<(G st).aT 19)=True:=fun st c e=>e ▸ eq_true (hG st).2.2.2
    have f3:∀st:St,g9<st.aT 30→(G st).heap 30 g9=st.heap 30 g9:=fun st h=>(hG st).2.1.1 30 g9 h
    have c3:∀st:St,g9<st.aT 30→(g9<(G st).aT 30)=True:=fun st h=>eq_true (Nat.lt_of_lt_of_le h ((hG st).2.1.2 30))
    apply Au ((ol R).length-(k+1))
    ·simp only[ZG,seval,Bool.false_and,Prod.mk.injEq,Kg,hI,aY,q0,er,Ck,Cl,Cm,Cn,g1,Md,OE,g2,aC6,kG,f1,bU,aV,aZ,hw];rfl
    ·exact⟨k+1,_,_,((some (ol p.1.1++[(⟨⟨p.1.2⟩,r.block,r.tries,0⟩:Request)]),IntKind.u64.wrap (p.1.2+1)),p.2),⟨by simp only[E8,seval,hI,bU],by simp only[E8,seval,hI,aV,aZ]<;>rfl,by simp only[E8,seval,hI,bU],by simp only[E8,seval,hI,aV,aZ,f2],by simp only[E8,seval,hI,bU],by simp only[E8,seval,hI,bU],by simp only[E8,seval,hI,aZ,c1],by simp only[E8,seval,hI,aZ,c2]⟩,.inr ⟨_,(ol p.1.1++[(⟨⟨p.1.2⟩,r.block,r.tries,0⟩:Request)]),rfl,rfl,by simp only[E8,seval,aZ,cn],by simp only[E8,seval,aV,aZ,fn]⟩,.inr ⟨g9,hz,rfl,by simp only[E8,seval,aZ,hg9,c3],by simp only[E8,seval,aV,aZ,hg9,OE,f3]⟩,hs.symm,by omega,rfl⟩
  ·rcases hY with ⟨rfl,hz⟩|⟨g9,hz,rfl,hg9,OE⟩
   ·have Md:∀(st:St) (d:Option Nat),st.heap 19 g=some (.row 63 35 L.length (aF L))→aM (aB Tryz.prog) 85 [.agg (aQ (Dp t (.own 19 g) (.v (.slice none 0 0)) p.1.2)),.agg (bF r.block)] st d=some { dst:=d,val:=.v (.bool (decide (zY v.ns r.block)))}:=fun st d h1=>OD h p.1.1 none p.1.2 P1 (by show ((0:Nat):Int)<_;omega) r.block st d (by rw[hL];exact kF h1) (show cS st (.v (.slice none 0 0))=some (ov aF none) from pV none)
    have nL:(L.length:Int)<1000000:=by rw[hL] at P1;have:(L.length:Int)<900000:=P1;omega
    obtain⟨G,hG⟩:=W9 t (.v (.slice none 0 0)) g L p.1.2 nL r.block r.tries
    have kG:∀st:St,st.heap 19 g=some (.row 63 35 L.length (aF L))→g<st.aT 19→_:=fun st a b=>(hG st ⟨a,b⟩).1
    have f1:∀st:St,st.heap 19 g=some (.row 63 35 L.length (aF L))→g<st.aT 19→0<st.aT 1→(G st).heap 1 0=st.heap 1 0:=fun st a b h=>(hG st ⟨a,b⟩).2.1.1 1 0 h
    have f2:∀st:St,st.heap 19 g=some (.row 63 35 L.length (aF L))→g<st.aT 19→0<st.aT 2→(G st).heap 2 0=st.heap 2 0:=fun st a b h=>(hG st ⟨a,b⟩).2.1.1 2 0 h
    have c1:∀st:St,st.heap 19 g=some (.row 63 35 L.length (aF L))→g<st.aT 19→0<st.aT 1→(0<(G st).aT 1)=True:=fun st a b h=>eq_true (Nat.lt_of_lt_of_le h ((hG st ⟨a,b⟩).2.1.2 1))
    have c2:∀st:St,st.heap 19 g=some (.row 63 35 L.length (aF L))→g<st.aT 19→0<st.aT 2→(0<(G st).aT 2)=True:=fun st a b h=>eq_true (Nat.lt_of_lt_of_le h ((hG st ⟨a,b⟩).2.1.2 2))
    have fn:∀(st:St) (c:Nat),st.heap 19 g=some (.row 63 35 L.length (aF L))→g<st.aT 19→c=st.aT 19→(G st).heap 19 c=_:=fun st c a b e=>e ▸ (hG st ⟨a,b⟩).2.2.1
    have cn:∀(st:St) (c:Nat),st.heap 19 g=some (.row 63 35 L.length (aF L))→g<st.aT 19→c=st.aT 19→(c<(G st).aT 19)=True:=fun st c a b e=>e ▸ eq_true (hG st ⟨a,b⟩).2.2.2
    have eL:ol p.1.1=L:=by rw[hL];rfl
    rw[eL] at hs;apply Au ((ol R).length-(k+1))
    ·simp only[ZG,seval,Bool.false_and,Prod.mk.injEq,Kg,hI,aY,q0,er,Ck,Cl,Cm,Cn,g1,Md,hh,hg,g2,aC6,kG,f1,bU,aV,aZ,hw];rfl
    ·exact⟨k+1,_,_,((some (L++[(⟨⟨p.1.2⟩,r.block,r.tries,0⟩:Request)]),IntKind.u64.wrap (p.1.2+1)),p.2),⟨by simp only[E8,seval,hI,bU],by simp only[E8,seval,hI,aV,aZ]<;>rfl,by simp only[E8,seval,hI,bU],by simp only[E8,seval,hI,hh,hg,aV,aZ,f2],by simp only[E8,seval,hI,bU],by simp only[E8,seval,hI,bU],by simp only[E8,seval,hI,hh,hg,aZ,c1],by simp only[E8,seval,hI,hh,hg,aZ,c2]⟩,.inr ⟨_,(L++[(⟨⟨p.1.2⟩,r.block,r.tries,0⟩:Request)]),rfl,rfl,by simp only[E8,seval,aZ,hh,hg,cn],by simp only[E8,seval,aV,aZ,hh,hg,fn]⟩,.inl ⟨rfl,hz⟩,hs.symm,by omega,rfl⟩
   ·have Md:∀(st:St) (d:Option Nat),st.heap 19 g=some (.row 63 35 L.length (aF L))→st.heap 30 g9=some (.row 63 35 p.2.length (aF p.2))→aM (aB Tryz.prog) 85 [.agg (aQ (Dp t (.own 19 g) (.own 30 g9) p.1.2)),.agg (bF r.block)] st d=some { dst:=d,val:=.v (.bool (decide (zY v.ns r.block)))}:=fun st d h1 h2=>OD h p.1.1 (some p.2) p.1.2 P1 nZ9 r.block st d (by rw[hL];exact kF h1) (show cS st (.own 30 g9)=some (ov aF (some p.2)) from kF h2)
    have nL:(L.length:Int)<1000000:=by rw[hL] at P1;have:(L.length:Int)<900000:=P1;omega
    obtain⟨G,hG⟩:=W9 t (.own 30 g9) g L p.1.2 nL r.block r.tries
    have kG:∀st:St,st.heap 19 g=some (.row 63 35 L.length (aF L))→g<st.aT 19→_:=fun st a b=>(hG st ⟨a,b⟩).1
    have f1:∀st:St,st.heap 19 g=some (.row 63 35 L.length (aF L))→g<st.aT 19→0<st.aT 1→(G st).heap 1 0=st.heap 1 0:=fun st a b h=>(hG st ⟨a,b⟩).2.1.1 1 0 h
    have f2:∀st:St,st.heap 19 g=some (.row 63 35 L.length (aF L))→g<st.aT 19→0<st.aT 2→(G st).heap 2 0=st.heap 2 0:=fun st a b h=>(hG st ⟨a,b⟩).2.1.1 2 0 h
    have c1:∀st:St,st.heap 19 g=some (.row 63 35 L.length (aF L))→g<st.aT 19→0<st.aT 1→(0<(G st).aT 1)=True:=fun st a b h=>eq_true (Nat.lt_of_lt_of_le h ((hG st ⟨a,b⟩).2.1.2 1))
    have c2:∀st:St,st.heap 19 g=some (.row 63 35 L.length (aF L))→g<st.aT 19→0<st.aT 2→(0<(G st).aT 2)=True:=fun st a b h=>eq_true (Nat.lt_of_lt_of_le h ((hG st ⟨a,b⟩).2.1.2 2))
    have fn:∀(st:St) (c:Nat),st.heap 19 g=some (.row 63 35 L.length (aF L))→g<st.aT 19→c=st.aT 19→(G st).heap 19 c=_:=fun st c a b e=>e ▸ (hG st ⟨a,b⟩).2.2.1
    have cn:∀(st:St) (c:Nat),st.heap 19 g=some (.row 63 35 L.length (aF L))→g<st.aT 19→c=st.aT 19→(c<(G st).aT 19)=True:=fun st c a b e=>e ▸ eq_true (hG st ⟨a,b⟩).2.2.2
    have f3:∀st:St,st.heap 19 g=some (.row 63 35 L.length (aF L))→g<st.aT 19→g9<st.aT 30→(G st).heap 30 g9=st.heap 30 g9:=fun st a b h=>(hG st ⟨a,b⟩).2.1.1 30 g9 h
    have c3:∀st:St,st.heap 19 g=some (.row 63 35 L.length (aF L))→g<st.aT 19→g9<st.aT 30→(g9<(G st).aT 30)=True:=fun st a b h=>eq_true (Nat.lt_of_lt_of_le h ((hG st ⟨a,b⟩).2.1.2 30))
    have eL:ol p.1.1=L:=by rw[hL];rfl
    rw[eL] at hs;apply Au ((ol R).length-(k+1))
    ·simp only[ZG,seval,Bool.false_and,Prod.mk.injEq,Kg,hI,aY,q0,er,Ck,Cl,Cm,Cn,g1,Md,hh,OE,hg,g2,aC6,kG,f1,bU,aV,aZ,hw];rfl
    ·exact⟨k+1,_,_,((some (L++[(⟨⟨p.1.2⟩,r.block,r.tries,0⟩:Request)]),IntKind.u64.wrap (p.1.2+1)),p.2),⟨by simp only[E8,seval,hI,bU],by simp only[E8,seval,hI,aV,aZ]<;>rfl,by simp only[E8,seval,hI,bU],by simp only[E8,seval,hI,hh,hg,aV,aZ,f2],by simp only[E8,seval,hI,bU],by simp only[E8,seval,hI,bU],by simp only[E8,seval,hI,hh,hg,aZ,c1],by simp only[E8,seval,hI,hh,hg,aZ,c2]⟩,.inr ⟨_,(L++[(⟨⟨p.1.2⟩,r.block,r.tries,0⟩:Request)]),rfl,rfl,by simp only[E8,seval,aZ,hh,hg,cn],by simp only[E8,seval,aV,aZ,hh,hg,fn]⟩,.inr ⟨g9,hz,rfl,by simp only[E8,seval,aZ,hg9,hh,hg,c3],by simp only[E8,seval,aV,aZ,hg9,OE,hh,hg,f3]⟩,hs.symm,by omega,rfl⟩
 case start=>exact⟨0,ov aF Q,.v (.slice none 0 0),((Q,t.dA),[]),⟨by simp only[E8,seval],by simp only[E8,seval,h.Gz]<;>rfl,by simp only[E8,seval],by simp only[E8,seval],by simp only[E8,seval],by simp only[E8,seval]<;>rfl,by simp only[E8,seval]<;>omega,by simp only[E8,seval]<;>omega⟩,.inl rfl,.inl ⟨rfl,rfl⟩,rfl,by omega,by omega⟩
 case rest =>
  rintro e st ⟨rfl,X,Y,p,hI,hX,hY,hp⟩
  have hv:aC7 t v.ns Q R=Dp t (ov aF p.1.1) (ov aF (nz p.2)) p.1.2:=by unfold aC7;rw[← hp]
  have hex:∀st:St,∀X' Y',cS st X=some X'→cS st Y=some Y'→fO st (.agg (aQ (Dp t X Y p.1.2)))=some (.agg (aQ (Dp t X' Y' p.1.2))):=fun st X' Y' hx hy=>p6 h st hx hy p.1.2
  rcases hX with rfl|⟨g,L,hL,rfl,hh⟩
  ·rcases hY with ⟨rfl,hz⟩|⟨g9,hz,rfl,OE⟩
   ·rw[hz,show nz ([]:List Request)=none from if_pos rfl] at hv
    simp only[ZG,seval,Bool.false_and,Prod.mk.injEq,Kg,hI];exact⟨_,eH rfl (by simp only[E8,seval,hI]<;>rfl) (by simp only[ZG,seval,hI]<;>rfl) (hex _ _ _ (pV _) (pV none)),by rw[hv]⟩
   ·rw[show nz p.2=some p.2 from if_neg hz] at hv;simp only[ZG,seval,Bool.false_and,Prod.mk.injEq,Kg,hI,OE];exact⟨_,eH rfl (by simp only[E8,seval,hI]<;>rfl) (by simp only[ZG,seval,hI]<;>rfl) (hex _ _ _ (pV _) (kF (by simp only[E8,seval,OE]<;>rfl))),by rw[hv]⟩
  ·rcases hY with ⟨rfl,hz⟩|⟨g9,hz,rfl,OE⟩
   ·rw[hz,show nz ([]:List Request)=none from if_pos rfl,hL] at hv
    simp only[ZG,seval,Bool.false_and,Prod.mk.injEq,Kg,hI,hh];exact⟨_,eH rfl (by simp only[E8,seval,hI]<;>rfl) (by simp only[ZG,seval,hI]<;>rfl) (hex _ _ _ (kF (by simp only[E8,seval,hh]<;>rfl)) (pV none)),by rw[hv]⟩
   ·rw[show nz p.2=some p.2 from if_neg hz,hL] at hv;simp only[ZG,seval,Bool.false_and,Prod.mk.injEq,Kg,hI,hh,OE];exact⟨_,eH rfl (by simp only[E8,seval,hI]<;>rfl) (by simp only[ZG,seval,hI]<;>rfl) (hex _ _ _ (kF (by simp only[E8,seval,hh]<;>rfl)) (kF (by simp only[E8,seval,OE]<;>rfl))),by rw[hv]⟩
theorem aHc (x:Int):IntKind.i64.wrap x≤9223372036854775807:=by
 rw[IntKind.wrap_i64];omega
def xB (a b:Request):Prop:=a.due<b.due∨(a.due=b.due∧a.tagged.tag<b.tagged.tag)
noncomputable def Co:Nat→List Request→List Request
 | 0,l=>l
 | k+1,l=>if xB (gx cY l ((k+1:Nat):Int)) (gx cY l (k:Int)) then Co k ((l.set (k+1) (gx cY l (k:Int))).set k (gx cY l ((k+1:Nat):Int))) else l
theorem OF:∀(k:Nat) (l:List Request),(Co k l).length=l.length
 | 0,l=>rfl
 | k+1,l=>by
   unfold Co;split
   ·rw[OF k,List.length_set,List.length_set]
   ·rfl
noncomputable def OG (t:State) (r:Request):Request:={ r with tries:=IntKind.i64.wrap (r.tries+1),due:=IntKind.u64.wrap (t.store.now+VO (IntKind.i64.wrap (r.tries+1)) t.store.cFg.lK.rQ)}
noncomputable def G7 (t:State) (ns:List Node) (R:List Request) (r:Request):State :=
 if ¬zY ns r.block then t else if t.store.cFg.lK.oP≤(R.length:Int) then { t with overflow:=true } else { t with rO:=ov aF (some (Co R.length (R++[OG t r])))}
theorem c72 {t:State} {v:SV} {Q R:Option (List Request)} (h:TD t v Q R) (r:Request):aB Tryz.prog 72 [.agg (aQ t),.agg (dF r)]=some (.agg (aQ (G7 t v.ns (ol R) r))):=by
 have hf:=h.flat
 have pJ:=h.fl
 have nR:=h.nR
 have nR1:((ol R).length:Int)<1000000:=by omega
 have G3:=k85 h r.block
 have fr:Flat (.agg (dF r)):=.agg _ (jQ r)
 rw[cL Tryz.func72 rfl aSe rfl];refine gX ?_
 by_cases g1:zY v.ns r.block
 case neg =>
  simp only[Z8,seval,G3,g1];exact⟨_,fJ rfl (by simp only[E8,seval,hf]<;>rfl) (by simp only[Z8,seval,hf]<;>rfl) (by simp only[dU,and_self,hf]),by rw[G7,if_pos g1]⟩
 by_cases g2:t.store.cFg.lK.oP≤((ol R).length:Int)
 ·have hf2:Flat (.agg (aQ { t with overflow:=true })):=(uG _).2 pJ
  simp only[Z8,seval,G3,g1,h.ret,g2];exact⟨_,fJ rfl (by simp only[E8,seval,pJ]<;>rfl) (by simp only[Z8,seval,pJ]<;>rfl) (by simp only[dU,and_self,pJ]),by rw[G7,if_neg (fun hh=>hh g1),if_pos g2,← h.ret]⟩
 have hv:G7 t v.ns (ol R) r=_:=(if_neg (fun hh=>hh g1)).trans (if_neg g2)
 rw[hv];have k143':=aRY (IntKind.i64.wrap (r.tries+1)) t.store.cFg.lK.rQ (aHc _)
 obtain⟨L0,hL0⟩:∃L0,ol R++[OG t r]=L0:=⟨_,rfl⟩
 have hlL:L0.length=(ol R).length+1:=by rw[← hL0,List.length_append,List.length_cons,List.length_nil]
 have hL0':ol R++[({ tagged:=r.tagged,block:=r.block,tries:=IntKind.i64.wrap (r.tries+1),due:=IntKind.u64.wrap (t.store.now+VO (IntKind.i64.wrap (r.tries+1)) t.store.cFg.lK.rQ)}:Request)]=L0:=hL0
 rw[hL0];have w1:IntKind.i64.wrap ((L0.length:Int)-1)=((ol R).length:Int):=by rw[mT _ (by omega) (by omega)];omega
 simp only[Z8,seval,G3,g1,h.ret,g2,k143',lD,lE,rG _ nR1,tP _ _ _ _ nR1,hL0',w1];refine cC (fun m st=>∃(k:Nat) (l:List Request),(st.env 2=.ptr 2 0 0∧st.heap 2 0=some (.cells (aQ t))∧st.env 4=.ptr 4 0 0∧st.heap 4 0=some (.cells (aQ lZ))∧st.env 5=.own 46 0∧st.heap 46 0=some (.row 63 35 l.length (aF l))∧st.env 6=.v (.int .i64 k))∧Co k l=Co (ol R).length L0∧l.length=L0.length∧k≤(ol R).length∧m=k)
  (fun e st=>e=.exit 0∧∃(l:List Request),(st.env 2=.ptr 2 0 0∧st.heap 2 0=some (.cells (aQ t))∧st.env 4=.ptr 4 0 0∧st.heap 4 0=some (.cells (aQ lZ))∧st.env 5=.own 46 0∧st.heap 46 0=some (.row 63 35 l.length (aF l)))∧l=Co (ol R).length L0) (ol R).length ?step ?start ?rest
 case step =>
  rintro m st ⟨k,l,hI,hb,hl,hk,hm⟩
  cases k with
  | zero =>
    have z0:¬((0:Int)<((0:Nat):Int)):=by omega
    have hI':=hI
    apply oT (.exit 0)
    ·simp only[Z8,seval,hI,Int.lt_irrefl,lD,lE];rfl
    ·exact⟨rfl,l,by simp only[E8,seval,hI],by rw[← hb];rfl⟩
  | succ j =>
    obtain⟨i,hi⟩:∃i:Int,i=((j+1:Nat):Int):=⟨_,rfl⟩
    obtain⟨i',Db⟩:∃i':Int,i'=(j:Int):=⟨_,rfl⟩
    rw[← hi] at hI;have p0:(0:Int)<i:=by omega
    have p1:(0:Int)≤i:=by omega
    have p2:i<(l.length:Int):=by omega
    have q1:(0:Int)≤i':=by omega
    have q2:i'<(l.length:Int):=by omega
    have hw:IntKind.i64.wrap (i-1)=i':=by rw[mT _ (by omega) (by omega)];omega
    have ti:i.toNat=j+1:=by omega
    have ti':i'.toNat=j:=by omega
    obtain⟨a,ea⟩:∃a,gx cY l i=a:=⟨_,rfl⟩
    obtain⟨b,eb⟩:∃b,gx cY l i'=b:=⟨_,rfl⟩
    have d1:=Fc (T:=23) (n:=l.length) (k:=1) (off:=34) p1 p2 UW (by decide) (by decide)
    have d2:=Fc (T:=23) (n:=l.length) (k:=1) (off:=34) q1 q2 UW (by decide) (by decide)
    have d3:=Aa (T:=23) (n:=l.length) (k:=1) p1 p2 UW (by decide) (by decide)
    have d4:=Aa (T:=23) (n:=l.length) (k:=1) q1 q2 UW (by decide) (by decide)
    have d5:=Aa (T:=63) (n:=l.length) (k:=35) p1 p2 aHe (by decide) (by decide)
    have d6:=Aa (T:=63) (n:=l.length) (k:=35) q1 q2 aHe (by decide) (by decide)
    rw[ea] at d1 d3 d5;rw[eb] at d2 d4 d6;have aC8:∀P:Prop,(xB a b↔P)→Co (j+1) l=if P then Co j ((l.set (j+1) b).set j a) else l:=fun P hP=>by
     have e1:gx cY l ((j+1:Nat):Int)=a:=by rw[← hi];exact ea
     have e2:gx cY l (j:Int)=b:=by rw[← Db];exact eb
     have e0:Co (j+1) l=if xB (gx cY l ((j+1:Nat):Int)) (gx cY l (j:Int)) then Co j ((l.set (j+1) (gx cY l (j:Int))).set j (gx cY l ((j+1:Nat):Int))) else l:=rfl
     rw[e0,e1,e2];by_cases hh:xB a b
     ·rw[if_pos hh,if_pos (hP.1 hh)]
     ·rw[if_neg hh,if_neg (fun x=>hh (hP.2 x))]
    have x3:i.toNat * 35+35≤l.length * 35:=by omega
    have x4:i'.toNat * 35+35≤(l.set i.toNat b).length * 35:=by rw[List.length_set];omega
    have x4':i'.toNat * 35+35≤l.length * 35:=by omega
    have u1:=Me l i b (by omega)
    have u2:=Me (l.set i.toNat b) i' a (by rw[List.length_set];omega)
    have swp:(l.set i.toNat b).set i'.toNat a=(l.set (j+1) b).set j a:=by rw[ti,ti']
    by_cases g3:a.due<b.due
    ·have oF:=aC8 True (iff_of_true (.inl g3) trivial)
     rw[if_pos trivial] at oF
     apply oN (j)
     ·simp only[Z8,seval,hI,p0,p1,p2,q1,q2,hw,d1,d2,d3,d4,d5,d6,g3,x3,x4,x4',u1,u2,List.length_set,lD,lE];rfl
     ·exact⟨j,(l.set i.toNat b).set i'.toNat a,⟨by simp only[E8,seval,hI],by simp only[E8,seval,hI],by simp only[E8,seval,hI],by simp only[E8,seval,hI],by simp only[E8,seval,hI],by rw[List.length_set,List.length_set];simp only[E8,seval,List.length_set]<;>rfl,by simp only[E8,seval,Db]⟩,by rw[swp,← oF];exact hb,by rw[List.length_set,List.length_set];exact hl,by omega,rfl⟩
    by_cases g4:a.due=b.due
    case neg =>
     have oF:=aC8 False (iff_of_false (fun x=>x.elim g3 fun y=>g4 y.1) id)
     rw[if_neg id] at oF
     apply oT (.exit 0)
     ·simp only[Z8,seval,hI,p0,p1,p2,q1,q2,hw,d1,d2,d3,d4,d5,d6,g3,bf g4,lD,lE];rfl
     ·exact⟨rfl,l,by simp only[E8,seval,hI],by rw[← hb,oF]⟩
    by_cases g5:a.tagged.tag<b.tagged.tag
    ·have oF:=aC8 True (iff_of_true (.inr ⟨g4,g5⟩) trivial)
     rw[if_pos trivial] at oF
     apply oN (j)
     ·simp only[Z8,seval,hI,p0,p1,p2,q1,q2,hw,d1,d2,d3,d4,d5,d6,g3,bt g4,g5,x3,x4,x4',u1,u2,List.length_set,lD,lE];rfl
     ·exact⟨j,(l.set i.toNat b).set i'.toNat a,⟨by simp only[E8,seval,hI],by simp only[E8,seval,hI],by simp only[E8,seval,hI],by simp only[E8,seval,hI],by simp only[E8,seval,hI],by rw[List.length_set,List.length_set];simp only[E8,seval,List.length_set]<;>rfl,by simp only[E8,seval,Db]⟩,by rw[swp,← oF];exact hb,by rw[List.length_set,List.length_set];exact hl,by omega,rfl⟩
    ·have oF:=aC8 False (iff_of_false (fun x=>x.elim g3 fun y=>g5 y.2) id)
     rw[if_neg id] at oF
     apply oT (.exit 0)
     ·simp only[Z8,seval,hI,p0,p1,p2,q1,q2,hw,d1,d2,d3,d4,d5,d6,g3,bt g4,g5,lD,lE];rfl
     ·exact⟨rfl,l,by simp only[E8,seval,hI],by rw[← hb,oF]⟩
 case start=>exact⟨(ol R).length,L0,by simp only[E8,seval]<;>rfl,rfl,rfl,by omega,rfl⟩
 case rest =>
  rintro e st ⟨rfl,l,hI,hl⟩
  have hex:=pM l.length l
  subst hl;simp only[Z8,seval,hI];exact⟨_,by apply eH;rfl;all_goals simp only[aH,Z8,seval,hI,hex,pJ,bS,vX,gJ,bP,cW,pM,dU]<;>rfl,rfl⟩
theorem aSf {t:State} {v:SV} {Q R:Option (List Request)} {q:Int} (hT:TD t v Q R) (h:GI t.store v q) (r:RG t.store v) (hB:0<(ol v.B).length∧(ol v.B).length≤64) (hq:∀r∈ol Q,Rg r.tagged.tag) (n k:Int) (hk:0≤k) :
 ∃x,aB Tryz.prog 146 [.agg (aQ t),.v (.int .i64 n),.v (.int .i64 k)]=some x∧∃y:xM,x=.agg (lA y)∧pK y∧(y.kind=2→y.block.root=mkRoot n∨∃m∈v.ns,y.block.root=m.block.root):=by
 have z:=zOk
 have hm:=Bg hk (min 4 IntKind.i64.bits)
 have hf:=hT.flat
 have ZM:=h.sd.flat
 obtain⟨x1,e1,b,rfl,rb⟩:=x50 h r n (k.fdiv (2 ^ min 4 IntKind.i64.bits)) hm
 obtain⟨x2,e2,a,V,rfl,hV,nV,ra1,ra2⟩:=x37 h r hB (k.fdiv (2 ^ min 4 IntKind.i64.bits)) hm
 obtain⟨x3,e3,sl,rfl,c1,c2,s1,s2,s3,s4⟩:=aRM (ol v.B).length (k.fdiv (2 ^ min 4 IntKind.i64.bits)) (by omega) (by omega)
 obtain⟨x4,e4,tb,bl,rfl,hb,nb,rbl,rt⟩:=aRN h r hB (k.fdiv (2 ^ min 4 IntKind.i64.bits)) hm
 obtain⟨x5,e5,w,rfl,rw5⟩:=x25 hT h hq (k.fdiv (2 ^ min 4 IntKind.i64.bits)) hm
 have fA:Flat a.eZ:=by rw[hV];exact bX _
 have fT:Flat tb.iP:=by rw[hb];exact dY _
 have k50:=kx e1 (lM ZM (.v _) (.v _)) (qL b)
 have k37:=kx e2 (bE ZM (.v _)) ((zP a).2 fA)
 have k182:=kx e3 (bE (.v _) (.v _)) ((nC sl).2 ⟨(zQ _).1 c1.fl,(zQ _).1 c2.fl⟩)
 have k183:=kx e4 (bE ZM (.v _)) ((iG tb).2 fT)
 have k25:=kx e5 (bE hf (.v _)) (.agg _ (jR w))
 have y1:pK { zX with kind:=1 }:=⟨z.Gp,z.c1,z.c2,z.VK,z.rb,z.ra,z.rs,z.rt,z.rv⟩
 have y2:pK { zX with kind:=2,block:=b }:=⟨z.Gp,z.c1,z.c2,z.VK,rb.toRB,z.ra,z.rs,z.rt,z.rv⟩
 have y3:pK { zX with kind:=3,Gp:=a }:=⟨⟨some V,hV,nV⟩,z.c1,z.c2,z.VK,z.rb,⟨ra1,ra2⟩,z.rs,z.rt,z.rv⟩
 have y4:pK { zX with kind:=4,pB:=sl }:=⟨z.Gp,c1,c2,z.VK,z.rb,z.ra,⟨s1,s2,s3,s4⟩,z.rt,z.rv⟩
 have y5:pK { zX with kind:=5,table:=tb }:=⟨z.Gp,z.c1,z.c2,⟨some bl,hb,nb,rbl⟩,z.rb,z.ra,z.rs,rt,z.rv⟩
 have y6:pK { zX with kind:=6,verdict:=w }:=⟨z.Gp,z.c1,z.c2,z.VK,z.rb,z.ra,z.rs,z.rt,rw5⟩
 rw[cL Tryz.func146 rfl aMZ rfl];by_cases c0:((k).tmod 16)=0
 ·simp only[Z8,seval,bt c0];exact⟨_,fJ rfl (by simp only[E8,seval]<;>rfl) (by simp only[Z8,seval]<;>rfl) y1.flat,_,rfl,y1,fun h=>absurd (show (1:Int)=2 from h) (by decide)⟩
 by_cases c1:((k).tmod 16)=1
 ·simp only[Z8,seval,bf c0,bt c1];exact⟨_,fJ rfl (by simp only[E8,seval]<;>rfl) (by simp only[Z8,seval]<;>rfl) y1.flat,_,rfl,y1,fun h=>absurd (show (1:Int)=2 from h) (by decide)⟩
 by_cases c2:((k).tmod 16)=2
 ·simp only[Z8,seval,bf c0,bf c1,bt c2];exact⟨_,fJ rfl (by simp only[E8,seval]<;>rfl) (by simp only[Z8,seval]<;>rfl) y1.flat,_,rfl,y1,fun h=>absurd (show (1:Int)=2 from h) (by decide)⟩
 by_cases c3:((k).tmod 16)=3
 ·simp only[Z8,seval,bf c0,bf c1,bf c2,bt c3,k50];exact⟨_,fJ rfl (by simp only[E8,seval]<;>rfl) (by simp only[Z8,seval]<;>rfl) y2.flat,_,rfl,y2,fun _=>rb.rt⟩
 by_cases c4:((k).tmod 16)=4
 ·simp only[Z8,seval,bf c0,bf c1,bf c2,bf c3,bt c4,k50];exact⟨_,fJ rfl (by simp only[E8,seval]<;>rfl) (by simp only[Z8,seval]<;>rfl) y2.flat,_,rfl,y2,fun _=>rb.rt⟩
 by_cases c5:((k).tmod 16)=5
 ·simp only[Z8,seval,bf c0,bf c1,bf c2,bf c3,bf c4,bt c5,k50];exact⟨_,fJ rfl (by simp only[E8,seval]<;>rfl) (by simp only[Z8,seval]<;>rfl) y2.flat,_,rfl,y2,fun _=>rb.rt⟩
 by_cases c6:((k).tmod 16)=6
 ·simp only[Z8,seval,bf c0,bf c1,bf c2,bf c3,bf c4,bf c5,bt c6,k50];exact⟨_,fJ rfl (by simp only[E8,seval]<;>rfl) (by simp only[Z8,seval]<;>rfl) y2.flat,_,rfl,y2,fun _=>rb.rt⟩
 by_cases c7:((k).tmod 16)=7
 ·simp only[Z8,seval,bf c0,bf c1,bf c2,bf c3,bf c4,bf c5,bf c6,bt c7,k50];exact⟨_,fJ rfl (by simp only[E8,seval]<;>rfl) (by simp only[Z8,seval]<;>rfl) y2.flat,_,rfl,y2,fun _=>rb.rt⟩
 by_cases c8:((k).tmod 16)=8
 ·simp only[Z8,seval,bf c0,bf c1,bf c2,bf c3,bf c4,bf c5,bf c6,bf c7,bt c8,k37];exact⟨_,fJ rfl (by simp only[E8,seval]<;>rfl) (by simp only[Z8,seval]<;>rfl) y3.flat,_,rfl,y3,fun h=>absurd (show (3:Int)=2 from h) (by decide)⟩
 by_cases c9:((k).tmod 16)=9
 ·simp only[Z8,seval,bf c0,bf c1,bf c2,bf c3,bf c4,bf c5,bf c6,bf c7,bf c8,bt c9,k37];exact⟨_,fJ rfl (by simp only[E8,seval]<;>rfl) (by simp only[Z8,seval]<;>rfl) y3.flat,_,rfl,y3,fun h=>absurd (show (3:Int)=2 from h) (by decide)⟩
 by_cases c10:((k).tmod 16)=10
 ·simp only[Z8,seval,bf c0,bf c1,bf c2,bf c3,bf c4,bf c5,bf c6,bf c7,bf c8,bf c9,bt c10,k37];exact⟨_,fJ rfl (by simp only[E8,seval]<;>rfl) (by simp only[Z8,seval]<;>rfl) y3.flat,_,rfl,y3,fun h=>absurd (show (3:Int)=2 from h) (by decide)⟩
 by_cases c11:((k).tmod 16)=11
 ·simp only[Z8,seval,bf c0,bf c1,bf c2,bf c3,bf c4,bf c5,bf c6,bf c7,bf c8,bf c9,bf c10,bt c11,h.sd.iP,k182];exact⟨_,fJ rfl (by simp only[E8,seval]<;>rfl) (by simp only[Z8,seval]<;>rfl) y4.flat,_,rfl,y4,fun h=>absurd (show (4:Int)=2 from h) (by decide)⟩
 by_cases c12:((k).tmod 16)=12
 ·simp only[Z8,seval,bf c0,bf c1,bf c2,bf c3,bf c4,bf c5,bf c6,bf c7,bf c8,bf c9,bf c10,bf c11,bt c12,k183];exact⟨_,fJ rfl (by simp only[E8,seval]<;>rfl) (by simp only[Z8,seval]<;>rfl) y5.flat,_,rfl,y5,fun h=>absurd (show (5:Int)=2 from h) (by decide)⟩
 simp only[Z8,seval,bf c0,bf c1,bf c2,bf c3,bf c4,bf c5,bf c6,bf c7,bf c8,bf c9,bf c10,bf c11,bf c12,k25];exact⟨_,fJ rfl (by simp only[E8,seval]<;>rfl) (by simp only[Z8,seval]<;>rfl) y6.flat,_,rfl,y6,fun h=>absurd (show (6:Int)=2 from h) (by decide)⟩
theorem aSj (l:List Int) (hl:(l.length:Int)≤9223372036854775807):∃x,aB Tryz.prog 101 [.sl l.length (aK l)]=some x∧∃(c:Config) (b:List Int),x=.agg (bW c)∧Ht c b:=by
 have k0:=Nt l hl 0 (by omega) (by omega)
 obtain⟨a0,b0⟩:=cK (n:=8) (Hf l hl 0 (by omega) (by omega)).2.1 (by omega)
 obtain⟨x0,h0⟩:∃x,(Kd l 0).tmod 8=x:=⟨_,rfl⟩
 rw[h0] at a0 b0;have k1:=Nt l hl 1 (by omega) (by omega)
 obtain⟨a1,b1⟩:=cK (n:=4) (Hf l hl 1 (by omega) (by omega)).2.1 (by omega)
 obtain⟨x1,h1⟩:∃x,(Kd l 1).tmod 4=x:=⟨_,rfl⟩
 rw[h1] at a1 b1;have k2:=Nt l hl 2 (by omega) (by omega)
 obtain⟨a2,b2⟩:=cK (n:=4) (Hf l hl 2 (by omega) (by omega)).2.1 (by omega)
 obtain⟨x2,h2⟩:∃x,(Kd l 2).tmod 4=x:=⟨_,rfl⟩
 rw[h2] at a2 b2;have k3:=Nt l hl 3 (by omega) (by omega)
 obtain⟨a3,b3⟩:=cK (n:=4) (Hf l hl 3 (by omega) (by omega)).2.1 (by omega)
 obtain⟨x3,h3⟩:∃x,(Kd l 3).tmod 4=x:=⟨_,rfl⟩
 rw[h3] at a3 b3;have k4:=Nt l hl 4 (by omega) (by omega)
 obtain⟨a4,b4⟩:=cK (n:=4) (Hf l hl 4 (by omega) (by omega)).2.1 (by omega)
 obtain⟨x4,h4⟩:∃x,(Kd l 4).tmod 4=x:=⟨_,rfl⟩
 rw[h4] at a4 b4;have k5:=Nt l hl 5 (by omega) (by omega)
 obtain⟨a5,b5⟩:=cK (n:=5) (Hf l hl 5 (by omega) (by omega)).2.1 (by omega)
 obtain⟨x5,h5⟩:∃x,(Kd l 5).tmod 5=x:=⟨_,rfl⟩
 rw[h5] at a5 b5;have k6:=Nt l hl 6 (by omega) (by omega)
 obtain⟨a6,b6⟩:=cK (n:=4) (Hf l hl 6 (by omega) (by omega)).2.1 (by omega)
 obtain⟨x6,h6⟩:∃x,(Kd l 6).tmod 4=x:=⟨_,rfl⟩
 rw[h6] at a6 b6;have k7:=Nt l hl 7 (by omega) (by omega)
 obtain⟨a7,b7⟩:=cK (n:=3) (Hf l hl 7 (by omega) (by omega)).2.1 (by omega)
 obtain⟨x7,h7⟩:∃x,(Kd l 7).tmod 3=x:=⟨_,rfl⟩
 rw[h7] at a7 b7;have k8:=Nt l hl 8 (by omega) (by omega)
 obtain⟨a8,b8⟩:=cK (n:=2) (Hf l hl 8 (by omega) (by omega)).2.1 (by omega)
 obtain⟨x8,h8⟩:∃x,(Kd l 8).tmod 2=x:=⟨_,rfl⟩
 rw[h8] at a8 b8;have k9:=Nt l hl 9 (by omega) (by omega)
 obtain⟨a9,b9⟩:=cK (n:=5) (Hf l hl 9 (by omega) (by omega)).2.1 (by omega)
 obtain⟨x9,h9⟩:∃x,(Kd l 9).tmod 5=x:=⟨_,rfl⟩
 rw[h9] at a9 b9;have w0:IntKind.i64.wrap (6+x0)=6+x0:=mT _ (by omega) (by omega)
 have w3:IntKind.i64.wrap (1+x3)=1+x3:=mT _ (by omega) (by omega)
 have w5:IntKind.i64.wrap (1+x5)=1+x5:=mT _ (by omega) (by omega)
 have w5':IntKind.u64.wrap (1+x5)=1+x5:=wrap_u64 _ (by omega) (by omega)
 have w6:IntKind.i64.wrap (1+x6)=1+x6:=mT _ (by omega) (by omega)
 have w6':IntKind.u64.wrap (1+x6)=1+x6:=wrap_u64 _ (by omega) (by omega)
 have w9:IntKind.i64.wrap (2+x9)=2+x9:=mT _ (by omega) (by omega)
 have g7:=nX (l:=[0,40,100]) a7 (by show x7<((3:Nat):Int);omega)
 obtain⟨bp,hbp⟩:∃y,it [0,40,100] x7=y:=⟨_,rfl⟩
 have hbp1:0≤bp∧bp≤100:=by
  rcases (by omega:x7=0∨x7=1∨x7=2) with e|e|e<;>(rw[e] at hbp;rw[← hbp];decide)
 have w7:IntKind.u64.wrap bp=bp:=wrap_u64 _ (by omega) (by omega)
 rw[cL Tryz.func101 rfl aFS rfl];simp only[Z8,seval,lD,lE,k0,k1,k2,k3,k4,k5,k6,k7,k8,h0,h1,h2,h3,h4,h5,h6,h7,h8,w0,w3,w5,w5',w6,w6',a7,b7,g7,hbp,w7,pL,Nat.reduceLT,Ra];have n9:(2+x9).toNat≤6:=by omega
 refine cC (fun m st=>∃(j:Nat) (lK:lH) (sp bq:Int) (tt:qE) (X:AV) (b:List Int),(st.env 0=.sl l.length (aK l)∧st.env 2=.ptr 2 0 0∧st.heap 2 0=some (.cells (bW mQ))∧st.env 3=.ptr 3 0 0∧st.heap 3 0=some (.cells (bW ⟨lK,sp,bq,tt,mkRoot 1,X⟩))∧st.env 4=.v (.int .i64 j))∧(lK=⟨6+x0,x1,x2,1+x3,x4,1+x5⟩∧sp=1+x6∧bq=bp)∧((X=.v (.slice none 0 0)∧b=[])∨∃g,X=.own 64 g∧g<st.aT 64∧st.heap 64 g=some (.row 23 1 b.length (bK b)))∧(∀y∈b,0≤y∧y≤1000)∧b.length=j∧j≤(2+x9).toNat∧m=(2+x9).toNat-j)
  (fun e st=>e=.exit 0∧∃(lK:lH) (sp bq:Int) (tt:qE) (g:Nat) (b:List Int),(st.env 2=.ptr 2 0 0∧st.heap 2 0=some (.cells (bW mQ))∧st.env 3=.ptr 3 0 0∧st.heap 3 0=some (.cells (bW ⟨lK,sp,bq,tt,mkRoot 1,.own 64 g⟩))∧st.heap 64 g=some (.row 23 1 b.length (bK b)))∧(lK=⟨6+x0,x1,x2,1+x3,x4,1+x5⟩∧sp=1+x6∧bq=bp)∧(∀y∈b,0≤y∧y≤1000)∧1≤b.length∧b.length≤6) (2+x9).toNat ?step ?start ?rest
 case step =>
  rintro m st ⟨j,lK,sp,bq,tt,X,b,hI,hC,hX,hb,hj,hjn,hm⟩
  by_cases aY:(j:Int)<2+x9
  ·have q0:(0:Int)≤j:=by omega
   have hw:IntKind.i64.wrap ((j:Int)+1)=((j+1:Nat):Int):=by rw[mT _ (by omega) (by omega)];omega
   obtain⟨jj,hjj⟩:∃jj:Int,jj=10+(j:Int):=⟨_,rfl⟩
   have ZW:IntKind.i64.wrap (10+(j:Int))=jj:=by rw[mT _ (by omega) (by omega),hjj]
   have kj:=Nt l hl jj (by omega) (by omega)
   obtain⟨aj,bj⟩:=cK (n:=40) (Hf l hl jj (by omega) (by omega)).2.1 (by omega)
   obtain⟨y,hy⟩:∃y,(Kd l jj).tmod 40=y:=⟨_,rfl⟩
   rw[hy] at aj bj;have wy:IntKind.u64.wrap y=y:=wrap_u64 _ (by omega) (by omega)
   have nL:(b.length:Int)<1000000:=by omega
   have Tu:∀z∈b++[y],0≤z∧z≤1000:=fun z hz=>(List.mem_append.1 hz).elim (hb z) fun e=>by rw[List.mem_singleton] at e;rw[e];omega
   have yF:(b++[y]).length=j+1:=by rw[List.length_append,List.length_cons,List.length_nil];omega
   rcases hX with ⟨rfl,rfl⟩|⟨g,rfl,hg,hh⟩
   ·apply oN ((2+x9).toNat-(j+1))
    ·simp only[Z8,seval,hI,k9,h9,w9,aY,ZW,kj,hy,wy,hw];rfl
    ·exact⟨j+1,_,_,_,_,_,[]++[y],⟨by simp only[E8,seval,hI],by simp only[E8,seval,hI],by simp only[E8,seval,hI],by simp only[E8,seval,hI],by simp only[E8,seval,hI]<;>rfl,by simp only[E8,seval]⟩,hC,.inr ⟨_,rfl,by simp only[E8,seval]<;>omega,by simp only[E8,seval]<;>rfl⟩,Tu,yF,by omega,rfl⟩
   ·have vC:(g=st.aT 64)=False:=eq_false (by omega)
    apply oN ((2+x9).toNat-(j+1))
    ·simp only[Z8,seval,hI,hh,vC,k9,h9,w9,aY,ZW,kj,hy,wy,hw,wK _ _ _ _ nL];rfl
    ·exact⟨j+1,_,_,_,_,_,b++[y],⟨by simp only[E8,seval,hI],by simp only[E8,seval,hI],by simp only[E8,seval,hI],by simp only[E8,seval,hI],by simp only[E8,seval,hI]<;>rfl,by simp only[E8,seval]⟩,hC,.inr ⟨_,rfl,by simp only[E8,seval]<;>omega,by simp only[E8,seval]<;>rfl⟩,Tu,yF,by omega,rfl⟩
  ·rcases hX with ⟨rfl,rfl⟩|⟨g,rfl,hg,hh⟩
   ·simp at hj;omega
   ·apply oT (.exit 0)
    ·simp only[Z8,seval,hI,k9,h9,w9,aY];rfl
    ·exact⟨rfl,_,_,_,_,g,b,⟨by simp only[E8,seval,hI],by simp only[E8,seval,hI],by simp only[E8,seval,hI],by simp only[E8,seval,hI]<;>rfl,by simp only[E8,seval,hh]⟩,hC,hb,by omega,by omega⟩
 case start=>exact⟨0,_,_,_,_,_,[],by and_intros<;>(simp only[E8,seval]<;>rfl),⟨rfl,rfl,rfl⟩,.inl ⟨rfl,rfl⟩,by simp,rfl,by omega,by omega⟩
 case rest =>
  rintro e st ⟨rfl,lK,sp,bq,tt,g,b,hI,⟨rfl,rfl,rfl⟩,hb,yF,Uu⟩
  simp only[Z8,seval,hI];exact⟨_,by apply eH;rfl;all_goals simp only[aH,Z8,seval,hI,bS,Mf,bP,uN,dU]<;>rfl,⟨⟨6+x0,x1,x2,1+x3,x4,1+x5⟩,1+x6,bq,tt,mkRoot 1,ov bK (some b)⟩,b,rfl,⟨rfl,by omega,hb,by dsimp only;omega,by dsimp only;omega,by dsimp only;omega,by dsimp only;omega,by dsimp only;omega,by dsimp only;omega,by dsimp only;omega,by dsimp only;omega,rfl,by dsimp only;omega⟩⟩
end Go.Ab.Tryz
