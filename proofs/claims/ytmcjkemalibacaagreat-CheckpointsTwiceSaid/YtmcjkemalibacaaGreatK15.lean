/-
  Part 15 of the proof: an evaluator of programs, its soundness, and what functions of this program compute.
-/
import Derived.Test.YtmcjkemalibacaaGreatK14
import Derived.Test.YtmcjkemalibacaaGreatK12
set_option linter.all false
set_option maxRecDepth 20000
set_option maxHeartbeats 40000000
namespace Go.Ab.Tryz
open Classical Go.Proofs Go.Ab
def kU:Code→Code
 | .loop b=>.loop b
 | .seq a b=>match kU a with
   | .skip=>kU b
   | c=>c
 | .cond _ a b=>match kU a with
   | .skip=>kU b
   | c=>c
 | .block _ b=>kU b
 | _=>.skip
noncomputable def Cf:Code:=kU (Tryz.f203.body.getD .skip)
def aRH (s:aM) (v:SV) (q:Int) (m:Nat) (st:St):Prop:=∃(S0:aM) (w:SV) (X:AV) (R:List cN) (a g:Nat),((st).env 2=.ptr 2 0 0∧(st).heap 2 0=some (.cells (aA (mV S0 X)))∧(st).env 4=.ptr 4 0 0∧(st).heap 4 0=some (.cells (aA fW))∧(st).env 9=.own a g∧(st).heap a g=some (.row 27 32 R.length (hU R))∧(st).env 10=.v (.int .i64 (DX w)))∧((a=66∧g=0)∨(a=105∧g<st.aU 105))∧(X=ov aF w.O∨∃g' L,w.O=some L∧X=.own 91 g'∧g'<st.aU 91∧st.heap 91 g'=some (.row 74 238 L.length (aF L)))∧GI S0 w q∧RG S0 w∧S0.cFg=s.cFg∧R.length+(ol w.O).length≤1+(ol v.O).length∧m=(ol w.O).length
def I6 (s:aM) (v:SV) (q:Int) (e:Ex) (st:St):Prop:=e=.exit 0∧∃(S0:aM) (w:SV) (X:AV) (R:List cN) (a g:Nat),(st.env 2=.ptr 2 0 0∧st.heap 2 0=some (.cells (aA (mV S0 X)))∧st.env 4=.ptr 4 0 0∧st.heap 4 0=some (.cells (aA fW))∧st.env 9=.own a g∧st.heap a g=some (.row 27 32 R.length (hU R)))∧a≠4∧(X=ov aF w.O∨∃g' L,w.O=some L∧X=.own 91 g'∧st.heap 91 g'=some (.row 74 238 L.length (aF L)))∧GI S0 w q∧RG S0 w∧S0.cFg=s.cFg∧R.length≤1+(ol v.O).length
theorem JP {s:aM} {v:SV} {q:Int} (nb:((ol v.O).length:Int)≤64) {m:Nat} {st:St} (hs:aRH s v q m st):∃e st',Aa Tryz.prog Cf st=some (e,st')∧I6 s v q e st':=by
 have key:∃r,cT (Aa Tryz.prog Cf st) some=some r∧I6 s v q r.1 r.2:=by
  unfold Cf;simp only[Tryz.f203,Option.getD_some,kU];refine cI (fun m st=>∃(S0:aM) (w:SV) (X:AV) (R:List cN) (a g:Nat),((st).env 2=.ptr 2 0 0∧(st).heap 2 0=some (.cells (aA (mV S0 X)))∧(st).env 4=.ptr 4 0 0∧(st).heap 4 0=some (.cells (aA fW))∧(st).env 9=.own a g∧(st).heap a g=some (.row 27 32 R.length (hU R))∧(st).env 10=.v (.int .i64 (DX w)))∧((a=66∧g=0)∨(a=105∧g<st.aU 105))∧(X=ov aF w.O∨∃g' L,w.O=some L∧X=.own 91 g'∧g'<st.aU 91∧st.heap 91 g'=some (.row 74 238 L.length (aF L)))∧GI S0 w q∧RG S0 w∧S0.cFg=s.cFg∧R.length+(ol w.O).length≤1+(ol v.O).length∧m=(ol w.O).length) (fun e st=>e=.exit 0∧∃(S0:aM) (w:SV) (X:AV) (R:List cN) (a g:Nat),(st.env 2=.ptr 2 0 0∧st.heap 2 0=some (.cells (aA (mV S0 X)))∧st.env 4=.ptr 4 0 0∧st.heap 4 0=some (.cells (aA fW))∧st.env 9=.own a g∧st.heap a g=some (.row 27 32 R.length (hU R)))∧a≠4∧(X=ov aF w.O∨∃g' L,w.O=some L∧X=.own 91 g'∧st.heap 91 g'=some (.row 74 238 L.length (aF L)))∧GI S0 w q∧RG S0 w∧S0.cFg=s.cFg∧R.length≤1+(ol v.O).length) m ?step ?start ?rest
  case start=>exact hs
  case rest=>exact fun e st h=>⟨_,rfl,h⟩
  case step =>
   clear hs
   rintro m st ⟨S0,w,X,R,a,g,hI,JM,hX,hG,oL,hC,hR,hm⟩
   have hlO:=hG.nO
   have hlB:=hG.OR
   by_cases bA:0≤DX w
   case neg =>
    have hI':=hI
    have hX':X=ov aF w.O∨∃g' L,w.O=some L∧X=.own 91 g'∧st.heap 91 g'=some (.row 74 238 L.length (aF L)):=hX.imp id fun ⟨g',L,h1,h2,_,h4⟩=>⟨g',L,h1,h2,h4⟩
    apply oT (.exit 0)
    ·simp only[Z8,seval,hI,bA];rfl
    ·exact⟨rfl,S0,w,X,R,a,g,by simp only[E8,seval,hI],by omega,by simpa only[E8,seval] using hX',hG,oL,hC,by omega⟩
   obtain⟨k,hk,hkp,hkw⟩:∃k:Nat,k<(ol w.O).length∧0≤aN w.ns (gx dX (ol w.O) k).parent∧DX w=k:=by
    rcases sY (fun k=>0≤aN w.ns (gx dX (ol w.O) k).parent) (ol w.O).length with ⟨e,_⟩|⟨k,h1,h2,_,h3⟩
    ·have:DX w=-1:=e;omega
    ·exact⟨k,h1,h2,h3⟩
   rw[hkw] at hI bA;have q0:(0:Int)≤k:=by omega
   have q1:(k:Int)<((ol w.O).length:Int):=by omega
   have q2:(k:Int)≤((ol w.O).length:Int):=by omega
   have q3:(0:Int)≤((k+1:Nat):Int):=by omega
   have q4:((k+1:Nat):Int)≤((ol w.O).length:Int):=by omega
   have hw:IntKind.i64.wrap ((k:Int)+1)=((k+1:Nat):Int):=by rw[nU _ (by omega) (by omega)];omega
   obtain⟨bb,xX⟩:∃bb,gx dX (ol w.O) (k:Int)=bb:=⟨_,rfl⟩
   have n1:((((ol w.O).take k).length:Nat):Int)<1000000:=by rw[List.length_take];omega
   have n2:((((ol w.O).drop (k+1)).length:Nat):Int)<1000000:=by rw[List.length_drop];omega
   obtain⟨LL,DN⟩:∃LL,(ol w.O).take k++(ol w.O).drop (k+1)=LL:=⟨_,rfl⟩
   have nl:LL.length+1=(ol w.O).length:=by rw[← DN,List.length_append,List.length_take,List.length_drop];omega
   have hmem:∀b∈LL,b∈ol w.O:=fun b hb=>by rw[← DN] at hb;exact (List.mem_append.1 hb).elim List.mem_of_mem_take List.mem_of_mem_drop
   have nR:(R.length:Int)<1000000:=by omega
   have hbm:bb∈ol w.O:=by rw[← xX];exact sH q0 q1
   have e1:ol (w.O.map (·.take k))=(ol w.O).take k:=by cases w.O<;>simp[ol]
   have e2:ol (w.O.map (·.drop (k+1)))=(ol w.O).drop (k+1):=by cases w.O<;>simp[ol]
   by_cases hz:LL=[]
   ·skip
    have hT:((ol w.O).take k).length=0:=by have:=congrArg List.length DN;rw[hz,List.length_append] at this;simp only[List.length_nil] at this;omega
    have hD:((ol w.O).drop (k+1)).length=0:=by have:=congrArg List.length DN;rw[hz,List.length_append] at this;simp only[List.length_nil] at this;omega
    have yS:(ol w.O).length=1:=by rw[hz] at nl;simpa using nl.symm
    have Qm:=hG.WI none (by show ((0:Nat):Int)≤_;omega)
    have Ed:RG (mV S0 (ov aF none)) { w with O:=none }:=oL.WI none (ov aF none) (fun b hb=>by cases hb) nofun
    have Zz:∀(st:St) (d:Option Nat),aO (aB Tryz.prog) 52 [.agg (aA (mV S0 (.v (.slice none 0 0)))),.agg (aV bb)] st d=_:=k52 Qm.sd Qm.up Qm.sp bb
    have Mj:∀(st:St) (d:Option Nat),aO (aB Tryz.prog) 218 [.agg (aA (mV S0 (.v (.slice none 0 0))))] st d=_:=OO Qm.sd
    have hO2:(ol (lK (mV S0 (ov aF none)) { w with O:=none } bb).O).length≤0:=WK _ _ _
    obtain⟨c,hc⟩:∃c,Mh (mV S0 (ov aF none)) { w with O:=none } bb=c:=⟨_,rfl⟩
    rw[hc] at Zz;by_cases qP:c=0
    ·rw[qP] at hc;have Nr:=Qm.ins hc
     have Ee:=Ed.ins (oL.or bb hbm) hc
     have PE:=(Cc (mV S0 (ov aF none)) { w with O:=none } bb).1
     have HL:∀(st:St) (d:Option Nat),fG (aB Tryz.prog) 217 [.agg (aA (mV S0 (.v (.slice none 0 0)))),.agg (aV bb)] st d=_:=aMq Qm hc
     have pS:=OO Nr.sd
     obtain⟨S2,hS2⟩:∃S2,tA (mV S0 (ov aF none)) { w with O:=none } bb=S2:=⟨_,rfl⟩
     rw[hS2] at HL Nr Ee pS PE
     have Ns:=tC Nr.sd
     simp only[mV] at Zz Mj HL hI;rcases hX with rfl|⟨g',L,hL,rfl,hg1,PF⟩
     ·rcases JM with ⟨rfl,rfl⟩|⟨rfl,hg⟩
      ·refine oY (st':=?_) ?_ ((ol (lK (mV S0 (ov aF none)) { w with O:=none } bb).O).length) (by omega) ?_
       rotate_left
       ·simp only[Z8,seval,hI,bA,q0,q1,q2,q3,q4,hw,xX,Int.toNat_natCast,iN,iO,mW,Option.isSome_some,Option.map_some,Option.some.injEq,hT,hD,Zz,Mj,e1,e2,bt qP,HL,pS,oM _ _ _ _ nR];rfl
       ·refine⟨S2,lK (mV S0 (ov aF none)) { w with O:=none } bb,_,R++[bb.root],105,st.aU 105, ?_,.inr ⟨rfl,by simp only[E8,seval]<;>omega⟩,.inl rfl,Nr,Ee,PE.trans hC, ?_,rfl⟩
        ·rw[Ns];simp only[E8,seval,hI]<;>rfl
        ·rw[List.length_append,List.length_cons,List.length_nil];omega
      ·have vA:(g=st.aU 105)=False:=eq_false (by omega)
       refine oY (st':=?_) ?_ ((ol (lK (mV S0 (ov aF none)) { w with O:=none } bb).O).length) (by omega) ?_
       rotate_left
       ·simp only[Z8,seval,hI,bA,q0,q1,q2,q3,q4,hw,xX,Int.toNat_natCast,iN,iO,mW,Option.isSome_some,Option.map_some,Option.some.injEq,hT,hD,Zz,Mj,e1,e2,vA,bt qP,HL,pS,oM _ _ _ _ nR];rfl
       ·refine⟨S2,lK (mV S0 (ov aF none)) { w with O:=none } bb,_,R++[bb.root],105,st.aU 105, ?_,.inr ⟨rfl,by simp only[E8,seval]<;>omega⟩,.inl rfl,Nr,Ee,PE.trans hC, ?_,rfl⟩
        ·rw[Ns];simp only[E8,seval,hI]<;>rfl
        ·rw[List.length_append,List.length_cons,List.length_nil];omega
     ·have eL:ol w.O=L:=by rw[hL];rfl
      have PG:(g'=st.aU 91)=False:=eq_false (by omega)
      obtain⟨X1,PH,Iy⟩:=Th (L:=L) (k:=k) (by rw[← eL];omega) 91 g'
      obtain⟨X2,PI,Iz⟩:=Ea (L:=L) (k:=k+1) (by rw[← eL];omega) 91 g'
      have AA:(k:Int)<(L.length:Int):=by rw[← eL];omega
      have AB:=xH (T:=74) (n:=L.length) (k:=238) q0 AA PJ (by decide) (by decide)
      simp only[Int.toNat_natCast] at AB;subst eL;rcases JM with ⟨rfl,rfl⟩|⟨rfl,hg⟩
      ·refine oY (st':=?_) ?_ ((ol (lK (mV S0 (ov aF none)) { w with O:=none } bb).O).length) (by omega) ?_
       rotate_left
       ·simp only[Z8,seval,hI,bA,q0,q1,q2,q3,q4,hw,xX,Int.toNat_natCast,iN,iO,mW,Option.isSome_some,Option.map_some,Option.some.injEq,hT,hD,Zz,Mj,PF,PG,PH _ _,Iy,PI _ _,Iz,AA,AB,bt qP,HL,pS,oM _ _ _ _ nR];rfl
       ·refine⟨S2,lK (mV S0 (ov aF none)) { w with O:=none } bb,_,R++[bb.root],105,st.aU 105, ?_,.inr ⟨rfl,by simp only[E8,seval]<;>omega⟩,.inl rfl,Nr,Ee,PE.trans hC, ?_,rfl⟩
        ·rw[Ns];simp only[E8,seval,hI]<;>rfl
        ·rw[List.length_append,List.length_cons,List.length_nil];omega
      ·have vA:(g=st.aU 105)=False:=eq_false (by omega)
       refine oY (st':=?_) ?_ ((ol (lK (mV S0 (ov aF none)) { w with O:=none } bb).O).length) (by omega) ?_
       rotate_left
       ·simp only[Z8,seval,hI,bA,q0,q1,q2,q3,q4,hw,xX,Int.toNat_natCast,iN,iO,mW,Option.isSome_some,Option.map_some,Option.some.injEq,hT,hD,Zz,Mj,PF,PG,PH _ _,Iy,PI _ _,Iz,AA,AB,vA,bt qP,HL,pS,oM _ _ _ _ nR];rfl
       ·refine⟨S2,lK (mV S0 (ov aF none)) { w with O:=none } bb,_,R++[bb.root],105,st.aU 105, ?_,.inr ⟨rfl,by simp only[E8,seval]<;>omega⟩,.inl rfl,Nr,Ee,PE.trans hC, ?_,rfl⟩
        ·rw[Ns];simp only[E8,seval,hI]<;>rfl
        ·rw[List.length_append,List.length_cons,List.length_nil];omega
    ·simp only[mV] at Zz Mj hI;rcases hX with rfl|⟨g',L,hL,rfl,hg1,PF⟩
     ·rcases JM with ⟨rfl,rfl⟩|⟨rfl,hg⟩
      ·refine oY (st':=?_) ?_ 0 (by omega) ?_
       rotate_left
       ·simp only[Z8,seval,hI,bA,q0,q1,q2,q3,q4,hw,xX,Int.toNat_natCast,iN,iO,mW,Option.isSome_some,Option.map_some,Option.some.injEq,hT,hD,Zz,Mj,e1,e2,bf qP];rfl
       ·refine⟨(mV S0 (ov aF none)),{ w with O:=none },ov aF none,R,_,_, ?_,.inl ⟨rfl,rfl⟩,.inl rfl,Qm,Ed,hC,by show R.length+0≤_;omega,rfl⟩
        simp only[E8,seval,hI]<;>rfl
      ·have vA:(g=st.aU 105)=False:=eq_false (by omega)
       refine oY (st':=?_) ?_ 0 (by omega) ?_
       rotate_left
       ·simp only[Z8,seval,hI,bA,q0,q1,q2,q3,q4,hw,xX,Int.toNat_natCast,iN,iO,mW,Option.isSome_some,Option.map_some,Option.some.injEq,hT,hD,Zz,Mj,e1,e2,vA,bf qP];rfl
       ·refine⟨(mV S0 (ov aF none)),{ w with O:=none },ov aF none,R,_,_, ?_,.inr ⟨rfl,by simp only[E8,seval]<;>omega⟩,.inl rfl,Qm,Ed,hC,by show R.length+0≤_;omega,rfl⟩
        simp only[E8,seval,hI]<;>rfl
     ·have eL:ol w.O=L:=by rw[hL];rfl
      have PG:(g'=st.aU 91)=False:=eq_false (by omega)
      obtain⟨X1,PH,Iy⟩:=Th (L:=L) (k:=k) (by rw[← eL];omega) 91 g'
      obtain⟨X2,PI,Iz⟩:=Ea (L:=L) (k:=k+1) (by rw[← eL];omega) 91 g'
      have AA:(k:Int)<(L.length:Int):=by rw[← eL];omega
      have AB:=xH (T:=74) (n:=L.length) (k:=238) q0 AA PJ (by decide) (by decide)
      simp only[Int.toNat_natCast] at AB;subst eL;rcases JM with ⟨rfl,rfl⟩|⟨rfl,hg⟩
      ·refine oY (st':=?_) ?_ 0 (by omega) ?_
       rotate_left
       ·simp only[Z8,seval,hI,bA,q0,q1,q2,q3,q4,hw,xX,Int.toNat_natCast,iN,iO,mW,Option.isSome_some,Option.map_some,Option.some.injEq,hT,hD,Zz,Mj,PF,PG,PH _ _,Iy,PI _ _,Iz,AA,AB,bf qP];rfl
       ·refine⟨(mV S0 (ov aF none)),{ w with O:=none },ov aF none,R,_,_, ?_,.inl ⟨rfl,rfl⟩,.inl rfl,Qm,Ed,hC,by show R.length+0≤_;omega,rfl⟩
        simp only[E8,seval,hI]<;>rfl
      ·have vA:(g=st.aU 105)=False:=eq_false (by omega)
       refine oY (st':=?_) ?_ 0 (by omega) ?_
       rotate_left
       ·simp only[Z8,seval,hI,bA,q0,q1,q2,q3,q4,hw,xX,Int.toNat_natCast,iN,iO,mW,Option.isSome_some,Option.map_some,Option.some.injEq,hT,hD,Zz,Mj,PF,PG,PH _ _,Iy,PI _ _,Iz,AA,AB,vA,bf qP];rfl
       ·refine⟨(mV S0 (ov aF none)),{ w with O:=none },ov aF none,R,_,_, ?_,.inr ⟨rfl,by simp only[E8,seval]<;>omega⟩,.inl rfl,Qm,Ed,hC,by show R.length+0≤_;omega,rfl⟩
        simp only[E8,seval,hI]<;>rfl
   have EA:(LL.length=0)=False:=eq_false fun h=>hz (List.length_eq_zero_iff.1 h)
   have Qm:=hG.WI (some LL) (by show ((LL.length:Nat):Int)≤_;omega)
   have sN:=aRG hG.sd Qm bb 91
   have oO:=aMr hG.sd Qm 91
   have hO2:(ol (lK (mV S0 (ov aF (some LL))) { w with O:=some LL } bb).O).length≤LL.length:=WK _ _ _
   obtain⟨c,hc⟩:∃c,Mh (mV S0 (ov aF (some LL))) { w with O:=some LL } bb=c:=⟨_,rfl⟩
   rw[hc] at sN
   have Ed:=oL.WI (some LL) (ov aF (some LL)) (fun b hb=>oL.or b (hmem b hb)) (fun e=>hz (by injection e))
   have eO:∀x,mV (mV S0 (ov aF (some LL))) x=mV S0 x:=fun x=>rfl
   by_cases rG:k=0
   ·have hT:((ol w.O).take k).length=0:=by rw[rG];rfl
    have hD:(ol w.O).drop (k+1)=LL:=by rw[← DN,rG];rfl
    have n3:((LL.length:Nat):Int)<1000000:=by omega
    by_cases qP:c=0
    · -- taken in
     rw[qP] at hc;have Nr:=Qm.ins hc
     have Ee:=Ed.ins (oL.or bb hbm) hc
     have PE:=(Cc (mV S0 (ov aF (some LL))) { w with O:=some LL } bb).1
     have vX:=aFz hG.sd Qm hc 91
     have pS:=OO Nr.sd
     obtain⟨S2,hS2⟩:∃S2,tA (mV S0 (ov aF (some LL))) { w with O:=some LL } bb=S2:=⟨_,rfl⟩
     rw[hS2] at vX Nr Ee pS PE
     have Ns:=tC Nr.sd
     have JQ:(ol (lK (mV S0 (ov aF (some LL))) { w with O:=some LL } bb).O).length<m:=by omega
     have JR:(R++[bb.root]).length+(ol (lK (mV S0 (ov aF (some LL))) { w with O:=some LL } bb).O).length≤1+(ol v.O).length:=by rw[List.length_append,List.length_cons,List.length_nil];omega
     simp only[mV] at sN oO vX hI
     rcases hX with rfl|⟨g',L,hL,rfl,hg1,PF⟩
     · -- a list
      rcases JM with ⟨rfl,rfl⟩|⟨rfl,hg⟩
      · -- 66
       refine oY (st':=?_) ?_ ((ol (lK (mV S0 (ov aF (some LL))) { w with O:=some LL } bb).O).length) JQ ?_
       rotate_left
       ·simp only[Z8,seval,hI,bA,q0,q1,q2,q3,q4,hw,xX,Int.toNat_natCast,iV _ n3,iN,iO,mW,Option.isSome_some,Option.map_some,Option.some.injEq,hT,EA,hD,sN,oO,e1,e2,bt qP,vX,pS,oM _ _ _ _ nR];rfl
       ·refine⟨S2,lK (mV S0 (ov aF (some LL))) { w with O:=some LL } bb,_,R++[bb.root],105,st.aU 105, ?_,.inr ⟨rfl,by simp only[E8,seval]<;>omega⟩,.inl rfl,Nr,Ee,PE.trans hC, ?_,rfl⟩
        ·rw[Ns];simp only[E8,seval,hI]<;>rfl
        ·exact JR
      · -- 105
       have vA:(g=st.aU 105)=False:=eq_false (by omega)
       refine oY (st':=?_) ?_ ((ol (lK (mV S0 (ov aF (some LL))) { w with O:=some LL } bb).O).length) JQ ?_
       rotate_left
       ·simp only[Z8,seval,hI,bA,q0,q1,q2,q3,q4,hw,xX,Int.toNat_natCast,iV _ n3,iN,iO,mW,Option.isSome_some,Option.map_some,Option.some.injEq,hT,EA,hD,sN,oO,e1,e2,vA,bt qP,vX,pS,oM _ _ _ _ nR];rfl
       ·refine⟨S2,lK (mV S0 (ov aF (some LL))) { w with O:=some LL } bb,_,R++[bb.root],105,st.aU 105, ?_,.inr ⟨rfl,by simp only[E8,seval]<;>omega⟩,.inl rfl,Nr,Ee,PE.trans hC, ?_,rfl⟩
        ·rw[Ns];simp only[E8,seval,hI]<;>rfl
        ·exact JR
     · -- a row of its own
      have eL:ol w.O=L:=by rw[hL];rfl
      have PG:(g'=st.aU 91)=False:=eq_false (by omega)
      obtain⟨X1,PH,Iy⟩:=Th (L:=L) (k:=k) (by rw[← eL];omega) 91 g'
      obtain⟨X2,PI,Iz⟩:=Ea (L:=L) (k:=k+1) (by rw[← eL];omega) 91 g'
      have AA:(k:Int)<(L.length:Int):=by rw[← eL];omega
      have AB:=xH (T:=74) (n:=L.length) (k:=238) q0 AA PJ (by decide) (by decide)
      simp only[Int.toNat_natCast] at AB;subst eL;rcases JM with ⟨rfl,rfl⟩|⟨rfl,hg⟩
      · -- 66
       refine oY (st':=?_) ?_ ((ol (lK (mV S0 (ov aF (some LL))) { w with O:=some LL } bb).O).length) JQ ?_
       rotate_left
       ·simp only[Z8,seval,hI,bA,q0,q1,q2,q3,q4,hw,xX,Int.toNat_natCast,iV _ n3,iN,iO,mW,Option.isSome_some,Option.map_some,Option.some.injEq,hT,EA,hD,sN,oO,PF,PG,PH _ _,Iy,PI _ _,Iz,AA,AB,bt qP,vX,pS,oM _ _ _ _ nR];rfl
       ·refine⟨S2,lK (mV S0 (ov aF (some LL))) { w with O:=some LL } bb,_,R++[bb.root],105,st.aU 105, ?_,.inr ⟨rfl,by simp only[E8,seval]<;>omega⟩,.inl rfl,Nr,Ee,PE.trans hC, ?_,rfl⟩
        ·rw[Ns];simp only[E8,seval,hI]<;>rfl
        ·exact JR
      · -- 105
       have vA:(g=st.aU 105)=False:=eq_false (by omega)
       refine oY (st':=?_) ?_ ((ol (lK (mV S0 (ov aF (some LL))) { w with O:=some LL } bb).O).length) JQ ?_
       rotate_left
       ·simp only[Z8,seval,hI,bA,q0,q1,q2,q3,q4,hw,xX,Int.toNat_natCast,iV _ n3,iN,iO,mW,Option.isSome_some,Option.map_some,Option.some.injEq,hT,EA,hD,sN,oO,PF,PG,PH _ _,Iy,PI _ _,Iz,AA,AB,vA,bt qP,vX,pS,oM _ _ _ _ nR];rfl
       ·refine⟨S2,lK (mV S0 (ov aF (some LL))) { w with O:=some LL } bb,_,R++[bb.root],105,st.aU 105, ?_,.inr ⟨rfl,by simp only[E8,seval]<;>omega⟩,.inl rfl,Nr,Ee,PE.trans hC, ?_,rfl⟩
        ·rw[Ns];simp only[E8,seval,hI]<;>rfl
        ·exact JR
    · -- left out
     have JQ:LL.length<m:=by omega
     have JR:R.length+LL.length≤1+(ol v.O).length:=by omega
     simp only[mV] at sN oO hI
     rcases hX with rfl|⟨g',L,hL,rfl,hg1,PF⟩
     · -- a list
      rcases JM with ⟨rfl,rfl⟩|⟨rfl,hg⟩
      · -- 66
       refine oY (st':=?_) ?_ (LL.length) JQ ?_
       rotate_left
       ·simp only[Z8,seval,hI,bA,q0,q1,q2,q3,q4,hw,xX,Int.toNat_natCast,iV _ n3,iN,iO,mW,Option.isSome_some,Option.map_some,Option.some.injEq,hT,EA,hD,sN,oO,e1,e2,bf qP];rfl
       ·refine⟨(mV S0 (ov aF (some LL))),{ w with O:=some LL },_,R,_,_, ?_,.inl ⟨rfl,rfl⟩,.inr ⟨st.aU 91,_,rfl,rfl,by simp only[E8,seval]<;>omega,by simp only[E8,seval]<;>rfl⟩,Qm,Ed,hC,JR,rfl⟩
        simp only[E8,seval,hI]<;>rfl
      · -- 105
       have vA:(g=st.aU 105)=False:=eq_false (by omega)
       refine oY (st':=?_) ?_ (LL.length) JQ ?_
       rotate_left
       ·simp only[Z8,seval,hI,bA,q0,q1,q2,q3,q4,hw,xX,Int.toNat_natCast,iV _ n3,iN,iO,mW,Option.isSome_some,Option.map_some,Option.some.injEq,hT,EA,hD,sN,oO,e1,e2,vA,bf qP];rfl
       ·refine⟨(mV S0 (ov aF (some LL))),{ w with O:=some LL },_,R,_,_, ?_,.inr ⟨rfl,by simp only[E8,seval]<;>omega⟩,.inr ⟨st.aU 91,_,rfl,rfl,by simp only[E8,seval]<;>omega,by simp only[E8,seval]<;>rfl⟩,Qm,Ed,hC,JR,rfl⟩
        simp only[E8,seval,hI]<;>rfl
     · -- a row of its own
      have eL:ol w.O=L:=by rw[hL];rfl
      have PG:(g'=st.aU 91)=False:=eq_false (by omega)
      obtain⟨X1,PH,Iy⟩:=Th (L:=L) (k:=k) (by rw[← eL];omega) 91 g'
      obtain⟨X2,PI,Iz⟩:=Ea (L:=L) (k:=k+1) (by rw[← eL];omega) 91 g'
      have AA:(k:Int)<(L.length:Int):=by rw[← eL];omega
      have AB:=xH (T:=74) (n:=L.length) (k:=238) q0 AA PJ (by decide) (by decide)
      simp only[Int.toNat_natCast] at AB;subst eL;rcases JM with ⟨rfl,rfl⟩|⟨rfl,hg⟩
      · -- 66
       refine oY (st':=?_) ?_ (LL.length) JQ ?_
       rotate_left
       ·simp only[Z8,seval,hI,bA,q0,q1,q2,q3,q4,hw,xX,Int.toNat_natCast,iV _ n3,iN,iO,mW,Option.isSome_some,Option.map_some,Option.some.injEq,hT,EA,hD,sN,oO,PF,PG,PH _ _,Iy,PI _ _,Iz,AA,AB,bf qP];rfl
       ·refine⟨(mV S0 (ov aF (some LL))),{ w with O:=some LL },_,R,_,_, ?_,.inl ⟨rfl,rfl⟩,.inr ⟨st.aU 91,_,rfl,rfl,by simp only[E8,seval]<;>omega,by simp only[E8,seval]<;>rfl⟩,Qm,Ed,hC,JR,rfl⟩
        simp only[E8,seval,hI]<;>rfl
      · -- 105
       have vA:(g=st.aU 105)=False:=eq_false (by omega)
       refine oY (st':=?_) ?_ (LL.length) JQ ?_
       rotate_left
       ·simp only[Z8,seval,hI,bA,q0,q1,q2,q3,q4,hw,xX,Int.toNat_natCast,iV _ n3,iN,iO,mW,Option.isSome_some,Option.map_some,Option.some.injEq,hT,EA,hD,sN,oO,PF,PG,PH _ _,Iy,PI _ _,Iz,AA,AB,vA,bf qP];rfl
       ·refine⟨(mV S0 (ov aF (some LL))),{ w with O:=some LL },_,R,_,_, ?_,.inr ⟨rfl,by simp only[E8,seval]<;>omega⟩,.inr ⟨st.aU 91,_,rfl,rfl,by simp only[E8,seval]<;>omega,by simp only[E8,seval]<;>rfl⟩,Qm,Ed,hC,JR,rfl⟩
        simp only[E8,seval,hI]<;>rfl
   have hT:(((ol w.O).take k).length=0)=False:=eq_false (by rw[List.length_take];omega)
   by_cases qP:c=0
   · -- taken in
    rw[qP] at hc;have Nr:=Qm.ins hc
    have Ee:=Ed.ins (oL.or bb hbm) hc
    have PE:=(Cc (mV S0 (ov aF (some LL))) { w with O:=some LL } bb).1
    have vX:=aFz hG.sd Qm hc 91
    have pS:=OO Nr.sd
    obtain⟨S2,hS2⟩:∃S2,tA (mV S0 (ov aF (some LL))) { w with O:=some LL } bb=S2:=⟨_,rfl⟩
    rw[hS2] at vX Nr Ee pS PE
    have Ns:=tC Nr.sd
    have JQ:(ol (lK (mV S0 (ov aF (some LL))) { w with O:=some LL } bb).O).length<m:=by omega
    have JR:(R++[bb.root]).length+(ol (lK (mV S0 (ov aF (some LL))) { w with O:=some LL } bb).O).length≤1+(ol v.O).length:=by rw[List.length_append,List.length_cons,List.length_nil];omega
    simp only[mV] at sN oO vX hI
    rcases hX with rfl|⟨g',L,hL,rfl,hg1,PF⟩
    · -- a list
     rcases JM with ⟨rfl,rfl⟩|⟨rfl,hg⟩
     · -- 66
      refine oY (st':=?_) ?_ ((ol (lK (mV S0 (ov aF (some LL))) { w with O:=some LL } bb).O).length) JQ ?_
      rotate_left
      ·simp only[Z8,seval,hI,bA,q0,q1,q2,q3,q4,hw,xX,Int.toNat_natCast,iV _ n1,rP _ _ _ _ n1 n2,iN,iO,mW,Option.isSome_some,Option.map_some,Option.some.injEq,hT,EA,DN,sN,oO,e1,e2,bt qP,vX,pS,oM _ _ _ _ nR];rfl
      ·refine⟨S2,lK (mV S0 (ov aF (some LL))) { w with O:=some LL } bb,_,R++[bb.root],105,st.aU 105, ?_,.inr ⟨rfl,by simp only[E8,seval]<;>omega⟩,.inl rfl,Nr,Ee,PE.trans hC, ?_,rfl⟩
       ·rw[Ns];simp only[E8,seval,hI]<;>rfl
       ·exact JR
     · -- 105
      have vA:(g=st.aU 105)=False:=eq_false (by omega)
      refine oY (st':=?_) ?_ ((ol (lK (mV S0 (ov aF (some LL))) { w with O:=some LL } bb).O).length) JQ ?_
      rotate_left
      ·simp only[Z8,seval,hI,bA,q0,q1,q2,q3,q4,hw,xX,Int.toNat_natCast,iV _ n1,rP _ _ _ _ n1 n2,iN,iO,mW,Option.isSome_some,Option.map_some,Option.some.injEq,hT,EA,DN,sN,oO,e1,e2,vA,bt qP,vX,pS,oM _ _ _ _ nR];rfl
      ·refine⟨S2,lK (mV S0 (ov aF (some LL))) { w with O:=some LL } bb,_,R++[bb.root],105,st.aU 105, ?_,.inr ⟨rfl,by simp only[E8,seval]<;>omega⟩,.inl rfl,Nr,Ee,PE.trans hC, ?_,rfl⟩
       ·rw[Ns];simp only[E8,seval,hI]<;>rfl
       ·exact JR
    · -- a row of its own
     have eL:ol w.O=L:=by rw[hL];rfl
     have PG:(g'=st.aU 91)=False:=eq_false (by omega)
     obtain⟨X1,PH,Iy⟩:=Th (L:=L) (k:=k) (by rw[← eL];omega) 91 g'
     obtain⟨X2,PI,Iz⟩:=Ea (L:=L) (k:=k+1) (by rw[← eL];omega) 91 g'
     have AA:(k:Int)<(L.length:Int):=by rw[← eL];omega
     have AB:=xH (T:=74) (n:=L.length) (k:=238) q0 AA PJ (by decide) (by decide)
     simp only[Int.toNat_natCast] at AB;subst eL;rcases JM with ⟨rfl,rfl⟩|⟨rfl,hg⟩
     · -- 66
      refine oY (st':=?_) ?_ ((ol (lK (mV S0 (ov aF (some LL))) { w with O:=some LL } bb).O).length) JQ ?_
      rotate_left
      ·simp only[Z8,seval,hI,bA,q0,q1,q2,q3,q4,hw,xX,Int.toNat_natCast,iV _ n1,rP _ _ _ _ n1 n2,iN,iO,mW,Option.isSome_some,Option.map_some,Option.some.injEq,hT,EA,DN,sN,oO,PF,PG,PH _ _,Iy,PI _ _,Iz,AA,AB,bt qP,vX,pS,oM _ _ _ _ nR];rfl
      ·refine⟨S2,lK (mV S0 (ov aF (some LL))) { w with O:=some LL } bb,_,R++[bb.root],105,st.aU 105, ?_,.inr ⟨rfl,by simp only[E8,seval]<;>omega⟩,.inl rfl,Nr,Ee,PE.trans hC, ?_,rfl⟩
       ·rw[Ns];simp only[E8,seval,hI]<;>rfl
       ·exact JR
     · -- 105
      have vA:(g=st.aU 105)=False:=eq_false (by omega)
      refine oY (st':=?_) ?_ ((ol (lK (mV S0 (ov aF (some LL))) { w with O:=some LL } bb).O).length) JQ ?_
      rotate_left
      ·simp only[Z8,seval,hI,bA,q0,q1,q2,q3,q4,hw,xX,Int.toNat_natCast,iV _ n1,rP _ _ _ _ n1 n2,iN,iO,mW,Option.isSome_some,Option.map_some,Option.some.injEq,hT,EA,DN,sN,oO,PF,PG,PH _ _,Iy,PI _ _,Iz,AA,AB,vA,bt qP,vX,pS,oM _ _ _ _ nR];rfl
      ·refine⟨S2,lK (mV S0 (ov aF (some LL))) { w with O:=some LL } bb,_,R++[bb.root],105,st.aU 105, ?_,.inr ⟨rfl,by simp only[E8,seval]<;>omega⟩,.inl rfl,Nr,Ee,PE.trans hC, ?_,rfl⟩
       ·rw[Ns];simp only[E8,seval,hI]<;>rfl
       ·exact JR
   · -- left out
    have JQ:LL.length<m:=by omega
    have JR:R.length+LL.length≤1+(ol v.O).length:=by omega
    simp only[mV] at sN oO hI
    rcases hX with rfl|⟨g',L,hL,rfl,hg1,PF⟩
    · -- a list
     rcases JM with ⟨rfl,rfl⟩|⟨rfl,hg⟩
     · -- 66
      refine oY (st':=?_) ?_ (LL.length) JQ ?_
      rotate_left
      ·simp only[Z8,seval,hI,bA,q0,q1,q2,q3,q4,hw,xX,Int.toNat_natCast,iV _ n1,rP _ _ _ _ n1 n2,iN,iO,mW,Option.isSome_some,Option.map_some,Option.some.injEq,hT,EA,DN,sN,oO,e1,e2,bf qP];rfl
      ·refine⟨(mV S0 (ov aF (some LL))),{ w with O:=some LL },_,R,_,_, ?_,.inl ⟨rfl,rfl⟩,.inr ⟨st.aU 91,_,rfl,rfl,by simp only[E8,seval]<;>omega,by simp only[E8,seval]<;>rfl⟩,Qm,Ed,hC,JR,rfl⟩
       simp only[E8,seval,hI]<;>rfl
     · -- 105
      have vA:(g=st.aU 105)=False:=eq_false (by omega)
      refine oY (st':=?_) ?_ (LL.length) JQ ?_
      rotate_left
      ·simp only[Z8,seval,hI,bA,q0,q1,q2,q3,q4,hw,xX,Int.toNat_natCast,iV _ n1,rP _ _ _ _ n1 n2,iN,iO,mW,Option.isSome_some,Option.map_some,Option.some.injEq,hT,EA,DN,sN,oO,e1,e2,vA,bf qP];rfl
      ·refine⟨(mV S0 (ov aF (some LL))),{ w with O:=some LL },_,R,_,_, ?_,.inr ⟨rfl,by simp only[E8,seval]<;>omega⟩,.inr ⟨st.aU 91,_,rfl,rfl,by simp only[E8,seval]<;>omega,by simp only[E8,seval]<;>rfl⟩,Qm,Ed,hC,JR,rfl⟩
       simp only[E8,seval,hI]<;>rfl
    · -- a row of its own
     have eL:ol w.O=L:=by rw[hL];rfl
     have PG:(g'=st.aU 91)=False:=eq_false (by omega)
     obtain⟨X1,PH,Iy⟩:=Th (L:=L) (k:=k) (by rw[← eL];omega) 91 g'
     obtain⟨X2,PI,Iz⟩:=Ea (L:=L) (k:=k+1) (by rw[← eL];omega) 91 g'
     have AA:(k:Int)<(L.length:Int):=by rw[← eL];omega
     have AB:=xH (T:=74) (n:=L.length) (k:=238) q0 AA PJ (by decide) (by decide)
     simp only[Int.toNat_natCast] at AB;subst eL;rcases JM with ⟨rfl,rfl⟩|⟨rfl,hg⟩
     · -- 66
      refine oY (st':=?_) ?_ (LL.length) JQ ?_
      rotate_left
      ·simp only[Z8,seval,hI,bA,q0,q1,q2,q3,q4,hw,xX,Int.toNat_natCast,iV _ n1,rP _ _ _ _ n1 n2,iN,iO,mW,Option.isSome_some,Option.map_some,Option.some.injEq,hT,EA,DN,sN,oO,PF,PG,PH _ _,Iy,PI _ _,Iz,AA,AB,bf qP];rfl
      ·refine⟨(mV S0 (ov aF (some LL))),{ w with O:=some LL },_,R,_,_, ?_,.inl ⟨rfl,rfl⟩,.inr ⟨st.aU 91,_,rfl,rfl,by simp only[E8,seval]<;>omega,by simp only[E8,seval]<;>rfl⟩,Qm,Ed,hC,JR,rfl⟩
       simp only[E8,seval,hI]<;>rfl
     · -- 105
      have vA:(g=st.aU 105)=False:=eq_false (by omega)
      refine oY (st':=?_) ?_ (LL.length) JQ ?_
      rotate_left
      ·simp only[Z8,seval,hI,bA,q0,q1,q2,q3,q4,hw,xX,Int.toNat_natCast,iV _ n1,rP _ _ _ _ n1 n2,iN,iO,mW,Option.isSome_some,Option.map_some,Option.some.injEq,hT,EA,DN,sN,oO,PF,PG,PH _ _,Iy,PI _ _,Iz,AA,AB,vA,bf qP];rfl
      ·refine⟨(mV S0 (ov aF (some LL))),{ w with O:=some LL },_,R,_,_, ?_,.inr ⟨rfl,by simp only[E8,seval]<;>omega⟩,.inr ⟨st.aU 91,_,rfl,rfl,by simp only[E8,seval]<;>omega,by simp only[E8,seval]<;>rfl⟩,Qm,Ed,hC,JR,rfl⟩
       simp only[E8,seval,hI]<;>rfl
 obtain⟨r,h,hq⟩:=key
 cases hx:Aa Tryz.prog Cf st with
 | none=>rw[hx] at h;cases h
 | some y=>rw[hx] at h;simp only[cF,Option.some.injEq] at h;subst h;exact⟨y.1,y.2,rfl,hq⟩
theorem PK {s:aM} (h:1≤s.cFg.jH) {x y:Int} (hx:0≤x) (hxy:x≤y) (hy:y<18446744073709551616):yD s x≤yD s y:=by
 have e:∀z:Int,0≤z→z<18446744073709551616→yD s z=z / s.cFg.jH:=fun z h0 h1=>by
  unfold yD;rw[Int.tdiv_eq_ediv_of_nonneg h0];have:=Int.ediv_le_self s.cFg.jH h0
  exact wrap_u64 _ (Int.ediv_nonneg h0 (by omega)) (by omega)
 rw[e x hx (by omega),e y (by omega) hy]
 exact Int.ediv_le_ediv (by omega) hxy
theorem aC4 {acc:Bool × dQ × dQ} {n:Node} (h1:Rg acc.2.1.aG) (h2:Rg acc.2.2.aG) (hn:RB n.block):Rg (OM acc n).2.1.aG∧Rg (OM acc n).2.2.aG:=by
 unfold OM;split
 ·exact⟨h1,h2⟩
 ·refine⟨?_, ?_⟩
  ·dsimp only;split
   ·exact hn.pj
   ·exact h1
  ·dsimp only;split
   ·exact hn.pf
   ·exact h2
theorem aC5 {ns:List Node} (h:∀n∈ns,RB n.block):Rg (Lt ns).pj.aG∧Rg (Lt ns).pf.aG:=by
 have key:∀(l:List Node) (acc:Bool × dQ × dQ),(∀n∈l,RB n.block)→Rg acc.2.1.aG→Rg acc.2.2.aG→Rg (l.foldl OM acc).2.1.aG∧Rg (l.foldl OM acc).2.2.aG:=by
  intro l;induction l with
  | nil=>intro acc _ h1 h2;exact⟨h1,h2⟩
  | cons n l ih =>
    intro acc hl h1 h2;have hs:=aC4 h1 h2 (hl n (List.mem_cons_self ..))
    exact ih _ (fun x hx=>hl x (List.mem_cons_of_mem _ hx)) hs.1 hs.2
 exact key ns _ h ⟨by show (0:Int)≤0;omega,by show (0:Int)<_;omega⟩ ⟨by show (0:Int)≤0;omega,by show (0:Int)<_;omega⟩
theorem Ko (s:aM) (X:AV):(xD s X).now=s.now:=rfl
theorem zK (s:aM) (X:AV):(xD s X).cC.early=X:=rfl
theorem AD {s:aM} {v:SV} (h:SD s v) {L:List sG} (hL:∀x∈L,Flat x.fB) (st:St) {g:Nat} (hh:st.heap 61 g=some (.row 87 67 L.length (dM L))):fP st (.agg (aA (xD s (.own 61 g))))=some (.agg (aA (xD s (ov dM (some L))))):=by
 have pG:=h.fl
 have hx:=Y5 L.length L hL
 unfold xD;simp only[bP,gG,bO,hh,hx,cS,eC,pG,cF];rfl
theorem aMs {call:Nat→List AV→Option AV} {inl:Nat→List AV→St→Option (AV × St)} {ops:Array Oper} {st:St} {T:Nat} {pos:String} {eW:Array Edge} (x:Array Operand) (y:Array Nat) :
 gU Tryz.prog true call inl ops ⟨some 80,.call ⟨.value (.func 44),x,y⟩,T,pos,eW,none⟩ st=cT (inl 44 (x.toList.map st.ev) st) fun r=>some ((st.back r.2).put (some 80) r.1):=XA 44 x y (AE rfl)
noncomputable def Kp:Code:=kU (Tryz.f202.body.getD .skip)
def aRJ (c0:Config) (E:Option (List sG)) (q:Int) (m:Nat) (st:St):Prop:=∃(k:Nat) (S:aM) (w:SV) (X:AV),(st.env 1=.ptr 1 0 0∧st.heap 1 0=some (.cells (aA (xD S X)))∧st.env 2=.ptr 2 0 0∧st.heap 2 0=some (.cells (aA fW))∧st.env 5=ov dM E∧st.env 6=.v (.int .i64 k)∧0<st.aU 1∧0<st.aU 2)∧((X=.v (.slice none 0 0)∧w.E=none)∨∃g L,w.E=some L∧X=.own 61 g∧g<st.aU 61∧st.heap 61 g=some (.row 87 67 L.length (dM L)))∧GI (xD S (ov dM w.E)) w q∧RG (xD S (ov dM w.E)) w∧S.cFg=c0∧(ol w.E).length≤k∧k≤(ol E).length∧m=(ol E).length-k
def aC6 (c0:Config) (q:Int) (e:Ex) (st:St):Prop:=e=.exit 0∧∃(S:aM) (w:SV) (X:AV),(st.env 1=.ptr 1 0 0∧st.heap 1 0=some (.cells (aA (xD S X)))∧st.env 2=.ptr 2 0 0∧st.heap 2 0=some (.cells (aA fW)))∧((X=.v (.slice none 0 0)∧w.E=none)∨∃g L,w.E=some L∧X=.own 61 g∧st.heap 61 g=some (.row 87 67 L.length (dM L)))∧GI (xD S (ov dM w.E)) w q∧RG (xD S (ov dM w.E)) w∧S.cFg=c0
theorem Y6 {c0:Config} {E:Option (List sG)} {q:Int} (hE:∀a∈ol E,Dw a) (hEa:∀a∈ol E,∃V,a.fB=ov aK (some V)∧V≠[]) (nE:((ol E).length:Int)≤c0.lJ.qD) (nE':((ol E).length:Int)<900000) {m:Nat} {st:St} (hs:aRJ c0 E q m st):∃e st',xE Tryz.prog true Kp st=some (e,st')∧aC6 c0 q e st':=by
 have key:∃r,cT (xE Tryz.prog true Kp st) some=some r∧aC6 c0 q r.1 r.2:=by
  unfold Kp;simp only[Tryz.f202,Option.getD_some,kU];refine kS (fun m st=>∃(k:Nat) (S:aM) (w:SV) (X:AV),(st.env 1=.ptr 1 0 0∧st.heap 1 0=some (.cells (aA (xD S X)))∧st.env 2=.ptr 2 0 0∧st.heap 2 0=some (.cells (aA fW))∧st.env 5=ov dM E∧st.env 6=.v (.int .i64 k)∧0<st.aU 1∧0<st.aU 2)∧((X=.v (.slice none 0 0)∧w.E=none)∨∃g L,w.E=some L∧X=.own 61 g∧g<st.aU 61∧st.heap 61 g=some (.row 87 67 L.length (dM L)))∧GI (xD S (ov dM w.E)) w q∧RG (xD S (ov dM w.E)) w∧S.cFg=c0∧(ol w.E).length≤k∧k≤(ol E).length∧m=(ol E).length-k) (fun e st=>e=.exit 0∧∃(S:aM) (w:SV) (X:AV),(st.env 1=.ptr 1 0 0∧st.heap 1 0=some (.cells (aA (xD S X)))∧st.env 2=.ptr 2 0 0∧st.heap 2 0=some (.cells (aA fW)))∧((X=.v (.slice none 0 0)∧w.E=none)∨∃g L,w.E=some L∧X=.own 61 g∧st.heap 61 g=some (.row 87 67 L.length (dM L)))∧GI (xD S (ov dM w.E)) w q∧RG (xD S (ov dM w.E)) w∧S.cFg=c0) m ?step ?start ?rest
  case start=>exact hs
  case rest=>exact fun e st h=>⟨_,rfl,h⟩
  case step =>
   clear hs
   rintro m st ⟨k,S,w,X,hI,hX,hG,oL,hC,hF,hk,hm⟩
   by_cases bA:(k:Int)<(ol E).length
   case neg =>
    have hX':(X=.v (.slice none 0 0)∧w.E=none)∨∃g L,w.E=some L∧X=.own 61 g∧st.heap 61 g=some (.row 87 67 L.length (dM L)):=hX.imp id fun ⟨g,L,h1,h2,_,h4⟩=>⟨g,L,h1,h2,h4⟩
    apply HF (.exit 0)
    ·simp only[ZG,seval,Bool.false_and,Prod.mk.injEq,Cg,hI,bA];rfl
    ·exact⟨rfl,S,w,X,by simp only[E8,seval,hI],by simpa only[E8,seval] using hX',hG,oL,hC⟩
   have q0:(0:Int)≤k:=by omega
   have hw:IntKind.i64.wrap ((k:Int)+1)=((k+1:Nat):Int):=by rw[nU _ (by omega) (by omega)];omega
   obtain⟨a,ea⟩:∃a,gx Lu (ol E) (k:Int)=a:=⟨_,rfl⟩
   have ha:Dw a:=by rw[← ea];exact hE _ (sH q0 bA)
   have hEa':∃V,a.fB=ov aK (some V)∧V≠[]:=by rw[← ea];exact hEa _ (sH q0 bA)
   obtain⟨V,hV,nV⟩:=id ha
   have fa:Flat (.agg (iC a)):=(Ah a).2 ha.fl
   have fl9:=hG.sd.flat
   by_cases g1:S.now≤a.slot
   · -- kept
    rcases hX with ⟨rfl,AF⟩|⟨g,L,AF,rfl,hg,hh⟩
    ·have Qm:=hG.early (some [a]) (by intro b hb;rw[show b=a by simpa [ol] using hb];exact ha) (by show ((1:Nat):Int)≤S.cFg.lJ.qD;rw[hC];omega)
     have Ed:RG (xD S (ov dM (some [a]))) { w with E:=some [a]}:=⟨oL.now,oL.j,oL.f,oL.nd,oL.or,oL.rt,oL.fe,oL.ds,oL.tb,⟨oL.ne.q,by simp,oL.ne.o,oL.ne.t,fun b hb=>by rw[show b=a by simpa [ol] using hb];exact hEa' ,oL.ne.tb⟩⟩
     have an1:=JS a
     apply Cx ((ol E).length-(k+1))
     ·simp only[ZG,seval,Bool.false_and,Prod.mk.injEq,Cg,hI,bA,q0,ea,Ko,zK,g1,fa,an1,hw];rfl
     ·exact⟨k+1,S,{ w with E:=some [a]},_,by and_intros<;>(simp only[E8,seval,hI]<;>rfl),.inr ⟨_,[a],rfl,rfl,by simp only[E8,seval]<;>omega,by simp only[E8,seval]<;>rfl⟩,Qm,Ed,hC,by show 1≤k+1;omega,by omega,rfl⟩
    ·have hlL:L.length≤k:=by rw[AF] at hF;exact hF
     have nL:(L.length:Int)<1000000:=by omega
     have vA:(g=st.aU 61)=False:=eq_false (by omega)
     have Qm:=hG.early (some (L++[a])) (by
      intro b hb;rcases List.mem_append.1 (show b∈L++[a] from hb) with hb|hb
      ·exact hG.sd.eV b (by rw[AF];exact hb)
      ·rw[List.mem_singleton] at hb;rw[hb];exact ha) (by show (((L++[a]).length:Nat):Int)≤S.cFg.lJ.qD;rw[hC,List.length_append,List.length_cons,List.length_nil];omega)
     have Ed:RG (xD S (ov dM (some (L++[a])))) { w with E:=some (L++[a])}:=⟨oL.now,oL.j,oL.f,oL.nd,oL.or,oL.rt,oL.fe,oL.ds,oL.tb,⟨oL.ne.q,by simp,oL.ne.o,oL.ne.t,fun b hb=>by rcases List.mem_append.1 (show b∈L++[a] from hb) with hb|hb;exact oL.ne.ea b (by rw[AF];exact hb);rw[List.mem_singleton] at hb;rw[hb];exact hEa',oL.ne.tb⟩⟩
     apply Cx ((ol E).length-(k+1))
     ·simp only[ZG,seval,Bool.false_and,Prod.mk.injEq,Cg,hI,hh,vA,bA,q0,ea,Ko,zK,g1,fa,Xz _ _ _ _ nL,hw];rfl
     ·exact⟨k+1,S,{ w with E:=some (L++[a])},_,by and_intros<;>(simp only[E8,seval,hI]<;>rfl),.inr ⟨_,L++[a],rfl,rfl,by simp only[E8,seval]<;>omega,by simp only[E8,seval]<;>rfl⟩,Qm,Ed,hC,by show (L++[a]).length≤k+1;rw[List.length_append,List.length_cons,List.length_nil];omega,by omega,rfl⟩
   ·have c39':=c39 hG.sd hG.up hG.sp a V hV (by omega)
    have k39:∀(st:St) (d:Option Nat),fP st (.agg (aA (xD S X)))=some (.agg (aA (xD S (ov dM w.E))))→aO (aB Tryz.prog) 39 [.agg (aA (xD S X)),.agg (iC a)] st d=some { dst:=d,val:=.eG [.v (.bool (Hw (xD S (ov dM w.E)) w a (ol V)).1),.v (.int .i64 (Hw (xD S (ov dM w.E)) w a (ol V)).2)]}:=by
     intro st d hx;rw[jV,List.map_cons,List.map_cons,List.map_nil,hx,eB fa,bM,bM,fY];exact F6 c39' (by intro x hx;simp only[List.mem_cons,List.not_mem_nil,or_false] at hx;rcases hx with rfl|rfl<;>exact .v _) (.eG _ (bF (.v _) (.v _)))
    have Nr:GI (xD (Tf S w a (ol V)) (ov dM w.E)) { w with L:=some (uO (ol w.L) a.target.aG a.root (ol V)).1 } q:=hG.cast a (ol V)
    have Ee:RG (xD (Tf S w a (ol V)) (ov dM w.E)) { w with L:=some (uO (ol w.L) a.target.aG a.root (ol V)).1 }:=⟨oL.now,oL.j,oL.f,oL.nd,oL.or,oL.rt,oL.fe,oL.ds,oL.tb,⟨oL.ne.q,oL.ne.e,oL.ne.o,oL.ne.t,oL.ne.ea,oL.ne.tb⟩⟩
    rcases hX with ⟨rfl,AF⟩|⟨g,L,AF,rfl,hg,hh⟩
    ·have e0:ov dM w.E=.v (.slice none 0 0):=by rw[AF];rfl
     have k39n:=fun st d=>k39 st d (by rw[e0];rw[e0] at fl9;exact eB fl9)
     by_cases g2:(Hw (xD S (ov dM w.E)) w a (ol V)).2=0
     case neg =>
      apply Cx ((ol E).length-(k+1))
      ·simp only[ZG,seval,Bool.false_and,Prod.mk.injEq,Cg,hI,bA,q0,ea,Ko,zK,g1,k39n,dN,bf g2,hw];rfl
      ·exact⟨k+1,S,w,_,by and_intros<;>(simp only[E8,seval,hI]<;>rfl),.inl ⟨rfl,AF⟩,hG,oL,hC,by omega,by omega,rfl⟩
     have hr:∀x∈ol V,0≤x∧x<(ol w.L).length:=by rw[hG.OQ];exact WN (JL g2)
     obtain⟨G,Tn⟩:=aFx hG.sd (.v (.slice none 0 0)) a V hV (by omega) hr
     have kG:∀st,pR Tryz.prog 44 [.agg (aA (xD S (.v (.slice none 0 0)))),.agg (iC a)] st=some (.agg (aA (xD (Tf S w a (ol V)) (.v (.slice none 0 0)))),G st):=fun st=>(Tn st).1
     have f1:∀st:St,0<st.aU 1→(G st).heap 1 0=st.heap 1 0:=fun st h=>(Tn st).2.1 1 0 h
     have f2:∀st:St,0<st.aU 2→(G st).heap 2 0=st.heap 2 0:=fun st h=>(Tn st).2.1 2 0 h
     have c1:∀st:St,0<st.aU 1→(0<(G st).aU 1)=True:=fun st h=>eq_true (Nat.lt_of_lt_of_le h ((Tn st).2.2 1))
     have c2:∀st:St,0<st.aU 2→(0<(G st).aU 2)=True:=fun st h=>eq_true (Nat.lt_of_lt_of_le h ((Tn st).2.2 2))
     apply Cx ((ol E).length-(k+1))
     ·simp only[ZG,seval,Bool.false_and,Prod.mk.injEq,Cg,hI,bA,q0,ea,Ko,zK,g1,k39n,dN,bt g2,aMs,kG,f1,bQ,aQ,aW,hw];rfl
     ·exact⟨k+1,Tf S w a (ol V),{ w with L:=some (uO (ol w.L) a.target.aG a.root (ol V)).1 },_,⟨by simp only[E8,seval,hI,bQ],by simp only[E8,seval,hI,aQ,aW]<;>rfl,by simp only[E8,seval,hI,bQ],by simp only[E8,seval,hI,aQ,aW,f2],by simp only[E8,seval,hI,bQ],by simp only[E8,seval,hI,bQ],by simp only[E8,seval,hI,aW,c1],by simp only[E8,seval,hI,aW,c2]⟩,.inl ⟨rfl,AF⟩,Nr,Ee,hC,by show (ol w.E).length≤k+1;omega,by omega,rfl⟩
    ·have hLf:∀x∈L,Flat x.fB:=fun x hx=>(hG.sd.eV x (by rw[AF];exact hx)).fl
     have k39o:∀(st:St) (d:Option Nat),st.heap 61 g=some (.row 87 67 L.length (dM L))→_:=fun st d h61=>k39 st d (by rw[AF];exact AD hG.sd hLf st h61)
     by_cases g2:(Hw (xD S (ov dM w.E)) w a (ol V)).2=0
     case neg =>
      apply Cx ((ol E).length-(k+1))
      ·simp only[ZG,seval,Bool.false_and,Prod.mk.injEq,Cg,hI,hh,bA,q0,ea,Ko,zK,g1,k39o,dN,bf g2,hw];rfl
      ·exact⟨k+1,S,w,_,by and_intros<;>(simp only[E8,seval,hI]<;>rfl),.inr ⟨g,L,AF,rfl,by simp only[E8,seval]<;>omega,by simp only[E8,seval,hh]⟩,hG,oL,hC,by omega,by omega,rfl⟩
     have hr:∀x∈ol V,0≤x∧x<(ol w.L).length:=by rw[hG.OQ];exact WN (JL g2)
     obtain⟨G,Tn⟩:=aFx hG.sd (.own 61 g) a V hV (by omega) hr
     have kG:∀st,pR Tryz.prog 44 [.agg (aA (xD S (.own 61 g))),.agg (iC a)] st=some (.agg (aA (xD (Tf S w a (ol V)) (.own 61 g))),G st):=fun st=>(Tn st).1
     have f1:∀st:St,0<st.aU 1→(G st).heap 1 0=st.heap 1 0:=fun st h=>(Tn st).2.1 1 0 h
     have f2:∀st:St,0<st.aU 2→(G st).heap 2 0=st.heap 2 0:=fun st h=>(Tn st).2.1 2 0 h
     have f3:∀st:St,g<st.aU 61→(G st).heap 61 g=st.heap 61 g:=fun st h=>(Tn st).2.1 61 g h
     have c1:∀st:St,0<st.aU 1→(0<(G st).aU 1)=True:=fun st h=>eq_true (Nat.lt_of_lt_of_le h ((Tn st).2.2 1))
     have c2:∀st:St,0<st.aU 2→(0<(G st).aU 2)=True:=fun st h=>eq_true (Nat.lt_of_lt_of_le h ((Tn st).2.2 2))
     have c3:∀st:St,g<st.aU 61→(g<(G st).aU 61)=True:=fun st h=>eq_true (Nat.lt_of_lt_of_le h ((Tn st).2.2 61))
     apply Cx ((ol E).length-(k+1))
     ·simp only[ZG,seval,Bool.false_and,Prod.mk.injEq,Cg,hI,hh,bA,q0,ea,Ko,zK,g1,k39o,dN,bt g2,aMs,kG,f1,bQ,aQ,aW,hw];rfl
     ·exact⟨k+1,Tf S w a (ol V),{ w with L:=some (uO (ol w.L) a.target.aG a.root (ol V)).1 },_,⟨by simp only[E8,seval,hI,bQ],by simp only[E8,seval,hI,aQ,aW]<;>rfl,by simp only[E8,seval,hI,bQ],by simp only[E8,seval,hI,aQ,aW,f2],by simp only[E8,seval,hI,bQ],by simp only[E8,seval,hI,bQ],by simp only[E8,seval,hI,aW,c1],by simp only[E8,seval,hI,aW,c2]⟩,.inr ⟨g,L,AF,rfl,by simp only[E8,seval,aW,hg,c3],by simp only[E8,seval,aQ,aW,hg,hh,f3]⟩,Nr,Ee,hC,by show (ol w.E).length≤k+1;omega,by omega,rfl⟩
 obtain⟨r,h,hq⟩:=key
 cases hx:xE Tryz.prog true Kp st with
 | none=>rw[hx] at h;cases h
 | some y=>rw[hx] at h;simp only[cF,Option.some.injEq] at h;subst h;exact⟨y.1,y.2,rfl,hq⟩
theorem aRK {s:aM} {v:SV} {q:Int} (h:GI s v q) (r:RG s v):∃x,aB Tryz.prog 202 [.agg (aA s)]=some x∧StR s q x:=by
 have hz:=Kl
 have hf:=h.sd.flat
 have Pd:=h.sp
 rw[cG Tryz.func202 rfl aMu (by kernel_rfl) rfl]
 by_cases g1:1099511627776≤s.now
 ·simp only[ZG,seval,Bool.false_and,Prod.mk.injEq,Cg,g1];exact⟨_,by apply dK;rfl;all_goals simp only[aH,bY,Z8,seval,hz]<;>rfl,fW,3,rfl,hz,by decide,fun h=>by cases h⟩
 have hw:IntKind.u64.wrap (s.now+1)=s.now+1:=wrap_u64 _ (by have:=r.now.1;omega) (by have:=r.now.2;omega)
 obtain⟨s1,hs1⟩:∃s1:aM,s1={ s with now:=s.now+1,eE:=dR }:=⟨_,rfl⟩
 have h1:GI s1 v q:=by
  rw[hs1];exact⟨⟨h.sd.iP,h.sd.dU,h.sd.gN,h.sd.early,h.sd.bL,h.sd.tree,h.sd.tables,h.sd.eV,h.sd.tB,h.sd.nB,h.sd.nL,h.sd.nQ,h.sd.nE,h.sd.nO,h.sd.nT,h.sd.nn⟩,h.up,h.Xs,h.pos,h.nl,h.WH,h.jH,h.OQ,h.nB,h.nO,h.OR,h.nE,h.UW,h.nT,h.UX,h.nQ,h.U6,h.gI⟩
 have r1:RG s1 v:=by
  rw[hs1];exact⟨⟨by show 0≤s.now+1;have:=r.now.1;omega,by show s.now+1≤_;omega⟩,r.j,r.f,fun n hn=>⟨(r.nd n hn).1,by show n.block.slot≤s.now+1;have:=(r.nd n hn).2;omega⟩,r.or,r.rt,⟨r.fe.1,Int.le_trans r.fe.2 (show yD s s.now≤yD s (s.now+1) from PK h.jH.1 r.now.1 (by omega) (by have:=r.now.2;omega))⟩,r.ds,r.tb,r.ne⟩
 have c1:s1.cFg=s.cFg:=by rw[hs1]
 have nE:=h.nE
 have UW:=h.UW
 subst hs1;have uE:∀(S:aM) (w:SV) (a b:dQ),(Ir S w a b).E=w.E:=fun S w a b=>by unfold Ir;split;rfl;split<;>rfl
 by_cases g2:(s.now+1).tmod s.cFg.jH=0
 case neg =>
  simp only[ZG,seval,Bool.false_and,Prod.mk.injEq,Cg,g1,hw,Pd,bf g2,h.sd.early];refine Kq (a:=Kp) (aC6 s.cFg q) (Y6 (E:=v.E) h.sd.eV r.ne.ea (by omega) (by omega) (m:=(ol v.E).length) ⟨0,{ s with now:=s.now+1,eE:=dR },{ v with E:=none },.v (.slice none 0 0),⟨by simp only[E8,seval],by simp only[E8,seval]<;>rfl,by simp only[E8,seval],by simp only[E8,seval],by simp only[E8,seval],by simp only[E8,seval]<;>rfl,by simp only[E8,seval]<;>omega,by simp only[E8,seval]<;>omega⟩,.inl ⟨rfl,rfl⟩,h1.early none (by simp[ol]) (by show ((0:Nat):Int)≤_;rw[c1];omega),⟨r1.now,r1.j,r1.f,r1.nd,r1.or,r1.rt,r1.fe,r1.ds,r1.tb,⟨r1.ne.q,nofun,r1.ne.o,r1.ne.t,(fun a ha=>by cases ha),r1.ne.tb⟩⟩,c1,by simp[ol],by omega,by omega⟩) ?rest
  rintro e st ⟨rfl,S,w,X,hI,hX,hG,oL,hC⟩
  have Pf:=hG.sd.flat
  rcases hX with ⟨rfl,AF⟩|⟨g,L,AF,rfl,hh⟩
  ·rw[AF] at Pf hG oL;have hf1:Flat (.agg (aA (xD S (.v (.slice none 0 0))))):=Pf
   simp only[ZG,seval,Bool.false_and,Prod.mk.injEq,Cg,hI];exact⟨_,by apply dK;rfl;all_goals simp only[aH,bY,Z8,seval,hI,hf1]<;>rfl,_,0,rfl,hf1,by decide,fun _=>⟨w,hG,oL,hC⟩⟩
  ·have hLf:∀x∈L,Flat x.fB:=fun x hx=>(hG.sd.eV x (by rw[AF];exact hx)).fl
   have hex:∀st:St,st.heap 61 g=some (.row 87 67 L.length (dM L))→fP st (.agg (aA (xD S (.own 61 g))))=some (.agg (aA (xD S (ov dM (some L))))):=fun st hh=>AD hG.sd hLf st hh
   rw[AF] at Pf hG oL;simp only[ZG,seval,Bool.false_and,Prod.mk.injEq,Cg,hI];exact⟨_,by apply dK;rfl;all_goals simp only[aH,bY,Z8,seval,hI,hh,hex]<;>rfl,_,0,rfl,Pf,by decide,fun _=>⟨w,hG,oL,hC⟩⟩
 have k67':=k67 h1.sd
 have pv:=aC5 fun n hn=>(r1.nd n hn).1
 have k61':=k61 h1.sd h1.up h1.sp (Lt v.ns).pj (Lt v.ns).pf
 have h2:=h1.dS (Lt v.ns).pj (Lt v.ns).pf
 have r2:=RG.dS r1 pv.1 pv.2
 have c2:=xC { s with now:=s.now+1,eE:=dR } v (Lt v.ns).pj (Lt v.ns).pf
 have e2:=h2.sd.early
 rw[uE] at e2;obtain⟨S2,hS2⟩:∃S2,yE { s with now:=s.now+1,eE:=dR } v (Lt v.ns).pj (Lt v.ns).pf=S2:=⟨_,rfl⟩
 rw[hS2] at k61' h2 r2 c2 e2
 have c3:S2.cFg=s.cFg:=c2
 simp only[ZG,seval,Bool.false_and,Prod.mk.injEq,Cg,g1,hw,Pd,bt g2,k67',k61',e2];refine Kq (a:=Kp) (aC6 s.cFg q) (Y6 (E:=v.E) h.sd.eV r.ne.ea (by omega) (by omega) (m:=(ol v.E).length) ⟨0,S2,{ Ir { s with now:=s.now+1,eE:=dR } v (Lt v.ns).pj (Lt v.ns).pf with E:=none },.v (.slice none 0 0),⟨by simp only[E8,seval],by simp only[E8,seval]<;>rfl,by simp only[E8,seval],by simp only[E8,seval],by simp only[E8,seval],by simp only[E8,seval]<;>rfl,by simp only[E8,seval]<;>omega,by simp only[E8,seval]<;>omega⟩,.inl ⟨rfl,rfl⟩,h2.early none (by simp[ol]) (by show ((0:Nat):Int)≤_;rw[c3];omega),⟨r2.now,r2.j,r2.f,r2.nd,r2.or,r2.rt,r2.fe,r2.ds,r2.tb,⟨r2.ne.q,nofun,r2.ne.o,r2.ne.t,(fun a ha=>by cases ha),r2.ne.tb⟩⟩,c3,by simp[ol],by omega,by omega⟩) ?OT
 rintro e st ⟨rfl,S,w,X,hI,hX,hG,oL,hC⟩
 have Pf:=hG.sd.flat
 rcases hX with ⟨rfl,AF⟩|⟨g,L,AF,rfl,hh⟩
 ·rw[AF] at Pf hG oL;have hf1:Flat (.agg (aA (xD S (.v (.slice none 0 0))))):=Pf
  simp only[ZG,seval,Bool.false_and,Prod.mk.injEq,Cg,hI];exact⟨_,by apply dK;rfl;all_goals simp only[aH,bY,Z8,seval,hI,hf1]<;>rfl,_,0,rfl,hf1,by decide,fun _=>⟨w,hG,oL,hC⟩⟩
 ·have hLf:∀x∈L,Flat x.fB:=fun x hx=>(hG.sd.eV x (by rw[AF];exact hx)).fl
  have hex:∀st:St,st.heap 61 g=some (.row 87 67 L.length (dM L))→fP st (.agg (aA (xD S (.own 61 g))))=some (.agg (aA (xD S (ov dM (some L))))):=fun st hh=>AD hG.sd hLf st hh
  rw[AF] at Pf hG oL;simp only[ZG,seval,Bool.false_and,Prod.mk.injEq,Cg,hI];exact⟨_,by apply dK;rfl;all_goals simp only[aH,bY,Z8,seval,hI,hh,hex]<;>rfl,_,0,rfl,Pf,by decide,fun _=>⟨w,hG,oL,hC⟩⟩
def Ef (t:State) (X Y:AV) (tag:Int):State:={ t with iY:=X,rK:=Y,dA:=tag }
theorem aMv:aC 0 3 (some 3)=[]∧aC 1 8 (some 8)=[]∧aC 2 8 (some 14)=[]∧aC 3 5 (some 21)=[]∧aC 4 2 (some 25)=[]:=⟨rfl,rfl,rfl,rfl,rfl⟩
theorem aFA (t:State) (Y:AV) (o:Option (List Request)) (tag:Int) (hn:((ol o).length:Int)<1000000) (r:cN) (n:Int) :
 ∃G:St→St,∀st,pR Tryz.prog 86 [.agg (aT (Ef t (ov aE o) Y tag)),.agg (bD r),.v (.int .i64 n)] st=some (.agg (aT (Ef t (.own 19 (st.aU 19)) Y (IntKind.u64.wrap (tag+1)))),G st)∧Gw st (G st)∧(G st).heap 19 (st.aU 19)=some (.row 63 35 (ol o++[(⟨⟨tag⟩,r,n,0⟩:Request)]).length (aE (ol o++[(⟨⟨tag⟩,r,n,0⟩:Request)])))∧st.aU 19<(G st).aU 19:=by
 have one:∀st,∃st',pR Tryz.prog 86 [.agg (aT (Ef t (ov aE o) Y tag)),.agg (bD r),.v (.int .i64 n)] st=some (.agg (aT (Ef t (.own 19 (st.aU 19)) Y (IntKind.u64.wrap (tag+1)))),st')∧Gw st (st')∧(st').heap 19 (st.aU 19)=some (.row 63 35 (ol o++[(⟨⟨tag⟩,r,n,0⟩:Request)]).length (aE (ol o++[(⟨⟨tag⟩,r,n,0⟩:Request)])))∧st.aU 19<(st').aU 19:=by
  intro st;by_cases hy:True
  case neg=>exact⟨st,absurd trivial hy⟩
  suffices h:∃st',pR Tryz.prog 86 [.agg (aT (Ef t (ov aE o) Y tag)),.agg (bD r),.v (.int .i64 n)] st=some (.agg (aT (Ef t (.own 19 (st.aU 19)) Y (IntKind.u64.wrap (tag+1)))),st')∧Gw st (st')∧(st').heap 19 (st.aU 19)=some (.row 63 35 (ol o++[(⟨⟨tag⟩,r,n,0⟩:Request)]).length (aE (ol o++[(⟨⟨tag⟩,r,n,0⟩:Request)])))∧st.aU 19<(st').aU 19 by
   obtain⟨st',h⟩:=h
   exact⟨st',h⟩
  have e1:(Ef t (ov aE o) Y tag).iY=ov aE o:=rfl
  have e2:(Ef t (ov aE o) Y tag).dA=tag:=rfl
  have zR:cZ.due=0:=rfl
  rw[Ce Tryz.prog Tryz.func86 rfl (by kernel_rfl)]
  simp only[ZG,seval,Bool.false_and,Prod.mk.injEq,aMv,e1,e2,zR,qZ _ hn,tP _ _ _ _ hn];refine⟨_,xG (P:=Tryz.prog) (fn:=Tryz.f86) (r:=.cell 6 58) (x:=.agg (aT (Ef t (.own 19 (st.aU 19)) Y (IntKind.u64.wrap (tag+1))))) (.inl rfl) rfl ?h1,⟨fun x g hg=>?h2,fun x=>?h3⟩, ?h4, ?h5⟩
  case h1 =>
   rw[rI];simp only[bY,Z8,seval];rfl
  case h2 =>
   have n3:(x=3∧g=st.aU 3)=False:=eq_false (by rintro⟨rfl,rfl⟩;omega)
   have n4:(x=4∧g=st.aU 4)=False:=eq_false (by rintro⟨rfl,rfl⟩;omega)
   have n6:(x=6∧g=st.aU 6)=False:=eq_false (by rintro⟨rfl,rfl⟩;omega)
   have n7:(x=7∧g=st.aU 7)=False:=eq_false (by rintro⟨rfl,rfl⟩;omega)
   have n16:(x=16∧g=st.aU 16)=False:=eq_false (by rintro⟨rfl,rfl⟩;omega)
   have n18:(x=18∧g=st.aU 18)=False:=eq_false (by rintro⟨rfl,rfl⟩;omega)
   have n19:(x=19∧g=st.aU 19)=False:=eq_false (by rintro⟨rfl,rfl⟩;omega)
   simp only[E8,seval,aQ,aW,n3,n4,n6,n7,n16,n18,n19,if_false]
  case h3 =>
   simp only[E8,seval,aQ,aW];split<;>(try split)<;>(try split)<;>(try split)<;>(try split)<;>(try split)<;>(try split)<;>subst_vars<;>omega
  case h4=>simp only[E8,seval,aQ,aW]
  case h5=>simp only[E8,seval,aQ,aW]<;>omega
 exact⟨fun st=>Classical.choose (one st),fun st=>Classical.choose_spec (one st)⟩
theorem Y7 (t:State) (Y:AV) (g0:Nat) (L:List Request) (tag:Int) (hn:((L).length:Int)<1000000) (r:cN) (n:Int) :
 ∃G:St→St,∀st,(st.heap 19 g0=some (.row 63 35 L.length (aE L))∧g0<st.aU 19)→pR Tryz.prog 86 [.agg (aT (Ef t (.own 19 g0) Y tag)),.agg (bD r),.v (.int .i64 n)] st=some (.agg (aT (Ef t (.own 19 (st.aU 19)) Y (IntKind.u64.wrap (tag+1)))),G st)∧Gw st (G st)∧(G st).heap 19 (st.aU 19)=some (.row 63 35 (L++[(⟨⟨tag⟩,r,n,0⟩:Request)]).length (aE (L++[(⟨⟨tag⟩,r,n,0⟩:Request)])))∧st.aU 19<(G st).aU 19:=by
 have one:∀st,∃st',(st.heap 19 g0=some (.row 63 35 L.length (aE L))∧g0<st.aU 19)→pR Tryz.prog 86 [.agg (aT (Ef t (.own 19 g0) Y tag)),.agg (bD r),.v (.int .i64 n)] st=some (.agg (aT (Ef t (.own 19 (st.aU 19)) Y (IntKind.u64.wrap (tag+1)))),st')∧Gw st (st')∧(st').heap 19 (st.aU 19)=some (.row 63 35 (L++[(⟨⟨tag⟩,r,n,0⟩:Request)]).length (aE (L++[(⟨⟨tag⟩,r,n,0⟩:Request)])))∧st.aU 19<(st').aU 19:=by
  intro st;by_cases hy:(st.heap 19 g0=some (.row 63 35 L.length (aE L))∧g0<st.aU 19)
  case neg=>exact⟨st,fun h=>absurd h hy⟩
  suffices h:∃st',pR Tryz.prog 86 [.agg (aT (Ef t (.own 19 g0) Y tag)),.agg (bD r),.v (.int .i64 n)] st=some (.agg (aT (Ef t (.own 19 (st.aU 19)) Y (IntKind.u64.wrap (tag+1)))),st')∧Gw st (st')∧(st').heap 19 (st.aU 19)=some (.row 63 35 (L++[(⟨⟨tag⟩,r,n,0⟩:Request)]).length (aE (L++[(⟨⟨tag⟩,r,n,0⟩:Request)])))∧st.aU 19<(st').aU 19 by
   obtain⟨st',h⟩:=h
   exact⟨st',fun _=>h⟩
  have e1:(Ef t (.own 19 g0) Y tag).iY=.own 19 g0:=rfl
  have e2:(Ef t (.own 19 g0) Y tag).dA=tag:=rfl
  have zR:cZ.due=0:=rfl
  have vA:(g0=st.aU 19)=False:=eq_false (by have:=hy.2;omega)
  rw[Ce Tryz.prog Tryz.func86 rfl (by kernel_rfl)]
  simp only[ZG,seval,Bool.false_and,Prod.mk.injEq,aMv,e1,e2,zR,hy.1,vA,qZ _ hn,tP _ _ _ _ hn];refine⟨_,xG (P:=Tryz.prog) (fn:=Tryz.f86) (r:=.cell 6 58) (x:=.agg (aT (Ef t (.own 19 (st.aU 19)) Y (IntKind.u64.wrap (tag+1))))) (.inl rfl) rfl ?h1,⟨fun x g hg=>?h2,fun x=>?h3⟩, ?h4, ?h5⟩
  case h1 =>
   rw[rI];simp only[bY,Z8,seval];rfl
  case h2 =>
   have n3:(x=3∧g=st.aU 3)=False:=eq_false (by rintro⟨rfl,rfl⟩;omega)
   have n4:(x=4∧g=st.aU 4)=False:=eq_false (by rintro⟨rfl,rfl⟩;omega)
   have n6:(x=6∧g=st.aU 6)=False:=eq_false (by rintro⟨rfl,rfl⟩;omega)
   have n7:(x=7∧g=st.aU 7)=False:=eq_false (by rintro⟨rfl,rfl⟩;omega)
   have n16:(x=16∧g=st.aU 16)=False:=eq_false (by rintro⟨rfl,rfl⟩;omega)
   have n18:(x=18∧g=st.aU 18)=False:=eq_false (by rintro⟨rfl,rfl⟩;omega)
   have n19:(x=19∧g=st.aU 19)=False:=eq_false (by rintro⟨rfl,rfl⟩;omega)
   simp only[E8,seval,aQ,aW,n3,n4,n6,n7,n16,n18,n19,if_false]
  case h3 =>
   simp only[E8,seval,aQ,aW];split<;>(try split)<;>(try split)<;>(try split)<;>(try split)<;>(try split)<;>(try split)<;>subst_vars<;>omega
  case h4=>simp only[E8,seval,aQ,aW]
  case h5=>simp only[E8,seval,aQ,aW]<;>omega
 exact⟨fun st=>Classical.choose (one st),fun st=>Classical.choose_spec (one st)⟩
noncomputable def Nt (ns:List Node) (now:Int) (a:(Option (List Request) × Int) × List Request) (r:Request):(Option (List Request) × Int) × List Request :=
 if now<r.due then (a.1,a.2++[r]) else if Ao ns r.block then ((some (ol a.1.1++[⟨⟨a.1.2⟩,r.block,r.tries,0⟩]),IntKind.u64.wrap (a.1.2+1)),a.2) else a
noncomputable def Ap (ns:List Node) (now:Int) (a:(Option (List Request) × Int) × List Request) (l:List Request):(Option (List Request) × Int) × List Request:=l.foldl (Nt ns now) a
theorem I7 (ns:List Node) (now:Int) (a:(Option (List Request) × Int) × List Request) (l:List Request) (k:Nat) (h:k<l.length):Ap ns now a (l.take (k+1))=Nt ns now (Ap ns now a (l.take k)) (gx cZ l k):=by
 unfold Ap;rw[List.take_succ_eq_append_getElem h,List.foldl_append];simp[gx,h]
theorem Y8 (ns:List Node) (now:Int) (a:(Option (List Request) × Int) × List Request) (r:Request):(ol (Nt ns now a r).1.1).length≤(ol a.1.1).length+1∧(Nt ns now a r).2.length≤a.2.length+1:=by
 unfold Nt;split
 ·refine⟨by dsimp only;omega, ?_⟩
  dsimp only;rw[List.length_append,List.length_cons,List.length_nil];omega
 ·split
  ·refine⟨?_,by dsimp only;omega⟩
   show (ol a.1.1++[_]).length≤_;rw[List.length_append,List.length_cons,List.length_nil];omega
  ·omega
theorem PL (ns:List Node) (now:Int) (l:List Request):∀(a:(Option (List Request) × Int) × List Request),(ol (Ap ns now a l).1.1).length≤(ol a.1.1).length+l.length∧(Ap ns now a l).2.length≤a.2.length+l.length:=by
 induction l with
 | nil=>intro a;exact⟨Nat.le_refl _,Nat.le_refl _⟩
 | cons r l ih =>
   intro a;have h1:=ih (Nt ns now a r)
   have h2:=Y8 ns now a r
   rw[List.length_cons];show (ol (Ap ns now (Nt ns now a r) l).1.1).length≤_∧(Ap ns now (Nt ns now a r) l).2.length≤_
   omega
theorem pT {st:St} (o:Option (List Request)):cJ st (ov aE o)=some (ov aE o):=Zx (iZ o)
theorem kD {st:St} {a g:Nat} {L:List Request} (h:st.heap a g=some (.row 63 35 L.length (aE L))):cJ st (.own a g)=some (ov aE (some L)):=by
 rw[bO,h];exact pJ _ _
theorem A1 {t:State} {v:SV} {Q R:Option (List Request)} (h:TD t v Q R) (st:St) {X Y X' Y':AV} (hx:cJ st X=some X') (hy:cJ st Y=some Y') (tag:Int):fP st (.agg (aT (Ef t X Y tag)))=some (.agg (aT (Ef t X' Y' tag))):=by
 have pG:=h.fl
 unfold Ef;simp only[bP,vW,gG,hx,hy,cS,eC,pG,cF]
theorem TD.rq {t:State} {v:SV} {Q R:Option (List Request)} (h:TD t v Q R) (q z:Option (List Request)) (tag:Int) (hq:((ol q).length:Int)<900000) (hz:((ol z).length:Int)<900000):TD (Ef t (ov aE q) (ov aE z) tag) v q z:=⟨h.sd,rfl,rfl,hq,hz⟩
theorem PM {t:State} {v:SV} {Q R:Option (List Request)} (h:TD t v Q R) (q z:Option (List Request)) (tag:Int) (hq:((ol q).length:Int)<900000) (hz:((ol z).length:Int)<900000) (r:cN) (st:St) (d:Option Nat) {X Y:AV} (hx:cJ st X=some (ov aE q)) (hy:cJ st Y=some (ov aE z)) :
 aO (aB Tryz.prog) 85 [.agg (aT (Ef t X Y tag)),.agg (bD r)] st d=some { dst:=d,val:=.v (.bool (decide (Ao v.ns r)))}:=by
 rw[jV,List.map_cons,List.map_cons,List.map_nil,A1 h st hx hy,Tj,bM,bM,fY];exact Sv (c85 (h.rq q z tag hq hz) r)
theorem aC8 {call:Nat→List AV→Option AV} {inl:Nat→List AV→St→Option (AV × St)} {ops:Array Oper} {st:St} {T:Nat} {pos:String} {eW:Array Edge} (x:Array Operand) (y:Array Nat) :
 gU Tryz.prog true call inl ops ⟨some 50,.call ⟨.value (.func 86),x,y⟩,T,pos,eW,none⟩ st=cT (inl 86 (x.toList.map st.ev) st) fun r=>some ((st.back r.2).put (some 50) r.1):=XA 86 x y (AE rfl)
noncomputable def JT (t:State) (ns:List Node) (Q R:Option (List Request)):(Option (List Request) × Int) × List Request:=Ap ns t.store.now ((Q,t.dA),[]) (ol R)
noncomputable def aC9 (t:State) (ns:List Node) (Q R:Option (List Request)):State:=Ef t (ov aE (JT t ns Q R).1.1) (ov aE (nz (JT t ns Q R).2)) (JT t ns Q R).1.2
theorem Cy (t:State) (X Y:AV) (tag:Int):(Ef t X Y tag).iY=X:=rfl
theorem Cz (t:State) (X Y:AV) (tag:Int):(Ef t X Y tag).rK=Y:=rfl
theorem Da (t:State) (X Y:AV) (tag:Int):(Ef t X Y tag).dA=tag:=rfl
theorem Db (t:State) (X Y:AV) (tag:Int):(Ef t X Y tag).store=t.store:=rfl
theorem c74 {t:State} {v:SV} {Q R:Option (List Request)} (h:TD t v Q R) (hn:((ol Q).length:Int)+(ol R).length<800000):aB Tryz.prog 74 [.agg (aT t)]=some (.agg (aT (aC9 t v.ns Q R))):=by
 have pG:=h.fl
 have nR:=h.nR
 have hlen:∀k:Nat,(ol (Ap v.ns t.store.now ((Q,t.dA),[]) ((ol R).take k)).1.1).length≤(ol Q).length+(ol R).length∧(Ap v.ns t.store.now ((Q,t.dA),[]) ((ol R).take k)).2.length≤(ol R).length:=fun k=>by
  have h1:=PL v.ns t.store.now ((ol R).take k) ((Q,t.dA),[])
  have h2:=List.length_take_le' k (ol R)
  have e:(ol ((Q,t.dA),([]:List Request)).1.1).length=(ol Q).length:=rfl
  have e2:((Q,t.dA),([]:List Request)).2.length=0:=rfl
  rw[e,e2] at h1;omega
 rw[cG Tryz.func74 rfl aRO (by kernel_rfl) rfl]
 refine iT ?_
 simp only[ZG,seval,Bool.false_and,Prod.mk.injEq,Lv,h.ret];refine kS (fun m st=>∃(k:Nat) (X Y:AV) (p:(Option (List Request) × Int) × List Request),(st.env 1=.ptr 1 0 0∧st.heap 1 0=some (.cells (aT (Ef t X Y p.1.2)))∧st.env 2=.ptr 2 0 0∧st.heap 2 0=some (.cells (aT lX))∧st.env 3=ov aE R∧st.env 4=.v (.int .i64 k)∧0<st.aU 1∧0<st.aU 2)∧(X=ov aE p.1.1∨∃g L,p.1.1=some L∧X=.own 19 g∧g<st.aU 19∧st.heap 19 g=some (.row 63 35 L.length (aE L)))∧((Y=.v (.slice none 0 0)∧p.2=[])∨∃g,p.2≠[]∧Y=.own 30 g∧g<st.aU 30∧st.heap 30 g=some (.row 63 35 p.2.length (aE p.2)))∧p=Ap v.ns t.store.now ((Q,t.dA),[]) ((ol R).take k)∧k≤(ol R).length∧m=(ol R).length-k)
  (fun e st=>e=.exit 0∧∃(X Y:AV) (p:(Option (List Request) × Int) × List Request),(st.env 1=.ptr 1 0 0∧st.heap 1 0=some (.cells (aT (Ef t X Y p.1.2)))∧st.env 2=.ptr 2 0 0∧st.heap 2 0=some (.cells (aT lX)))∧(X=ov aE p.1.1∨∃g L,p.1.1=some L∧X=.own 19 g∧st.heap 19 g=some (.row 63 35 L.length (aE L)))∧((Y=.v (.slice none 0 0)∧p.2=[])∨∃g,p.2≠[]∧Y=.own 30 g∧st.heap 30 g=some (.row 63 35 p.2.length (aE p.2)))∧p=JT t v.ns Q R) (ol R).length ?step ?start ?rest
 case step =>
  rintro m st ⟨k,X,Y,p,hI,hX,hY,hp,hk,hm⟩
  by_cases bA:(k:Int)<(ol R).length
  case neg =>
   have Bu:k=(ol R).length:=by omega
   rw[Bu,List.take_length] at hp;have hX':(X=ov aE p.1.1∨∃g L,p.1.1=some L∧X=.own 19 g∧st.heap 19 g=some (.row 63 35 L.length (aE L))):=hX.imp id fun ⟨g,L,a,b,_,c⟩=>⟨g,L,a,b,c⟩
   have hY':((Y=.v (.slice none 0 0)∧p.2=[])∨∃g,p.2≠[]∧Y=.own 30 g∧st.heap 30 g=some (.row 63 35 p.2.length (aE p.2))):=hY.imp id fun ⟨g,a,b,_,c⟩=>⟨g,a,b,c⟩
   apply HF (.exit 0)
   ·simp only[ZG,seval,Bool.false_and,Prod.mk.injEq,Lv,hI,bA];rfl
   ·exact⟨rfl,X,Y,p,by simp only[E8,seval,hI],by simpa only[E8,seval] using hX',by simpa only[E8,seval] using hY',hp⟩
  have q0:(0:Int)≤k:=by omega
  have hw:IntKind.i64.wrap ((k:Int)+1)=((k+1:Nat):Int):=by rw[nU _ (by omega) (by omega)];omega
  have hs:=I7 v.ns t.store.now ((Q,t.dA),[]) (ol R) k (by omega)
  have hl:=hlen k
  have yS:=hlen (k+1)
  rw[← hp] at hs hl;obtain⟨r,er⟩:∃r,gx cZ (ol R) (k:Int)=r:=⟨_,rfl⟩
  rw[er] at hs;unfold Nt at hs;have Q5:((ol p.1.1).length:Int)<900000:=by omega
  have nZ9:(p.2.length:Int)<900000:=by omega
  have nZ:(p.2.length:Int)<1000000:=by omega
  by_cases g1:t.store.now<r.due
  ·rw[if_pos g1] at hs;rcases hY with ⟨rfl,hz⟩|⟨g,hz,rfl,hg,hh⟩
   ·apply Cx ((ol R).length-(k+1))
    ·simp only[ZG,seval,Bool.false_and,Prod.mk.injEq,Lv,hI,bA,q0,er,Cy,Cz,Da,Db,g1,hw];rfl
    ·exact⟨k+1,X,_,(p.1,p.2++[r]),by and_intros<;>(simp only[E8,seval,hI]<;>rfl),by simpa only[E8,seval] using hX,.inr ⟨_,by simp,rfl,by simp only[E8,seval]<;>omega,by rw[hz];simp only[E8,seval]<;>rfl⟩,hs.symm,by omega,rfl⟩
   ·have vA:(g=st.aU 30)=False:=eq_false (by omega)
    apply Cx ((ol R).length-(k+1))
    ·simp only[ZG,seval,Bool.false_and,Prod.mk.injEq,Lv,hI,bA,q0,er,Cy,Cz,Da,Db,hh,vA,g1,hw,tP _ _ _ _ nZ];rfl
    ·exact⟨k+1,X,_,(p.1,p.2++[r]),by and_intros<;>(simp only[E8,seval,hI]<;>rfl),by simpa only[E8,seval] using hX,.inr ⟨_,by simp,rfl,by simp only[E8,seval]<;>omega,by simp only[E8,seval]<;>rfl⟩,hs.symm,by omega,rfl⟩
  rw[if_neg g1] at hs;by_cases g2:Ao v.ns r.block
  case neg =>
   rw[if_neg g2] at hs;rcases hX with rfl|⟨g,L,hL,rfl,hg,hh⟩
   ·rcases hY with ⟨rfl,hz⟩|⟨g9,hz,rfl,hg9,PN⟩
    ·have Nu:∀(st:St) (d:Option Nat),aO (aB Tryz.prog) 85 [.agg (aT (Ef t (ov aE p.1.1) (.v (.slice none 0 0)) p.1.2)),.agg (bD r.block)] st d=some { dst:=d,val:=.v (.bool (decide (Ao v.ns r.block)))}:=fun st d=>PM h p.1.1 none p.1.2 Q5 (by show ((0:Nat):Int)<_;omega) r.block st d (pT _) (show cJ st (.v (.slice none 0 0))=some (ov aE none) from pT none)
     apply Cx ((ol R).length-(k+1))
     ·simp only[ZG,seval,Bool.false_and,Prod.mk.injEq,Lv,hI,bA,q0,er,Cy,Cz,Da,Db,g1,Nu,g2,hw];rfl
     ·exact⟨k+1,_,_,p,by and_intros<;>(simp only[E8,seval,hI]<;>rfl),.inl rfl,.inl ⟨rfl,hz⟩,hs.symm,by omega,rfl⟩
    ·have Nu:∀(st:St) (d:Option Nat),st.heap 30 g9=some (.row 63 35 p.2.length (aE p.2))→aO (aB Tryz.prog) 85 [.agg (aT (Ef t (ov aE p.1.1) (.own 30 g9) p.1.2)),.agg (bD r.block)] st d=some { dst:=d,val:=.v (.bool (decide (Ao v.ns r.block)))}:=fun st d h2=>PM h p.1.1 (some p.2) p.1.2 Q5 nZ9 r.block st d (pT _) (show cJ st (.own 30 g9)=some (ov aE (some p.2)) from kD h2)
     apply Cx ((ol R).length-(k+1))
     ·simp only[ZG,seval,Bool.false_and,Prod.mk.injEq,Lv,hI,bA,q0,er,Cy,Cz,Da,Db,g1,Nu,PN,g2,hw];rfl
     ·exact⟨k+1,_,_,p,by and_intros<;>(simp only[E8,seval,hI]<;>rfl),.inl rfl,.inr ⟨g9,hz,rfl,by simp only[E8,seval]<;>omega,by simp only[E8,seval,PN]⟩,hs.symm,by omega,rfl⟩
   ·rcases hY with ⟨rfl,hz⟩|⟨g9,hz,rfl,hg9,PN⟩
    ·have Nu:∀(st:St) (d:Option Nat),st.heap 19 g=some (.row 63 35 L.length (aE L))→aO (aB Tryz.prog) 85 [.agg (aT (Ef t (.own 19 g) (.v (.slice none 0 0)) p.1.2)),.agg (bD r.block)] st d=some { dst:=d,val:=.v (.bool (decide (Ao v.ns r.block)))}:=fun st d h1=>PM h p.1.1 none p.1.2 Q5 (by show ((0:Nat):Int)<_;omega) r.block st d (by rw[hL];exact kD h1) (show cJ st (.v (.slice none 0 0))=some (ov aE none) from pT none)
     apply Cx ((ol R).length-(k+1))
     ·simp only[ZG,seval,Bool.false_and,Prod.mk.injEq,Lv,hI,bA,q0,er,Cy,Cz,Da,Db,g1,Nu,hh,g2,hw];rfl
     ·exact⟨k+1,_,_,p,by and_intros<;>(simp only[E8,seval,hI]<;>rfl),.inr ⟨g,L,hL,rfl,by simp only[E8,seval]<;>omega,by simp only[E8,seval,hh]⟩,.inl ⟨rfl,hz⟩,hs.symm,by omega,rfl⟩
    ·have Nu:∀(st:St) (d:Option Nat),st.heap 19 g=some (.row 63 35 L.length (aE L))→st.heap 30 g9=some (.row 63 35 p.2.length (aE p.2))→aO (aB Tryz.prog) 85 [.agg (aT (Ef t (.own 19 g) (.own 30 g9) p.1.2)),.agg (bD r.block)] st d=some { dst:=d,val:=.v (.bool (decide (Ao v.ns r.block)))}:=fun st d h1 h2=>PM h p.1.1 (some p.2) p.1.2 Q5 nZ9 r.block st d (by rw[hL];exact kD h1) (show cJ st (.own 30 g9)=some (ov aE (some p.2)) from kD h2)
     apply Cx ((ol R).length-(k+1))
     ·simp only[ZG,seval,Bool.false_and,Prod.mk.injEq,Lv,hI,bA,q0,er,Cy,Cz,Da,Db,g1,Nu,hh,PN,g2,hw];rfl
     ·exact⟨k+1,_,_,p,by and_intros<;>(simp only[E8,seval,hI]<;>rfl),.inr ⟨g,L,hL,rfl,by simp only[E8,seval]<;>omega,by simp only[E8,seval,hh]⟩,.inr ⟨g9,hz,rfl,by simp only[E8,seval]<;>omega,by simp only[E8,seval,PN]⟩,hs.symm,by omega,rfl⟩
  rw[if_pos g2] at hs;rcases hX with rfl|⟨g,L,hL,rfl,hg,hh⟩
  ·rcases hY with ⟨rfl,hz⟩|⟨g9,hz,rfl,hg9,PN⟩
   ·have Nu:∀(st:St) (d:Option Nat),aO (aB Tryz.prog) 85 [.agg (aT (Ef t (ov aE p.1.1) (.v (.slice none 0 0)) p.1.2)),.agg (bD r.block)] st d=some { dst:=d,val:=.v (.bool (decide (Ao v.ns r.block)))}:=fun st d=>PM h p.1.1 none p.1.2 Q5 (by show ((0:Nat):Int)<_;omega) r.block st d (pT _) (show cJ st (.v (.slice none 0 0))=some (ov aE none) from pT none)
    obtain⟨G,hG⟩:=aFA t (.v (.slice none 0 0)) p.1.1 p.1.2 (by omega) r.block r.tries
    have kG:=fun st=>(hG st).1
    have f1:∀st:St,0<st.aU 1→(G st).heap 1 0=st.heap 1 0:=fun st h=>(hG st).2.1.1 1 0 h
    have f2:∀st:St,0<st.aU 2→(G st).heap 2 0=st.heap 2 0:=fun st h=>(hG st).2.1.1 2 0 h
    have c1:∀st:St,0<st.aU 1→(0<(G st).aU 1)=True:=fun st h=>eq_true (Nat.lt_of_lt_of_le h ((hG st).2.1.2 1))
    have c2:∀st:St,0<st.aU 2→(0<(G st).aU 2)=True:=fun st h=>eq_true (Nat.lt_of_lt_of_le h ((hG st).2.1.2 2))
    have fn:∀(st:St) (c:Nat),c=st.aU 19→(G st).heap 19 c=_:=fun st c e=>e ▸ (hG st).2.2.1
    have cn:∀(st:St) (c:Nat),c=st.aU 19→(c<(G st).aU 19)=True:=fun st c e=>e ▸ eq_true (hG st).2.2.2
    apply Cx ((ol R).length-(k+1))
    ·simp only[ZG,seval,Bool.false_and,Prod.mk.injEq,Lv,hI,bA,q0,er,Cy,Cz,Da,Db,g1,Nu,g2,aC8,kG,f1,bQ,aQ,aW,hw];rfl
    ·exact⟨k+1,_,_,((some (ol p.1.1++[(⟨⟨p.1.2⟩,r.block,r.tries,0⟩:Request)]),IntKind.u64.wrap (p.1.2+1)),p.2),⟨by simp only[E8,seval,hI,bQ],by simp only[E8,seval,hI,aQ,aW]<;>rfl,by simp only[E8,seval,hI,bQ],by simp only[E8,seval,hI,aQ,aW,f2],by simp only[E8,seval,hI,bQ],by simp only[E8,seval,hI,bQ],by simp only[E8,seval,hI,aW,c1],by simp only[E8,seval,hI,aW,c2]⟩,.inr ⟨_,(ol p.1.1++[(⟨⟨p.1.2⟩,r.block,r.tries,0⟩:Request)]),rfl,rfl,by simp only[E8,seval,aW,cn],by simp only[E8,seval,aQ,aW,fn]⟩,.inl ⟨rfl,hz⟩,hs.symm,by omega,rfl⟩
   ·have Nu:∀(st:St) (d:Option Nat),st.heap 30 g9=some (.row 63 35 p.2.length (aE p.2))→aO (aB Tryz.prog) 85 [.agg (aT (Ef t (ov aE p.1.1) (.own 30 g9) p.1.2)),.agg (bD r.block)] st d=some { dst:=d,val:=.v (.bool (decide (Ao v.ns r.block)))}:=fun st d h2=>PM h p.1.1 (some p.2) p.1.2 Q5 nZ9 r.block st d (pT _) (show cJ st (.own 30 g9)=some (ov aE (some p.2)) from kD h2)
    obtain⟨G,hG⟩:=aFA t (.own 30 g9) p.1.1 p.1.2 (by omega) r.block r.tries
    have kG:=fun st=>(hG st).1
    have f1:∀st:St,0<st.aU 1→(G st).heap 1 0=st.heap 1 0:=fun st h=>(hG st).2.1.1 1 0 h
    have f2:∀st:St,0<st.aU 2→(G st).heap 2 0=st.heap 2 0:=fun st h=>(hG st).2.1.1 2 0 h
    have c1:∀st:St,0<st.aU 1→(0<(G st).aU 1)=True:=fun st h=>eq_true (Nat.lt_of_lt_of_le h ((hG st).2.1.2 1))
    have c2:∀st:St,0<st.aU 2→(0<(G st).aU 2)=True:=fun st h=>eq_true (Nat.lt_of_lt_of_le h ((hG st).2.1.2 2))
    have fn:∀(st:St) (c:Nat),c=st.aU 19→(G st).heap 19 c=_:=fun st c e=>e ▸ (hG st).2.2.1
    have cn:∀(st:St) (c:Nat),c=st.aU 19→(c<(G st).aU 19)=True:=fun st c e=>e ▸ eq_true (hG st).2.2.2
    have f3:∀st:St,g9<st.aU 30→(G st).heap 30 g9=st.heap 30 g9:=fun st h=>(hG st).2.1.1 30 g9 h
    have c3:∀st:St,g9<st.aU 30→(g9<(G st).aU 30)=True:=fun st h=>eq_true (Nat.lt_of_lt_of_le h ((hG st).2.1.2 30))
    apply Cx ((ol R).length-(k+1))
    ·simp only[ZG,seval,Bool.false_and,Prod.mk.injEq,Lv,hI,bA,q0,er,Cy,Cz,Da,Db,g1,Nu,PN,g2,aC8,kG,f1,bQ,aQ,aW,hw];rfl
    ·exact⟨k+1,_,_,((some (ol p.1.1++[(⟨⟨p.1.2⟩,r.block,r.tries,0⟩:Request)]),IntKind.u64.wrap (p.1.2+1)),p.2),⟨by simp only[E8,seval,hI,bQ],by simp only[E8,seval,hI,aQ,aW]<;>rfl,by simp only[E8,seval,hI,bQ],by simp only[E8,seval,hI,aQ,aW,f2],by simp only[E8,seval,hI,bQ],by simp only[E8,seval,hI,bQ],by simp only[E8,seval,hI,aW,c1],by simp only[E8,seval,hI,aW,c2]⟩,.inr ⟨_,(ol p.1.1++[(⟨⟨p.1.2⟩,r.block,r.tries,0⟩:Request)]),rfl,rfl,by simp only[E8,seval,aW,cn],by simp only[E8,seval,aQ,aW,fn]⟩,.inr ⟨g9,hz,rfl,by simp only[E8,seval,aW,hg9,c3],by simp only[E8,seval,aQ,aW,hg9,PN,f3]⟩,hs.symm,by omega,rfl⟩
  ·rcases hY with ⟨rfl,hz⟩|⟨g9,hz,rfl,hg9,PN⟩
   ·have Nu:∀(st:St) (d:Option Nat),st.heap 19 g=some (.row 63 35 L.length (aE L))→aO (aB Tryz.prog) 85 [.agg (aT (Ef t (.own 19 g) (.v (.slice none 0 0)) p.1.2)),.agg (bD r.block)] st d=some { dst:=d,val:=.v (.bool (decide (Ao v.ns r.block)))}:=fun st d h1=>PM h p.1.1 none p.1.2 Q5 (by show ((0:Nat):Int)<_;omega) r.block st d (by rw[hL];exact kD h1) (show cJ st (.v (.slice none 0 0))=some (ov aE none) from pT none)
    have nL:(L.length:Int)<1000000:=by rw[hL] at Q5;have:(L.length:Int)<900000:=Q5;omega
    obtain⟨G,hG⟩:=Y7 t (.v (.slice none 0 0)) g L p.1.2 nL r.block r.tries
    have kG:∀st:St,st.heap 19 g=some (.row 63 35 L.length (aE L))→g<st.aU 19→_:=fun st a b=>(hG st ⟨a,b⟩).1
    have f1:∀st:St,st.heap 19 g=some (.row 63 35 L.length (aE L))→g<st.aU 19→0<st.aU 1→(G st).heap 1 0=st.heap 1 0:=fun st a b h=>(hG st ⟨a,b⟩).2.1.1 1 0 h
    have f2:∀st:St,st.heap 19 g=some (.row 63 35 L.length (aE L))→g<st.aU 19→0<st.aU 2→(G st).heap 2 0=st.heap 2 0:=fun st a b h=>(hG st ⟨a,b⟩).2.1.1 2 0 h
    have c1:∀st:St,st.heap 19 g=some (.row 63 35 L.length (aE L))→g<st.aU 19→0<st.aU 1→(0<(G st).aU 1)=True:=fun st a b h=>eq_true (Nat.lt_of_lt_of_le h ((hG st ⟨a,b⟩).2.1.2 1))
    have c2:∀st:St,st.heap 19 g=some (.row 63 35 L.length (aE L))→g<st.aU 19→0<st.aU 2→(0<(G st).aU 2)=True:=fun st a b h=>eq_true (Nat.lt_of_lt_of_le h ((hG st ⟨a,b⟩).2.1.2 2))
    have fn:∀(st:St) (c:Nat),st.heap 19 g=some (.row 63 35 L.length (aE L))→g<st.aU 19→c=st.aU 19→(G st).heap 19 c=_:=fun st c a b e=>e ▸ (hG st ⟨a,b⟩).2.2.1
    have cn:∀(st:St) (c:Nat),st.heap 19 g=some (.row 63 35 L.length (aE L))→g<st.aU 19→c=st.aU 19→(c<(G st).aU 19)=True:=fun st c a b e=>e ▸ eq_true (hG st ⟨a,b⟩).2.2.2
    have eL:ol p.1.1=L:=by rw[hL];rfl
    rw[eL] at hs;apply Cx ((ol R).length-(k+1))
    ·simp only[ZG,seval,Bool.false_and,Prod.mk.injEq,Lv,hI,bA,q0,er,Cy,Cz,Da,Db,g1,Nu,hh,hg,g2,aC8,kG,f1,bQ,aQ,aW,hw];rfl
    ·exact⟨k+1,_,_,((some (L++[(⟨⟨p.1.2⟩,r.block,r.tries,0⟩:Request)]),IntKind.u64.wrap (p.1.2+1)),p.2),⟨by simp only[E8,seval,hI,bQ],by simp only[E8,seval,hI,aQ,aW]<;>rfl,by simp only[E8,seval,hI,bQ],by simp only[E8,seval,hI,hh,hg,aQ,aW,f2],by simp only[E8,seval,hI,bQ],by simp only[E8,seval,hI,bQ],by simp only[E8,seval,hI,hh,hg,aW,c1],by simp only[E8,seval,hI,hh,hg,aW,c2]⟩,.inr ⟨_,(L++[(⟨⟨p.1.2⟩,r.block,r.tries,0⟩:Request)]),rfl,rfl,by simp only[E8,seval,aW,hh,hg,cn],by simp only[E8,seval,aQ,aW,hh,hg,fn]⟩,.inl ⟨rfl,hz⟩,hs.symm,by omega,rfl⟩
   ·have Nu:∀(st:St) (d:Option Nat),st.heap 19 g=some (.row 63 35 L.length (aE L))→st.heap 30 g9=some (.row 63 35 p.2.length (aE p.2))→aO (aB Tryz.prog) 85 [.agg (aT (Ef t (.own 19 g) (.own 30 g9) p.1.2)),.agg (bD r.block)] st d=some { dst:=d,val:=.v (.bool (decide (Ao v.ns r.block)))}:=fun st d h1 h2=>PM h p.1.1 (some p.2) p.1.2 Q5 nZ9 r.block st d (by rw[hL];exact kD h1) (show cJ st (.own 30 g9)=some (ov aE (some p.2)) from kD h2)
    have nL:(L.length:Int)<1000000:=by rw[hL] at Q5;have:(L.length:Int)<900000:=Q5;omega
    obtain⟨G,hG⟩:=Y7 t (.own 30 g9) g L p.1.2 nL r.block r.tries
    have kG:∀st:St,st.heap 19 g=some (.row 63 35 L.length (aE L))→g<st.aU 19→_:=fun st a b=>(hG st ⟨a,b⟩).1
    have f1:∀st:St,st.heap 19 g=some (.row 63 35 L.length (aE L))→g<st.aU 19→0<st.aU 1→(G st).heap 1 0=st.heap 1 0:=fun st a b h=>(hG st ⟨a,b⟩).2.1.1 1 0 h
    have f2:∀st:St,st.heap 19 g=some (.row 63 35 L.length (aE L))→g<st.aU 19→0<st.aU 2→(G st).heap 2 0=st.heap 2 0:=fun st a b h=>(hG st ⟨a,b⟩).2.1.1 2 0 h
    have c1:∀st:St,st.heap 19 g=some (.row 63 35 L.length (aE L))→g<st.aU 19→0<st.aU 1→(0<(G st).aU 1)=True:=fun st a b h=>eq_true (Nat.lt_of_lt_of_le h ((hG st ⟨a,b⟩).2.1.2 1))
    have c2:∀st:St,st.heap 19 g=some (.row 63 35 L.length (aE L))→g<st.aU 19→0<st.aU 2→(0<(G st).aU 2)=True:=fun st a b h=>eq_true (Nat.lt_of_lt_of_le h ((hG st ⟨a,b⟩).2.1.2 2))
    have fn:∀(st:St) (c:Nat),st.heap 19 g=some (.row 63 35 L.length (aE L))→g<st.aU 19→c=st.aU 19→(G st).heap 19 c=_:=fun st c a b e=>e ▸ (hG st ⟨a,b⟩).2.2.1
    have cn:∀(st:St) (c:Nat),st.heap 19 g=some (.row 63 35 L.length (aE L))→g<st.aU 19→c=st.aU 19→(c<(G st).aU 19)=True:=fun st c a b e=>e ▸ eq_true (hG st ⟨a,b⟩).2.2.2
    have f3:∀st:St,st.heap 19 g=some (.row 63 35 L.length (aE L))→g<st.aU 19→g9<st.aU 30→(G st).heap 30 g9=st.heap 30 g9:=fun st a b h=>(hG st ⟨a,b⟩).2.1.1 30 g9 h
    have c3:∀st:St,st.heap 19 g=some (.row 63 35 L.length (aE L))→g<st.aU 19→g9<st.aU 30→(g9<(G st).aU 30)=True:=fun st a b h=>eq_true (Nat.lt_of_lt_of_le h ((hG st ⟨a,b⟩).2.1.2 30))
    have eL:ol p.1.1=L:=by rw[hL];rfl
    rw[eL] at hs;apply Cx ((ol R).length-(k+1))
    ·simp only[ZG,seval,Bool.false_and,Prod.mk.injEq,Lv,hI,bA,q0,er,Cy,Cz,Da,Db,g1,Nu,hh,PN,hg,g2,aC8,kG,f1,bQ,aQ,aW,hw];rfl
    ·exact⟨k+1,_,_,((some (L++[(⟨⟨p.1.2⟩,r.block,r.tries,0⟩:Request)]),IntKind.u64.wrap (p.1.2+1)),p.2),⟨by simp only[E8,seval,hI,bQ],by simp only[E8,seval,hI,aQ,aW]<;>rfl,by simp only[E8,seval,hI,bQ],by simp only[E8,seval,hI,hh,hg,aQ,aW,f2],by simp only[E8,seval,hI,bQ],by simp only[E8,seval,hI,bQ],by simp only[E8,seval,hI,hh,hg,aW,c1],by simp only[E8,seval,hI,hh,hg,aW,c2]⟩,.inr ⟨_,(L++[(⟨⟨p.1.2⟩,r.block,r.tries,0⟩:Request)]),rfl,rfl,by simp only[E8,seval,aW,hh,hg,cn],by simp only[E8,seval,aQ,aW,hh,hg,fn]⟩,.inr ⟨g9,hz,rfl,by simp only[E8,seval,aW,hg9,hh,hg,c3],by simp only[E8,seval,aQ,aW,hg9,PN,hh,hg,f3]⟩,hs.symm,by omega,rfl⟩
 case start=>exact⟨0,ov aE Q,.v (.slice none 0 0),((Q,t.dA),[]),⟨by simp only[E8,seval],by simp only[E8,seval,h.Hx]<;>rfl,by simp only[E8,seval],by simp only[E8,seval],by simp only[E8,seval],by simp only[E8,seval]<;>rfl,by simp only[E8,seval]<;>omega,by simp only[E8,seval]<;>omega⟩,.inl rfl,.inl ⟨rfl,rfl⟩,rfl,by omega,by omega⟩
 case rest =>
  rintro e st ⟨rfl,X,Y,p,hI,hX,hY,hp⟩
  have hv:aC9 t v.ns Q R=Ef t (ov aE p.1.1) (ov aE (nz p.2)) p.1.2:=by unfold aC9;rw[← hp]
  have hex:∀st:St,∀X' Y',cJ st X=some X'→cJ st Y=some Y'→fP st (.agg (aT (Ef t X Y p.1.2)))=some (.agg (aT (Ef t X' Y' p.1.2))):=fun st X' Y' hx hy=>A1 h st hx hy p.1.2
  rcases hX with rfl|⟨g,L,hL,rfl,hh⟩
  ·rcases hY with ⟨rfl,hz⟩|⟨g9,hz,rfl,PN⟩
   ·rw[hz,show nz ([]:List Request)=none from if_pos rfl] at hv
    simp only[ZG,seval,Bool.false_and,Prod.mk.injEq,Lv,hI];exact⟨_,eA rfl (by simp only[E8,seval,hI]<;>rfl) (by simp only[ZG,seval,hI]<;>rfl) (hex _ _ _ (pT _) (pT none)),by rw[hv]⟩
   ·rw[show nz p.2=some p.2 from if_neg hz] at hv;simp only[ZG,seval,Bool.false_and,Prod.mk.injEq,Lv,hI,PN];exact⟨_,eA rfl (by simp only[E8,seval,hI]<;>rfl) (by simp only[ZG,seval,hI]<;>rfl) (hex _ _ _ (pT _) (kD (by simp only[E8,seval,PN]<;>rfl))),by rw[hv]⟩
  ·rcases hY with ⟨rfl,hz⟩|⟨g9,hz,rfl,PN⟩
   ·rw[hz,show nz ([]:List Request)=none from if_pos rfl,hL] at hv
    simp only[ZG,seval,Bool.false_and,Prod.mk.injEq,Lv,hI,hh];exact⟨_,eA rfl (by simp only[E8,seval,hI]<;>rfl) (by simp only[ZG,seval,hI]<;>rfl) (hex _ _ _ (kD (by simp only[E8,seval,hh]<;>rfl)) (pT none)),by rw[hv]⟩
   ·rw[show nz p.2=some p.2 from if_neg hz,hL] at hv;simp only[ZG,seval,Bool.false_and,Prod.mk.injEq,Lv,hI,hh,PN];exact⟨_,eA rfl (by simp only[E8,seval,hI]<;>rfl) (by simp only[ZG,seval,hI]<;>rfl) (hex _ _ _ (kD (by simp only[E8,seval,hh]<;>rfl)) (kD (by simp only[E8,seval,PN]<;>rfl))),by rw[hv]⟩
theorem aGV (x:Int):IntKind.i64.wrap x≤9223372036854775807:=by
 rw[IntKind.wrap_i64];omega
def xI (a b:Request):Prop:=a.due<b.due∨(a.due=b.due∧a.tagged.tag<b.tagged.tag)
noncomputable def Dc:Nat→List Request→List Request
 | 0,l=>l
 | k+1,l=>if xI (gx cZ l ((k+1:Nat):Int)) (gx cZ l (k:Int)) then Dc k ((l.set (k+1) (gx cZ l (k:Int))).set k (gx cZ l ((k+1:Nat):Int))) else l
theorem PO:∀(k:Nat) (l:List Request),(Dc k l).length=l.length
 | 0,l=>rfl
 | k+1,l=>by
   unfold Dc;split
   ·rw[PO k,List.length_set,List.length_set]
   ·rfl
noncomputable def PQ (t:State) (r:Request):Request:={ r with tries:=IntKind.i64.wrap (r.tries+1),due:=IntKind.u64.wrap (t.store.now+WZ (IntKind.i64.wrap (r.tries+1)) t.store.cFg.lJ.rL)}
noncomputable def I8 (t:State) (ns:List Node) (R:List Request) (r:Request):State :=
 if ¬Ao ns r.block then t else if t.store.cFg.lJ.oI≤(R.length:Int) then { t with overflow:=true } else { t with rK:=ov aE (some (Dc R.length (R++[PQ t r])))}
theorem c72 {t:State} {v:SV} {Q R:Option (List Request)} (h:TD t v Q R) (r:Request):aB Tryz.prog 72 [.agg (aT t),.agg (dD r)]=some (.agg (aT (I8 t v.ns (ol R) r))):=by
 have hf:=h.flat
 have pG:=h.fl
 have nR:=h.nR
 have nR1:((ol R).length:Int)<1000000:=by omega
 have I5:=k85 h r.block
 have fr:Flat (.agg (dD r)):=.agg _ (jR r)
 rw[cL Tryz.func72 rfl aRP rfl];refine iT ?_
 by_cases g1:Ao v.ns r.block
 case neg =>
  simp only[Z8,seval,I5,g1];exact⟨_,fL rfl (by simp only[E8,seval,hf]<;>rfl) (by simp only[Z8,seval,hf]<;>rfl) (by simp only[eC,and_self,hf]),by rw[I8,if_pos g1]⟩
 by_cases g2:t.store.cFg.lJ.oI≤((ol R).length:Int)
 ·have hf2:Flat (.agg (aT { t with overflow:=true })):=(uH _).2 pG
  simp only[Z8,seval,I5,g1,h.ret,g2];exact⟨_,fL rfl (by simp only[E8,seval,pG]<;>rfl) (by simp only[Z8,seval,pG]<;>rfl) (by simp only[eC,and_self,pG]),by rw[I8,if_neg (fun hh=>hh g1),if_pos g2,← h.ret]⟩
 have hv:I8 t v.ns (ol R) r=_:=(if_neg (fun hh=>hh g1)).trans (if_neg g2)
 rw[hv];have k143':=aRz (IntKind.i64.wrap (r.tries+1)) t.store.cFg.lJ.rL (aGV _)
 obtain⟨L0,hL0⟩:∃L0,ol R++[PQ t r]=L0:=⟨_,rfl⟩
 have hlL:L0.length=(ol R).length+1:=by rw[← hL0,List.length_append,List.length_cons,List.length_nil]
 have hL0':ol R++[({ tagged:=r.tagged,block:=r.block,tries:=IntKind.i64.wrap (r.tries+1),due:=IntKind.u64.wrap (t.store.now+WZ (IntKind.i64.wrap (r.tries+1)) t.store.cFg.lJ.rL)}:Request)]=L0:=hL0
 rw[hL0];have w1:IntKind.i64.wrap ((L0.length:Int)-1)=((ol R).length:Int):=by rw[nU _ (by omega) (by omega)];omega
 simp only[Z8,seval,I5,g1,h.ret,g2,k143',mG,mH,qZ _ nR1,tP _ _ _ _ nR1,hL0',w1];refine cI (fun m st=>∃(k:Nat) (l:List Request),(st.env 2=.ptr 2 0 0∧st.heap 2 0=some (.cells (aT t))∧st.env 4=.ptr 4 0 0∧st.heap 4 0=some (.cells (aT lX))∧st.env 5=.own 46 0∧st.heap 46 0=some (.row 63 35 l.length (aE l))∧st.env 6=.v (.int .i64 k))∧Dc k l=Dc (ol R).length L0∧l.length=L0.length∧k≤(ol R).length∧m=k)
  (fun e st=>e=.exit 0∧∃(l:List Request),(st.env 2=.ptr 2 0 0∧st.heap 2 0=some (.cells (aT t))∧st.env 4=.ptr 4 0 0∧st.heap 4 0=some (.cells (aT lX))∧st.env 5=.own 46 0∧st.heap 46 0=some (.row 63 35 l.length (aE l)))∧l=Dc (ol R).length L0) (ol R).length ?step ?start ?rest
 case step =>
  rintro m st ⟨k,l,hI,hb,hl,hk,hm⟩
  cases k with
  | zero =>
    have z0:¬((0:Int)<((0:Nat):Int)):=by omega
    have hI':=hI
    apply oT (.exit 0)
    ·simp only[Z8,seval,hI,Int.lt_irrefl,mG,mH];rfl
    ·exact⟨rfl,l,by simp only[E8,seval,hI],by rw[← hb];rfl⟩
  | succ j =>
    obtain⟨i,hi⟩:∃i:Int,i=((j+1:Nat):Int):=⟨_,rfl⟩
    obtain⟨i',Dr⟩:∃i':Int,i'=(j:Int):=⟨_,rfl⟩
    rw[← hi] at hI;have p0:(0:Int)<i:=by omega
    have p1:(0:Int)≤i:=by omega
    have p2:i<(l.length:Int):=by omega
    have q1:(0:Int)≤i':=by omega
    have q2:i'<(l.length:Int):=by omega
    have hw:IntKind.i64.wrap (i-1)=i':=by rw[nU _ (by omega) (by omega)];omega
    have ti:i.toNat=j+1:=by omega
    have ti':i'.toNat=j:=by omega
    obtain⟨a,ea⟩:∃a,gx cZ l i=a:=⟨_,rfl⟩
    obtain⟨b,eb⟩:∃b,gx cZ l i'=b:=⟨_,rfl⟩
    have d1:=Gh (T:=23) (n:=l.length) (k:=1) (off:=34) p1 p2 WE (by decide) (by decide)
    have d2:=Gh (T:=23) (n:=l.length) (k:=1) (off:=34) q1 q2 WE (by decide) (by decide)
    have d3:=Aq (T:=23) (n:=l.length) (k:=1) p1 p2 WE (by decide) (by decide)
    have d4:=Aq (T:=23) (n:=l.length) (k:=1) q1 q2 WE (by decide) (by decide)
    have d5:=Aq (T:=63) (n:=l.length) (k:=35) p1 p2 aGW (by decide) (by decide)
    have d6:=Aq (T:=63) (n:=l.length) (k:=35) q1 q2 aGW (by decide) (by decide)
    rw[ea] at d1 d3 d5;rw[eb] at d2 d4 d6;have aDa:∀P:Prop,(xI a b↔P)→Dc (j+1) l=if P then Dc j ((l.set (j+1) b).set j a) else l:=fun P hP=>by
     have e1:gx cZ l ((j+1:Nat):Int)=a:=by rw[← hi];exact ea
     have e2:gx cZ l (j:Int)=b:=by rw[← Dr];exact eb
     have e0:Dc (j+1) l=if xI (gx cZ l ((j+1:Nat):Int)) (gx cZ l (j:Int)) then Dc j ((l.set (j+1) (gx cZ l (j:Int))).set j (gx cZ l ((j+1:Nat):Int))) else l:=rfl
     rw[e0,e1,e2];by_cases hh:xI a b
     ·rw[if_pos hh,if_pos (hP.1 hh)]
     ·rw[if_neg hh,if_neg (fun x=>hh (hP.2 x))]
    have x3:i.toNat * 35+35≤l.length * 35:=by omega
    have x4:i'.toNat * 35+35≤(l.set i.toNat b).length * 35:=by rw[List.length_set];omega
    have x4':i'.toNat * 35+35≤l.length * 35:=by omega
    have u1:=Nv l i b (by omega)
    have u2:=Nv (l.set i.toNat b) i' a (by rw[List.length_set];omega)
    have swp:(l.set i.toNat b).set i'.toNat a=(l.set (j+1) b).set j a:=by rw[ti,ti']
    by_cases g3:a.due<b.due
    ·have oB:=aDa True (iff_of_true (.inl g3) trivial)
     rw[if_pos trivial] at oB
     apply oN (j)
     ·simp only[Z8,seval,hI,p0,p1,p2,q1,q2,hw,d1,d2,d3,d4,d5,d6,g3,x3,x4,x4',u1,u2,List.length_set,mG,mH];rfl
     ·exact⟨j,(l.set i.toNat b).set i'.toNat a,⟨by simp only[E8,seval,hI],by simp only[E8,seval,hI],by simp only[E8,seval,hI],by simp only[E8,seval,hI],by simp only[E8,seval,hI],by rw[List.length_set,List.length_set];simp only[E8,seval,List.length_set]<;>rfl,by simp only[E8,seval,Dr]⟩,by rw[swp,← oB];exact hb,by rw[List.length_set,List.length_set];exact hl,by omega,rfl⟩
    by_cases g4:a.due=b.due
    case neg =>
     have oB:=aDa False (iff_of_false (fun x=>x.elim g3 fun y=>g4 y.1) id)
     rw[if_neg id] at oB
     apply oT (.exit 0)
     ·simp only[Z8,seval,hI,p0,p1,p2,q1,q2,hw,d1,d2,d3,d4,d5,d6,g3,bf g4,mG,mH];rfl
     ·exact⟨rfl,l,by simp only[E8,seval,hI],by rw[← hb,oB]⟩
    by_cases g5:a.tagged.tag<b.tagged.tag
    ·have oB:=aDa True (iff_of_true (.inr ⟨g4,g5⟩) trivial)
     rw[if_pos trivial] at oB
     apply oN (j)
     ·simp only[Z8,seval,hI,p0,p1,p2,q1,q2,hw,d1,d2,d3,d4,d5,d6,g3,bt g4,g5,x3,x4,x4',u1,u2,List.length_set,mG,mH];rfl
     ·exact⟨j,(l.set i.toNat b).set i'.toNat a,⟨by simp only[E8,seval,hI],by simp only[E8,seval,hI],by simp only[E8,seval,hI],by simp only[E8,seval,hI],by simp only[E8,seval,hI],by rw[List.length_set,List.length_set];simp only[E8,seval,List.length_set]<;>rfl,by simp only[E8,seval,Dr]⟩,by rw[swp,← oB];exact hb,by rw[List.length_set,List.length_set];exact hl,by omega,rfl⟩
    ·have oB:=aDa False (iff_of_false (fun x=>x.elim g3 fun y=>g5 y.2) id)
     rw[if_neg id] at oB
     apply oT (.exit 0)
     ·simp only[Z8,seval,hI,p0,p1,p2,q1,q2,hw,d1,d2,d3,d4,d5,d6,g3,bt g4,g5,mG,mH];rfl
     ·exact⟨rfl,l,by simp only[E8,seval,hI],by rw[← hb,oB]⟩
 case start=>exact⟨(ol R).length,L0,by simp only[E8,seval]<;>rfl,rfl,rfl,by omega,rfl⟩
 case rest =>
  rintro e st ⟨rfl,l,hI,hl⟩
  have hex:=pJ l.length l
  subst hl;simp only[Z8,seval,hI];exact⟨_,by apply eA;rfl;all_goals simp only[aH,Z8,seval,hI,hex,pG,bP,vW,gG,bO,cS,pJ,eC]<;>rfl,rfl⟩
theorem aRQ {t:State} {v:SV} {Q R:Option (List Request)} {q:Int} (hT:TD t v Q R) (h:GI t.store v q) (r:RG t.store v) (hB:0<(ol v.B).length∧(ol v.B).length≤64) (hq:∀r∈ol Q,Rg r.tagged.tag) (n k:Int) (hk:0≤k) :
 ∃x,aB Tryz.prog 146 [.agg (aT t),.v (.int .i64 n),.v (.int .i64 k)]=some x∧∃y:xY,x=.agg (lB y)∧pH y∧(y.kind=2→y.block.root=mkRoot n∨∃m∈v.ns,y.block.root=m.block.root):=by
 have z:=zOk
 have hm:=Bt hk (min 4 IntKind.i64.bits)
 have hf:=hT.flat
 have o0:=h.sd.flat
 obtain⟨x1,e1,b,rfl,rb⟩:=x50 h r n (k.fdiv (2 ^ min 4 IntKind.i64.bits)) hm
 obtain⟨x2,e2,a,V,rfl,hV,nV,ra1,ra2⟩:=x37 h r hB (k.fdiv (2 ^ min 4 IntKind.i64.bits)) hm
 obtain⟨x3,e3,sl,rfl,c1,c2,s1,s2,s3,s4⟩:=aRn (ol v.B).length (k.fdiv (2 ^ min 4 IntKind.i64.bits)) (by omega) (by omega)
 obtain⟨x4,e4,tb,bl,rfl,hb,nb,rbl,rt⟩:=aRo h r hB (k.fdiv (2 ^ min 4 IntKind.i64.bits)) hm
 obtain⟨x5,e5,w,rfl,rw5⟩:=x25 hT h hq (k.fdiv (2 ^ min 4 IntKind.i64.bits)) hm
 have fA:Flat a.fB:=by rw[hV];exact bX _
 have fT:Flat tb.iP:=by rw[hb];exact dV _
 have k50:=kx e1 (mE o0 (.v _) (.v _)) (tJ b)
 have k37:=kx e2 (bF o0 (.v _)) ((Ah a).2 fA)
 have k182:=kx e3 (bF (.v _) (.v _)) ((nC sl).2 ⟨(Ai _).1 c1.fl,(Ai _).1 c2.fl⟩)
 have k183:=kx e4 (bF o0 (.v _)) ((iE tb).2 fT)
 have k25:=kx e5 (bF hf (.v _)) (.agg _ (jS w))
 have y1:pH { An with kind:=1 }:=⟨z.Hl,z.c1,z.c2,z.WV,z.rb,z.ra,z.rs,z.rt,z.rv⟩
 have y2:pH { An with kind:=2,block:=b }:=⟨z.Hl,z.c1,z.c2,z.WV,rb.toRB,z.ra,z.rs,z.rt,z.rv⟩
 have y3:pH { An with kind:=3,Hl:=a }:=⟨⟨some V,hV,nV⟩,z.c1,z.c2,z.WV,z.rb,⟨ra1,ra2⟩,z.rs,z.rt,z.rv⟩
 have y4:pH { An with kind:=4,oV:=sl }:=⟨z.Hl,c1,c2,z.WV,z.rb,z.ra,⟨s1,s2,s3,s4⟩,z.rt,z.rv⟩
 have y5:pH { An with kind:=5,table:=tb }:=⟨z.Hl,z.c1,z.c2,⟨some bl,hb,nb,rbl⟩,z.rb,z.ra,z.rs,rt,z.rv⟩
 have y6:pH { An with kind:=6,verdict:=w }:=⟨z.Hl,z.c1,z.c2,z.WV,z.rb,z.ra,z.rs,z.rt,rw5⟩
 rw[cL Tryz.func146 rfl aMy rfl];by_cases c0:((k).tmod 16)=0
 ·simp only[Z8,seval,bt c0];exact⟨_,fL rfl (by simp only[E8,seval]<;>rfl) (by simp only[Z8,seval]<;>rfl) y1.flat,_,rfl,y1,fun h=>absurd (show (1:Int)=2 from h) (by decide)⟩
 by_cases c1:((k).tmod 16)=1
 ·simp only[Z8,seval,bf c0,bt c1];exact⟨_,fL rfl (by simp only[E8,seval]<;>rfl) (by simp only[Z8,seval]<;>rfl) y1.flat,_,rfl,y1,fun h=>absurd (show (1:Int)=2 from h) (by decide)⟩
 by_cases c2:((k).tmod 16)=2
 ·simp only[Z8,seval,bf c0,bf c1,bt c2];exact⟨_,fL rfl (by simp only[E8,seval]<;>rfl) (by simp only[Z8,seval]<;>rfl) y1.flat,_,rfl,y1,fun h=>absurd (show (1:Int)=2 from h) (by decide)⟩
 by_cases c3:((k).tmod 16)=3
 ·simp only[Z8,seval,bf c0,bf c1,bf c2,bt c3,k50];exact⟨_,fL rfl (by simp only[E8,seval]<;>rfl) (by simp only[Z8,seval]<;>rfl) y2.flat,_,rfl,y2,fun _=>rb.rt⟩
 by_cases c4:((k).tmod 16)=4
 ·simp only[Z8,seval,bf c0,bf c1,bf c2,bf c3,bt c4,k50];exact⟨_,fL rfl (by simp only[E8,seval]<;>rfl) (by simp only[Z8,seval]<;>rfl) y2.flat,_,rfl,y2,fun _=>rb.rt⟩
 by_cases c5:((k).tmod 16)=5
 ·simp only[Z8,seval,bf c0,bf c1,bf c2,bf c3,bf c4,bt c5,k50];exact⟨_,fL rfl (by simp only[E8,seval]<;>rfl) (by simp only[Z8,seval]<;>rfl) y2.flat,_,rfl,y2,fun _=>rb.rt⟩
 by_cases c6:((k).tmod 16)=6
 ·simp only[Z8,seval,bf c0,bf c1,bf c2,bf c3,bf c4,bf c5,bt c6,k50];exact⟨_,fL rfl (by simp only[E8,seval]<;>rfl) (by simp only[Z8,seval]<;>rfl) y2.flat,_,rfl,y2,fun _=>rb.rt⟩
 by_cases c7:((k).tmod 16)=7
 ·simp only[Z8,seval,bf c0,bf c1,bf c2,bf c3,bf c4,bf c5,bf c6,bt c7,k50];exact⟨_,fL rfl (by simp only[E8,seval]<;>rfl) (by simp only[Z8,seval]<;>rfl) y2.flat,_,rfl,y2,fun _=>rb.rt⟩
 by_cases c8:((k).tmod 16)=8
 ·simp only[Z8,seval,bf c0,bf c1,bf c2,bf c3,bf c4,bf c5,bf c6,bf c7,bt c8,k37];exact⟨_,fL rfl (by simp only[E8,seval]<;>rfl) (by simp only[Z8,seval]<;>rfl) y3.flat,_,rfl,y3,fun h=>absurd (show (3:Int)=2 from h) (by decide)⟩
 by_cases c9:((k).tmod 16)=9
 ·simp only[Z8,seval,bf c0,bf c1,bf c2,bf c3,bf c4,bf c5,bf c6,bf c7,bf c8,bt c9,k37];exact⟨_,fL rfl (by simp only[E8,seval]<;>rfl) (by simp only[Z8,seval]<;>rfl) y3.flat,_,rfl,y3,fun h=>absurd (show (3:Int)=2 from h) (by decide)⟩
 by_cases c10:((k).tmod 16)=10
 ·simp only[Z8,seval,bf c0,bf c1,bf c2,bf c3,bf c4,bf c5,bf c6,bf c7,bf c8,bf c9,bt c10,k37];exact⟨_,fL rfl (by simp only[E8,seval]<;>rfl) (by simp only[Z8,seval]<;>rfl) y3.flat,_,rfl,y3,fun h=>absurd (show (3:Int)=2 from h) (by decide)⟩
 by_cases c11:((k).tmod 16)=11
 ·simp only[Z8,seval,bf c0,bf c1,bf c2,bf c3,bf c4,bf c5,bf c6,bf c7,bf c8,bf c9,bf c10,bt c11,h.sd.iP,k182];exact⟨_,fL rfl (by simp only[E8,seval]<;>rfl) (by simp only[Z8,seval]<;>rfl) y4.flat,_,rfl,y4,fun h=>absurd (show (4:Int)=2 from h) (by decide)⟩
 by_cases c12:((k).tmod 16)=12
 ·simp only[Z8,seval,bf c0,bf c1,bf c2,bf c3,bf c4,bf c5,bf c6,bf c7,bf c8,bf c9,bf c10,bf c11,bt c12,k183];exact⟨_,fL rfl (by simp only[E8,seval]<;>rfl) (by simp only[Z8,seval]<;>rfl) y5.flat,_,rfl,y5,fun h=>absurd (show (5:Int)=2 from h) (by decide)⟩
 simp only[Z8,seval,bf c0,bf c1,bf c2,bf c3,bf c4,bf c5,bf c6,bf c7,bf c8,bf c9,bf c10,bf c11,bf c12,k25];exact⟨_,fL rfl (by simp only[E8,seval]<;>rfl) (by simp only[Z8,seval]<;>rfl) y6.flat,_,rfl,y6,fun h=>absurd (show (6:Int)=2 from h) (by decide)⟩
theorem aRT (l:List Int) (hl:(l.length:Int)≤9223372036854775807):∃x,aB Tryz.prog 101 [.sl l.length (aK l)]=some x∧∃(c:Config) (b:List Int),x=.agg (bW c)∧Ix c b:=by
 have k0:=Ps l hl 0 (by omega) (by omega)
 obtain⟨a0,b0⟩:=cP (n:=8) (Ie l hl 0 (by omega) (by omega)).2.1 (by omega)
 obtain⟨x0,h0⟩:∃x,(Lr l 0).tmod 8=x:=⟨_,rfl⟩
 rw[h0] at a0 b0;have k1:=Ps l hl 1 (by omega) (by omega)
 obtain⟨a1,b1⟩:=cP (n:=4) (Ie l hl 1 (by omega) (by omega)).2.1 (by omega)
 obtain⟨x1,h1⟩:∃x,(Lr l 1).tmod 4=x:=⟨_,rfl⟩
 rw[h1] at a1 b1;have k2:=Ps l hl 2 (by omega) (by omega)
 obtain⟨a2,b2⟩:=cP (n:=4) (Ie l hl 2 (by omega) (by omega)).2.1 (by omega)
 obtain⟨x2,h2⟩:∃x,(Lr l 2).tmod 4=x:=⟨_,rfl⟩
 rw[h2] at a2 b2;have k3:=Ps l hl 3 (by omega) (by omega)
 obtain⟨a3,b3⟩:=cP (n:=4) (Ie l hl 3 (by omega) (by omega)).2.1 (by omega)
 obtain⟨x3,h3⟩:∃x,(Lr l 3).tmod 4=x:=⟨_,rfl⟩
 rw[h3] at a3 b3;have k4:=Ps l hl 4 (by omega) (by omega)
 obtain⟨a4,b4⟩:=cP (n:=4) (Ie l hl 4 (by omega) (by omega)).2.1 (by omega)
 obtain⟨x4,h4⟩:∃x,(Lr l 4).tmod 4=x:=⟨_,rfl⟩
 rw[h4] at a4 b4;have k5:=Ps l hl 5 (by omega) (by omega)
 obtain⟨a5,b5⟩:=cP (n:=5) (Ie l hl 5 (by omega) (by omega)).2.1 (by omega)
 obtain⟨x5,h5⟩:∃x,(Lr l 5).tmod 5=x:=⟨_,rfl⟩
 rw[h5] at a5 b5;have k6:=Ps l hl 6 (by omega) (by omega)
 obtain⟨a6,b6⟩:=cP (n:=4) (Ie l hl 6 (by omega) (by omega)).2.1 (by omega)
 obtain⟨x6,h6⟩:∃x,(Lr l 6).tmod 4=x:=⟨_,rfl⟩
 rw[h6] at a6 b6;have k7:=Ps l hl 7 (by omega) (by omega)
 obtain⟨a7,b7⟩:=cP (n:=3) (Ie l hl 7 (by omega) (by omega)).2.1 (by omega)
 obtain⟨x7,h7⟩:∃x,(Lr l 7).tmod 3=x:=⟨_,rfl⟩
 rw[h7] at a7 b7;have k8:=Ps l hl 8 (by omega) (by omega)
 obtain⟨a8,b8⟩:=cP (n:=2) (Ie l hl 8 (by omega) (by omega)).2.1 (by omega)
 obtain⟨x8,h8⟩:∃x,(Lr l 8).tmod 2=x:=⟨_,rfl⟩
 rw[h8] at a8 b8;have k9:=Ps l hl 9 (by omega) (by omega)
 obtain⟨a9,b9⟩:=cP (n:=5) (Ie l hl 9 (by omega) (by omega)).2.1 (by omega)
 obtain⟨x9,h9⟩:∃x,(Lr l 9).tmod 5=x:=⟨_,rfl⟩
 rw[h9] at a9 b9;have w0:IntKind.i64.wrap (6+x0)=6+x0:=nU _ (by omega) (by omega)
 have w3:IntKind.i64.wrap (1+x3)=1+x3:=nU _ (by omega) (by omega)
 have w5:IntKind.i64.wrap (1+x5)=1+x5:=nU _ (by omega) (by omega)
 have w5':IntKind.u64.wrap (1+x5)=1+x5:=wrap_u64 _ (by omega) (by omega)
 have w6:IntKind.i64.wrap (1+x6)=1+x6:=nU _ (by omega) (by omega)
 have w6':IntKind.u64.wrap (1+x6)=1+x6:=wrap_u64 _ (by omega) (by omega)
 have w9:IntKind.i64.wrap (2+x9)=2+x9:=nU _ (by omega) (by omega)
 have g7:=nK (l:=[0,40,100]) a7 (by show x7<((3:Nat):Int);omega)
 obtain⟨bp,hbp⟩:∃y,it [0,40,100] x7=y:=⟨_,rfl⟩
 have hbp1:0≤bp∧bp≤100:=by
  rcases (by omega:x7=0∨x7=1∨x7=2) with e|e|e<;>(rw[e] at hbp;rw[← hbp];decide)
 have w7:IntKind.u64.wrap bp=bp:=wrap_u64 _ (by omega) (by omega)
 rw[cL Tryz.func101 rfl aFB rfl];simp only[Z8,seval,mG,mH,k0,k1,k2,k3,k4,k5,k6,k7,k8,h0,h1,h2,h3,h4,h5,h6,h7,h8,w0,w3,w5,w5',w6,w6',a7,b7,g7,hbp,w7,pI,Nat.reduceLT,Ss];have n9:(2+x9).toNat≤6:=by omega
 refine cI (fun m st=>∃(j:Nat) (lJ:lE) (sp bq:Int) (tt:qM) (X:AV) (b:List Int),(st.env 0=.sl l.length (aK l)∧st.env 2=.ptr 2 0 0∧st.heap 2 0=some (.cells (bW mS))∧st.env 3=.ptr 3 0 0∧st.heap 3 0=some (.cells (bW ⟨lJ,sp,bq,tt,mkRoot 1,X⟩))∧st.env 4=.v (.int .i64 j))∧(lJ=⟨6+x0,x1,x2,1+x3,x4,1+x5⟩∧sp=1+x6∧bq=bp)∧((X=.v (.slice none 0 0)∧b=[])∨∃g,X=.own 64 g∧g<st.aU 64∧st.heap 64 g=some (.row 23 1 b.length (bI b)))∧(∀y∈b,0≤y∧y≤1000)∧b.length=j∧j≤(2+x9).toNat∧m=(2+x9).toNat-j)
  (fun e st=>e=.exit 0∧∃(lJ:lE) (sp bq:Int) (tt:qM) (g:Nat) (b:List Int),(st.env 2=.ptr 2 0 0∧st.heap 2 0=some (.cells (bW mS))∧st.env 3=.ptr 3 0 0∧st.heap 3 0=some (.cells (bW ⟨lJ,sp,bq,tt,mkRoot 1,.own 64 g⟩))∧st.heap 64 g=some (.row 23 1 b.length (bI b)))∧(lJ=⟨6+x0,x1,x2,1+x3,x4,1+x5⟩∧sp=1+x6∧bq=bp)∧(∀y∈b,0≤y∧y≤1000)∧1≤b.length∧b.length≤6) (2+x9).toNat ?step ?start ?rest
 case step =>
  rintro m st ⟨j,lJ,sp,bq,tt,X,b,hI,hC,hX,hb,hj,hjn,hm⟩
  by_cases bA:(j:Int)<2+x9
  ·have q0:(0:Int)≤j:=by omega
   have hw:IntKind.i64.wrap ((j:Int)+1)=((j+1:Nat):Int):=by rw[nU _ (by omega) (by omega)];omega
   obtain⟨jj,hjj⟩:∃jj:Int,jj=10+(j:Int):=⟨_,rfl⟩
   have p9:IntKind.i64.wrap (10+(j:Int))=jj:=by rw[nU _ (by omega) (by omega),hjj]
   have kj:=Ps l hl jj (by omega) (by omega)
   obtain⟨aj,bj⟩:=cP (n:=40) (Ie l hl jj (by omega) (by omega)).2.1 (by omega)
   obtain⟨y,hy⟩:∃y,(Lr l jj).tmod 40=y:=⟨_,rfl⟩
   rw[hy] at aj bj;have wy:IntKind.u64.wrap y=y:=wrap_u64 _ (by omega) (by omega)
   have nL:(b.length:Int)<1000000:=by omega
   have Ws:∀z∈b++[y],0≤z∧z≤1000:=fun z hz=>(List.mem_append.1 hz).elim (hb z) fun e=>by rw[List.mem_singleton] at e;rw[e];omega
   have yS:(b++[y]).length=j+1:=by rw[List.length_append,List.length_cons,List.length_nil];omega
   rcases hX with ⟨rfl,rfl⟩|⟨g,rfl,hg,hh⟩
   ·apply oN ((2+x9).toNat-(j+1))
    ·simp only[Z8,seval,hI,k9,h9,w9,bA,p9,kj,hy,wy,hw];rfl
    ·exact⟨j+1,_,_,_,_,_,[]++[y],⟨by simp only[E8,seval,hI],by simp only[E8,seval,hI],by simp only[E8,seval,hI],by simp only[E8,seval,hI],by simp only[E8,seval,hI]<;>rfl,by simp only[E8,seval]⟩,hC,.inr ⟨_,rfl,by simp only[E8,seval]<;>omega,by simp only[E8,seval]<;>rfl⟩,Ws,yS,by omega,rfl⟩
   ·have vA:(g=st.aU 64)=False:=eq_false (by omega)
    apply oN ((2+x9).toNat-(j+1))
    ·simp only[Z8,seval,hI,hh,vA,k9,h9,w9,bA,p9,kj,hy,wy,hw,wQ _ _ _ _ nL];rfl
    ·exact⟨j+1,_,_,_,_,_,b++[y],⟨by simp only[E8,seval,hI],by simp only[E8,seval,hI],by simp only[E8,seval,hI],by simp only[E8,seval,hI],by simp only[E8,seval,hI]<;>rfl,by simp only[E8,seval]⟩,hC,.inr ⟨_,rfl,by simp only[E8,seval]<;>omega,by simp only[E8,seval]<;>rfl⟩,Ws,yS,by omega,rfl⟩
  ·rcases hX with ⟨rfl,rfl⟩|⟨g,rfl,hg,hh⟩
   ·simp at hj;omega
   ·apply oT (.exit 0)
    ·simp only[Z8,seval,hI,k9,h9,w9,bA];rfl
    ·exact⟨rfl,_,_,_,_,g,b,⟨by simp only[E8,seval,hI],by simp only[E8,seval,hI],by simp only[E8,seval,hI],by simp only[E8,seval,hI]<;>rfl,by simp only[E8,seval,hh]⟩,hC,hb,by omega,by omega⟩
 case start=>exact⟨0,_,_,_,_,_,[],by and_intros<;>(simp only[E8,seval]<;>rfl),⟨rfl,rfl,rfl⟩,.inl ⟨rfl,rfl⟩,by simp,rfl,by omega,by omega⟩
 case rest =>
  rintro e st ⟨rfl,lJ,sp,bq,tt,g,b,hI,⟨rfl,rfl,rfl⟩,hb,yS,Wo⟩
  simp only[Z8,seval,hI];exact⟨_,by apply eA;rfl;all_goals simp only[aH,Z8,seval,hI,bP,Nw,bO,uN,eC]<;>rfl,⟨⟨6+x0,x1,x2,1+x3,x4,1+x5⟩,1+x6,bq,tt,mkRoot 1,ov bI (some b)⟩,b,rfl,⟨rfl,by omega,hb,by dsimp only;omega,by dsimp only;omega,by dsimp only;omega,by dsimp only;omega,by dsimp only;omega,by dsimp only;omega,by dsimp only;omega,by dsimp only;omega,rfl,by dsimp only;omega⟩⟩
end Go.Ab.Tryz
