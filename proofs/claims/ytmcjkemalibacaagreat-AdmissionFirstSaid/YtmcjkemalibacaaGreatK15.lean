/-
  Part 15 of the proof: an evaluator of programs, its soundness, and what functions of this program compute.
-/
import Derived.Test.YtmcjkemalibacaaGreatK14
import Derived.Test.YtmcjkemalibacaaGreatK12
set_option linter.all false
set_option maxRecDepth 20000
set_option maxHeartbeats 40000000
namespace Go.Ab.Tryz
open Classical Go.Proofs Go.Ab
def firstLoop:Code→Code
 | .loop b=>.loop b
 | .seq a b=>match firstLoop a with
   | .skip=>firstLoop b
   | c=>c
 | .cond _ a b=>match firstLoop a with
   | .skip=>firstLoop b
   | c=>c
 | .block _ b=>firstLoop b
 | _=>.skip
noncomputable def loop203:Code:=firstLoop (Tryz.f203.body.getD .skip)
def BlkI (s:Store) (v:SV) (q:Int) (m:Nat) (st:St):Prop:=∃ (S0:Store) (w:SV) (X:AV) (R:List Root) (a g:Nat),((st).env 2=.ptr 2 0 0∧(st).heap 2 0=some (.cells (cStore (orS S0 X)))∧(st).env 4=.ptr 4 0 0∧(st).heap 4 0=some (.cells (cStore zStore))∧(st).env 9=.own a g∧(st).heap a g=some (.row 27 32 R.length (csRoot R))∧(st).env 10=.v (.int .i64 (waiV w)))∧((a=66∧g=0)∨(a=105∧g < st.cnt 105))∧(X=ov csBlock w.O∨∃ g' L,w.O=some L∧X=.own 91 g'∧g' < st.cnt 91∧st.heap 91 g'=some (.row 74 238 L.length (csBlock L)))∧GI S0 w q∧RG S0 w∧S0.cFg=s.cFg∧R.length+(ol w.O).length≤1+(ol v.O).length∧m=(ol w.O).length
def BlkO (s:Store) (v:SV) (q:Int) (e:Ex) (st:St):Prop:=e=.exit 0∧∃ (S0:Store) (w:SV) (X:AV) (R:List Root) (a g:Nat),(st.env 2=.ptr 2 0 0∧st.heap 2 0=some (.cells (cStore (orS S0 X)))∧st.env 4=.ptr 4 0 0∧st.heap 4 0=some (.cells (cStore zStore))∧st.env 9=.own a g∧st.heap a g=some (.row 27 32 R.length (csRoot R)))∧a≠4∧(X=ov csBlock w.O∨∃ g' L,w.O=some L∧X=.own 91 g'∧st.heap 91 g'=some (.row 74 238 L.length (csBlock L)))∧GI S0 w q∧RG S0 w∧S0.cFg=s.cFg∧R.length≤1+(ol v.O).length
theorem run203 {s:Store} {v:SV} {q:Int} (nb:((ol v.O).length:Int)≤64) {m:Nat} {st:St} (hs:BlkI s v q m st):∃ e st',evL Tryz.prog loop203 st=some (e,st')∧BlkO s v q e st':=by
 have key:∃ r,bnd (evL Tryz.prog loop203 st) some=some r∧BlkO s v q r.1 r.2:=by
  unfold loop203
  simp only[Tryz.f203,Option.getD_some,firstLoop]
  refine use_loopX (fun m st=>∃ (S0:Store) (w:SV) (X:AV) (R:List Root) (a g:Nat),((st).env 2=.ptr 2 0 0∧(st).heap 2 0=some (.cells (cStore (orS S0 X)))∧(st).env 4=.ptr 4 0 0∧(st).heap 4 0=some (.cells (cStore zStore))∧(st).env 9=.own a g∧(st).heap a g=some (.row 27 32 R.length (csRoot R))∧(st).env 10=.v (.int .i64 (waiV w)))∧((a=66∧g=0)∨(a=105∧g < st.cnt 105))∧(X=ov csBlock w.O∨∃ g' L,w.O=some L∧X=.own 91 g'∧g' < st.cnt 91∧st.heap 91 g'=some (.row 74 238 L.length (csBlock L)))∧GI S0 w q∧RG S0 w∧S0.cFg=s.cFg∧R.length+(ol w.O).length≤1+(ol v.O).length∧m=(ol w.O).length) (fun e st=>e=.exit 0∧∃ (S0:Store) (w:SV) (X:AV) (R:List Root) (a g:Nat),(st.env 2=.ptr 2 0 0∧st.heap 2 0=some (.cells (cStore (orS S0 X)))∧st.env 4=.ptr 4 0 0∧st.heap 4 0=some (.cells (cStore zStore))∧st.env 9=.own a g∧st.heap a g=some (.row 27 32 R.length (csRoot R)))∧a≠4∧(X=ov csBlock w.O∨∃ g' L,w.O=some L∧X=.own 91 g'∧st.heap 91 g'=some (.row 74 238 L.length (csBlock L)))∧GI S0 w q∧RG S0 w∧S0.cFg=s.cFg∧R.length≤1+(ol v.O).length) m ?step ?start ?rest
  case start=>exact hs
  case rest=>exact fun e st h=>⟨_,rfl,h⟩
  case step =>
   clear hs
   rintro m st ⟨S0,w,X,R,a,g,hI,hag,hX,hG,hRG,hC,hR,hm⟩
   have hlO:=hG.nO
   have hlB:=hG.nOB
   by_cases hlt:0≤waiV w
   case neg =>
    have hI':=hI
    have hX':X=ov csBlock w.O∨∃ g' L,w.O=some L∧X=.own 91 g'∧st.heap 91 g'=some (.row 74 238 L.length (csBlock L)):=hX.imp id fun ⟨g',L,h1,h2,_,h4⟩=>⟨g',L,h1,h2,h4⟩
    apply oT (.exit 0)
    ·simp only[Z8,seval,hI,hlt]
     rfl
    ·exact⟨rfl,S0,w,X,R,a,g,by simp only[E8,seval,hI],by omega,by simpa only[E8,seval] using hX',hG,hRG,hC,by omega⟩
   obtain⟨k,hk,hkp,hkw⟩:∃ k:Nat,k < (ol w.O).length∧0≤findR w.ns (gx zBlock (ol w.O) k).parent∧waiV w=k:=by
    rcases fst1_cases (fun k=>0≤findR w.ns (gx zBlock (ol w.O) k).parent) (ol w.O).length with ⟨e,_⟩ | ⟨k,h1,h2,_,h3⟩
    ·have:waiV w=-1:=e;omega
    ·exact⟨k,h1,h2,h3⟩
   rw[hkw] at hI hlt
   have q0:(0:Int)≤k:=by omega
   have q1:(k:Int) < ((ol w.O).length:Int):=by omega
   have q2:(k:Int)≤((ol w.O).length:Int):=by omega
   have q3:(0:Int)≤((k+1:Nat):Int):=by omega
   have q4:((k+1:Nat):Int)≤((ol w.O).length:Int):=by omega
   have hw:IntKind.i64.wrap ((k:Int)+1)=((k+1:Nat):Int):=by rw[w64 _ (by omega) (by omega)];omega
   obtain⟨bb,hbb⟩:∃ bb,gx zBlock (ol w.O) (k:Int)=bb:=⟨_,rfl⟩
   have n1:((((ol w.O).take k).length:Nat):Int) < 1000000:=by rw[List.length_take];omega
   have n2:((((ol w.O).drop (k+1)).length:Nat):Int) < 1000000:=by rw[List.length_drop];omega
   obtain⟨LL,hLL⟩:∃ LL,(ol w.O).take k ++ (ol w.O).drop (k+1)=LL:=⟨_,rfl⟩
   have nl:LL.length+1=(ol w.O).length:=by rw[← hLL,List.length_append,List.length_take,List.length_drop];omega
   have hmem:∀ b∈LL,b∈ol w.O:=fun b hb=>by rw[← hLL] at hb;exact (List.mem_append.1 hb).elim List.mem_of_mem_take List.mem_of_mem_drop
   have nR:(R.length:Int) < 1000000:=by omega
   have hbm:bb∈ol w.O:=by rw[← hbb];exact gx_mem q0 q1
   have e1:ol (w.O.map (·.take k))=(ol w.O).take k:=by cases w.O<;>simp[ol]
   have e2:ol (w.O.map (·.drop (k+1)))=(ol w.O).drop (k+1):=by cases w.O<;>simp[ol]
   by_cases hz:LL=[]
   ·skip
    have hT:((ol w.O).take k).length=0:=by have:=congrArg List.length hLL;rw[hz,List.length_append] at this;simp only[List.length_nil] at this;omega
    have hD:((ol w.O).drop (k+1)).length=0:=by have:=congrArg List.length hLL;rw[hz,List.length_append] at this;simp only[List.length_nil] at this;omega
    have hl1:(ol w.O).length=1:=by rw[hz] at nl;simpa using nl.symm
    have hG':=hG.orph none (by show ((0:Nat):Int)≤_;omega)
    have hRG':RG (orS S0 (ov csBlock none)) { w with O:=none }:=hRG.orph none (ov csBlock none) (fun b hb=>by cases hb) nofun
    have k52z:∀ (st:St) (d:Option Nat),callFn (callL Tryz.prog) 52 [.agg (cStore (orS S0 (.v (.slice none 0 0)))),.agg (cBlock bb)] st d=_:=k52 hG'.sd hG'.up hG'.sp bb
    have k218z:∀ (st:St) (d:Option Nat),callFn (callL Tryz.prog) 218 [.agg (cStore (orS S0 (.v (.slice none 0 0))))] st d=_:=k218 hG'.sd
    have hO2:(ol (insW (orS S0 (ov csBlock none)) { w with O:=none } bb).O).length≤0:=insW_O _ _ _
    obtain⟨c,hc⟩:∃ c,cbV (orS S0 (ov csBlock none)) { w with O:=none } bb=c:=⟨_,rfl⟩
    rw[hc] at k52z
    by_cases hc0:c=0
    ·rw[hc0] at hc
     have hG2:=hG'.ins hc
     have hRG2:=hRG'.ins (hRG.or bb hbm) hc
     have hC2:=(insS_config (orS S0 (ov csBlock none)) { w with O:=none } bb).1
     have e217z:∀ (st:St) (d:Option Nat),callEat (callL Tryz.prog) 217 [.agg (cStore (orS S0 (.v (.slice none 0 0)))),.agg (cBlock bb)] st d=_:=e217 hG' hc
     have k218':=k218 hG2.sd
     obtain⟨S2,hS2⟩:∃ S2,insS (orS S0 (ov csBlock none)) { w with O:=none } bb=S2:=⟨_,rfl⟩
     rw[hS2] at e217z hG2 hRG2 k218' hC2
     have hid:=orS_id hG2.sd
     simp only[orS] at k52z k218z e217z hI
     rcases hX with rfl | ⟨g',L,hL,rfl,hg1,hg2⟩
     ·rcases hag with ⟨rfl,rfl⟩ | ⟨rfl,hg⟩
      ·refine go_on (st':=?_) ?_ ((ol (insW (orS S0 (ov csBlock none)) { w with O:=none } bb).O).length) (by omega) ?_
       rotate_left
       ·simp only[Z8,seval,hI,hlt,q0,q1,q2,q3,q4,hw,hbb,Int.toNat_natCast,ev_app0,ev_app1,sl45,Option.isSome_some,Option.map_some,Option.some.injEq,hT,hD,k52z,k218z,e1,e2,bt hc0,e217z,k218',aooRoot1 _ _ _ _ nR]
        rfl
       ·refine⟨S2,insW (orS S0 (ov csBlock none)) { w with O:=none } bb,_,R ++ [bb.root],105,st.cnt 105, ?_,.inr ⟨rfl,by simp only[E8,seval]<;>omega⟩,.inl rfl,hG2,hRG2,hC2.trans hC, ?_,rfl⟩
        ·rw[hid];simp only[E8,seval,hI]<;>rfl
        ·rw[List.length_append,List.length_cons,List.length_nil];omega
      ·have hgn:(g=st.cnt 105)=False:=eq_false (by omega)
       refine go_on (st':=?_) ?_ ((ol (insW (orS S0 (ov csBlock none)) { w with O:=none } bb).O).length) (by omega) ?_
       rotate_left
       ·simp only[Z8,seval,hI,hlt,q0,q1,q2,q3,q4,hw,hbb,Int.toNat_natCast,ev_app0,ev_app1,sl45,Option.isSome_some,Option.map_some,Option.some.injEq,hT,hD,k52z,k218z,e1,e2,hgn,bt hc0,e217z,k218',aooRoot1 _ _ _ _ nR]
        rfl
       ·refine⟨S2,insW (orS S0 (ov csBlock none)) { w with O:=none } bb,_,R ++ [bb.root],105,st.cnt 105, ?_,.inr ⟨rfl,by simp only[E8,seval]<;>omega⟩,.inl rfl,hG2,hRG2,hC2.trans hC, ?_,rfl⟩
        ·rw[hid];simp only[E8,seval,hI]<;>rfl
        ·rw[List.length_append,List.length_cons,List.length_nil];omega
     ·have eL:ol w.O=L:=by rw[hL];rfl
      have hg3:(g'=st.cnt 91)=False:=eq_false (by omega)
      obtain⟨X1,hX1,hX1'⟩:=own_to (L:=L) (k:=k) (by rw[← eL];omega) 91 g'
      obtain⟨X2,hX2,hX2'⟩:=own_from (L:=L) (k:=k+1) (by rw[← eL];omega) 91 g'
      have q1':(k:Int) < (L.length:Int):=by rw[← eL];omega
      have ldb:=ldaBlock (T:=74) (n:=L.length) (k:=238) q0 q1' lk74 (by decide) (by decide)
      simp only[Int.toNat_natCast] at ldb
      subst eL
      rcases hag with ⟨rfl,rfl⟩ | ⟨rfl,hg⟩
      ·refine go_on (st':=?_) ?_ ((ol (insW (orS S0 (ov csBlock none)) { w with O:=none } bb).O).length) (by omega) ?_
       rotate_left
       ·simp only[Z8,seval,hI,hlt,q0,q1,q2,q3,q4,hw,hbb,Int.toNat_natCast,ev_app0,ev_app1,sl45,Option.isSome_some,Option.map_some,Option.some.injEq,hT,hD,k52z,k218z,hg2,hg3,hX1 _ _,hX1',hX2 _ _,hX2',q1',ldb,bt hc0,e217z,k218',aooRoot1 _ _ _ _ nR]
        rfl
       ·refine⟨S2,insW (orS S0 (ov csBlock none)) { w with O:=none } bb,_,R ++ [bb.root],105,st.cnt 105, ?_,.inr ⟨rfl,by simp only[E8,seval]<;>omega⟩,.inl rfl,hG2,hRG2,hC2.trans hC, ?_,rfl⟩
        ·rw[hid];simp only[E8,seval,hI]<;>rfl
        ·rw[List.length_append,List.length_cons,List.length_nil];omega
      ·have hgn:(g=st.cnt 105)=False:=eq_false (by omega)
       refine go_on (st':=?_) ?_ ((ol (insW (orS S0 (ov csBlock none)) { w with O:=none } bb).O).length) (by omega) ?_
       rotate_left
       ·simp only[Z8,seval,hI,hlt,q0,q1,q2,q3,q4,hw,hbb,Int.toNat_natCast,ev_app0,ev_app1,sl45,Option.isSome_some,Option.map_some,Option.some.injEq,hT,hD,k52z,k218z,hg2,hg3,hX1 _ _,hX1',hX2 _ _,hX2',q1',ldb,hgn,bt hc0,e217z,k218',aooRoot1 _ _ _ _ nR]
        rfl
       ·refine⟨S2,insW (orS S0 (ov csBlock none)) { w with O:=none } bb,_,R ++ [bb.root],105,st.cnt 105, ?_,.inr ⟨rfl,by simp only[E8,seval]<;>omega⟩,.inl rfl,hG2,hRG2,hC2.trans hC, ?_,rfl⟩
        ·rw[hid];simp only[E8,seval,hI]<;>rfl
        ·rw[List.length_append,List.length_cons,List.length_nil];omega
    ·simp only[orS] at k52z k218z hI
     rcases hX with rfl | ⟨g',L,hL,rfl,hg1,hg2⟩
     ·rcases hag with ⟨rfl,rfl⟩ | ⟨rfl,hg⟩
      ·refine go_on (st':=?_) ?_ 0 (by omega) ?_
       rotate_left
       ·simp only[Z8,seval,hI,hlt,q0,q1,q2,q3,q4,hw,hbb,Int.toNat_natCast,ev_app0,ev_app1,sl45,Option.isSome_some,Option.map_some,Option.some.injEq,hT,hD,k52z,k218z,e1,e2,bf hc0]
        rfl
       ·refine⟨(orS S0 (ov csBlock none)),{ w with O:=none },ov csBlock none,R,_,_, ?_,.inl ⟨rfl,rfl⟩,.inl rfl,hG',hRG',hC,by show R.length+0≤_;omega,rfl⟩
        simp only[E8,seval,hI]<;>rfl
      ·have hgn:(g=st.cnt 105)=False:=eq_false (by omega)
       refine go_on (st':=?_) ?_ 0 (by omega) ?_
       rotate_left
       ·simp only[Z8,seval,hI,hlt,q0,q1,q2,q3,q4,hw,hbb,Int.toNat_natCast,ev_app0,ev_app1,sl45,Option.isSome_some,Option.map_some,Option.some.injEq,hT,hD,k52z,k218z,e1,e2,hgn,bf hc0]
        rfl
       ·refine⟨(orS S0 (ov csBlock none)),{ w with O:=none },ov csBlock none,R,_,_, ?_,.inr ⟨rfl,by simp only[E8,seval]<;>omega⟩,.inl rfl,hG',hRG',hC,by show R.length+0≤_;omega,rfl⟩
        simp only[E8,seval,hI]<;>rfl
     ·have eL:ol w.O=L:=by rw[hL];rfl
      have hg3:(g'=st.cnt 91)=False:=eq_false (by omega)
      obtain⟨X1,hX1,hX1'⟩:=own_to (L:=L) (k:=k) (by rw[← eL];omega) 91 g'
      obtain⟨X2,hX2,hX2'⟩:=own_from (L:=L) (k:=k+1) (by rw[← eL];omega) 91 g'
      have q1':(k:Int) < (L.length:Int):=by rw[← eL];omega
      have ldb:=ldaBlock (T:=74) (n:=L.length) (k:=238) q0 q1' lk74 (by decide) (by decide)
      simp only[Int.toNat_natCast] at ldb
      subst eL
      rcases hag with ⟨rfl,rfl⟩ | ⟨rfl,hg⟩
      ·refine go_on (st':=?_) ?_ 0 (by omega) ?_
       rotate_left
       ·simp only[Z8,seval,hI,hlt,q0,q1,q2,q3,q4,hw,hbb,Int.toNat_natCast,ev_app0,ev_app1,sl45,Option.isSome_some,Option.map_some,Option.some.injEq,hT,hD,k52z,k218z,hg2,hg3,hX1 _ _,hX1',hX2 _ _,hX2',q1',ldb,bf hc0]
        rfl
       ·refine⟨(orS S0 (ov csBlock none)),{ w with O:=none },ov csBlock none,R,_,_, ?_,.inl ⟨rfl,rfl⟩,.inl rfl,hG',hRG',hC,by show R.length+0≤_;omega,rfl⟩
        simp only[E8,seval,hI]<;>rfl
      ·have hgn:(g=st.cnt 105)=False:=eq_false (by omega)
       refine go_on (st':=?_) ?_ 0 (by omega) ?_
       rotate_left
       ·simp only[Z8,seval,hI,hlt,q0,q1,q2,q3,q4,hw,hbb,Int.toNat_natCast,ev_app0,ev_app1,sl45,Option.isSome_some,Option.map_some,Option.some.injEq,hT,hD,k52z,k218z,hg2,hg3,hX1 _ _,hX1',hX2 _ _,hX2',q1',ldb,hgn,bf hc0]
        rfl
       ·refine⟨(orS S0 (ov csBlock none)),{ w with O:=none },ov csBlock none,R,_,_, ?_,.inr ⟨rfl,by simp only[E8,seval]<;>omega⟩,.inl rfl,hG',hRG',hC,by show R.length+0≤_;omega,rfl⟩
        simp only[E8,seval,hI]<;>rfl
   have hLn:(LL.length=0)=False:=eq_false fun h=>hz (List.length_eq_zero_iff.1 h)
   have hG':=hG.orph (some LL) (by show ((LL.length:Nat):Int)≤_;omega)
   have k52o':=k52o hG.sd hG' bb 91
   have k218o':=k218o hG.sd hG' 91
   have hO2:(ol (insW (orS S0 (ov csBlock (some LL))) { w with O:=some LL } bb).O).length≤LL.length:=insW_O _ _ _
   obtain⟨c,hc⟩:∃ c,cbV (orS S0 (ov csBlock (some LL))) { w with O:=some LL } bb=c:=⟨_,rfl⟩
   rw[hc] at k52o'
   have hRG':=hRG.orph (some LL) (ov csBlock (some LL)) (fun b hb=>hRG.or b (hmem b hb)) (fun e=>hz (by injection e))
   have eO:∀ x,orS (orS S0 (ov csBlock (some LL))) x=orS S0 x:=fun x=>rfl
   by_cases hk0:k=0
   ·have hT:((ol w.O).take k).length=0:=by rw[hk0];rfl
    have hD:(ol w.O).drop (k+1)=LL:=by rw[← hLL,hk0];rfl
    have n3:((LL.length:Nat):Int) < 1000000:=by omega
    by_cases hc0:c=0
    · -- taken in
     rw[hc0] at hc
     have hG2:=hG'.ins hc
     have hRG2:=hRG'.ins (hRG.or bb hbm) hc
     have hC2:=(insS_config (orS S0 (ov csBlock (some LL))) { w with O:=some LL } bb).1
     have e217o':=e217o hG.sd hG' hc 91
     have k218':=k218 hG2.sd
     obtain⟨S2,hS2⟩:∃ S2,insS (orS S0 (ov csBlock (some LL))) { w with O:=some LL } bb=S2:=⟨_,rfl⟩
     rw[hS2] at e217o' hG2 hRG2 k218' hC2
     have hid:=orS_id hG2.sd
     have hmA:(ol (insW (orS S0 (ov csBlock (some LL))) { w with O:=some LL } bb).O).length < m:=by omega
     have hmB:(R ++ [bb.root]).length+(ol (insW (orS S0 (ov csBlock (some LL))) { w with O:=some LL } bb).O).length≤1+(ol v.O).length:=by rw[List.length_append,List.length_cons,List.length_nil];omega
     simp only[orS] at k52o' k218o' e217o' hI
     rcases hX with rfl | ⟨g',L,hL,rfl,hg1,hg2⟩
     · -- a list
      rcases hag with ⟨rfl,rfl⟩ | ⟨rfl,hg⟩
      · -- 66
       refine go_on (st':=?_) ?_ ((ol (insW (orS S0 (ov csBlock (some LL))) { w with O:=some LL } bb).O).length) hmA ?_
       rotate_left
       ·simp only[Z8,seval,hI,hlt,q0,q1,q2,q3,q4,hw,hbb,Int.toNat_natCast,anoBlocks _ n3,ev_app0,ev_app1,sl45,Option.isSome_some,Option.map_some,Option.some.injEq,hT,hLn,hD,k52o',k218o',e1,e2,bt hc0,e217o',k218',aooRoot1 _ _ _ _ nR]
        rfl
       ·refine⟨S2,insW (orS S0 (ov csBlock (some LL))) { w with O:=some LL } bb,_,R ++ [bb.root],105,st.cnt 105, ?_,.inr ⟨rfl,by simp only[E8,seval]<;>omega⟩,.inl rfl,hG2,hRG2,hC2.trans hC, ?_,rfl⟩
        ·rw[hid];simp only[E8,seval,hI]<;>rfl
        ·exact hmB
      · -- 105
       have hgn:(g=st.cnt 105)=False:=eq_false (by omega)
       refine go_on (st':=?_) ?_ ((ol (insW (orS S0 (ov csBlock (some LL))) { w with O:=some LL } bb).O).length) hmA ?_
       rotate_left
       ·simp only[Z8,seval,hI,hlt,q0,q1,q2,q3,q4,hw,hbb,Int.toNat_natCast,anoBlocks _ n3,ev_app0,ev_app1,sl45,Option.isSome_some,Option.map_some,Option.some.injEq,hT,hLn,hD,k52o',k218o',e1,e2,hgn,bt hc0,e217o',k218',aooRoot1 _ _ _ _ nR]
        rfl
       ·refine⟨S2,insW (orS S0 (ov csBlock (some LL))) { w with O:=some LL } bb,_,R ++ [bb.root],105,st.cnt 105, ?_,.inr ⟨rfl,by simp only[E8,seval]<;>omega⟩,.inl rfl,hG2,hRG2,hC2.trans hC, ?_,rfl⟩
        ·rw[hid];simp only[E8,seval,hI]<;>rfl
        ·exact hmB
     · -- a row of its own
      have eL:ol w.O=L:=by rw[hL];rfl
      have hg3:(g'=st.cnt 91)=False:=eq_false (by omega)
      obtain⟨X1,hX1,hX1'⟩:=own_to (L:=L) (k:=k) (by rw[← eL];omega) 91 g'
      obtain⟨X2,hX2,hX2'⟩:=own_from (L:=L) (k:=k+1) (by rw[← eL];omega) 91 g'
      have q1':(k:Int) < (L.length:Int):=by rw[← eL];omega
      have ldb:=ldaBlock (T:=74) (n:=L.length) (k:=238) q0 q1' lk74 (by decide) (by decide)
      simp only[Int.toNat_natCast] at ldb
      subst eL
      rcases hag with ⟨rfl,rfl⟩ | ⟨rfl,hg⟩
      · -- 66
       refine go_on (st':=?_) ?_ ((ol (insW (orS S0 (ov csBlock (some LL))) { w with O:=some LL } bb).O).length) hmA ?_
       rotate_left
       ·simp only[Z8,seval,hI,hlt,q0,q1,q2,q3,q4,hw,hbb,Int.toNat_natCast,anoBlocks _ n3,ev_app0,ev_app1,sl45,Option.isSome_some,Option.map_some,Option.some.injEq,hT,hLn,hD,k52o',k218o',hg2,hg3,hX1 _ _,hX1',hX2 _ _,hX2',q1',ldb,bt hc0,e217o',k218',aooRoot1 _ _ _ _ nR]
        rfl
       ·refine⟨S2,insW (orS S0 (ov csBlock (some LL))) { w with O:=some LL } bb,_,R ++ [bb.root],105,st.cnt 105, ?_,.inr ⟨rfl,by simp only[E8,seval]<;>omega⟩,.inl rfl,hG2,hRG2,hC2.trans hC, ?_,rfl⟩
        ·rw[hid];simp only[E8,seval,hI]<;>rfl
        ·exact hmB
      · -- 105
       have hgn:(g=st.cnt 105)=False:=eq_false (by omega)
       refine go_on (st':=?_) ?_ ((ol (insW (orS S0 (ov csBlock (some LL))) { w with O:=some LL } bb).O).length) hmA ?_
       rotate_left
       ·simp only[Z8,seval,hI,hlt,q0,q1,q2,q3,q4,hw,hbb,Int.toNat_natCast,anoBlocks _ n3,ev_app0,ev_app1,sl45,Option.isSome_some,Option.map_some,Option.some.injEq,hT,hLn,hD,k52o',k218o',hg2,hg3,hX1 _ _,hX1',hX2 _ _,hX2',q1',ldb,hgn,bt hc0,e217o',k218',aooRoot1 _ _ _ _ nR]
        rfl
       ·refine⟨S2,insW (orS S0 (ov csBlock (some LL))) { w with O:=some LL } bb,_,R ++ [bb.root],105,st.cnt 105, ?_,.inr ⟨rfl,by simp only[E8,seval]<;>omega⟩,.inl rfl,hG2,hRG2,hC2.trans hC, ?_,rfl⟩
        ·rw[hid];simp only[E8,seval,hI]<;>rfl
        ·exact hmB
    · -- left out
     have hmA:LL.length < m:=by omega
     have hmB:R.length+LL.length≤1+(ol v.O).length:=by omega
     simp only[orS] at k52o' k218o' hI
     rcases hX with rfl | ⟨g',L,hL,rfl,hg1,hg2⟩
     · -- a list
      rcases hag with ⟨rfl,rfl⟩ | ⟨rfl,hg⟩
      · -- 66
       refine go_on (st':=?_) ?_ (LL.length) hmA ?_
       rotate_left
       ·simp only[Z8,seval,hI,hlt,q0,q1,q2,q3,q4,hw,hbb,Int.toNat_natCast,anoBlocks _ n3,ev_app0,ev_app1,sl45,Option.isSome_some,Option.map_some,Option.some.injEq,hT,hLn,hD,k52o',k218o',e1,e2,bf hc0]
        rfl
       ·refine⟨(orS S0 (ov csBlock (some LL))),{ w with O:=some LL },_,R,_,_, ?_,.inl ⟨rfl,rfl⟩,.inr ⟨st.cnt 91,_,rfl,rfl,by simp only[E8,seval]<;>omega,by simp only[E8,seval]<;>rfl⟩,hG',hRG',hC,hmB,rfl⟩
        simp only[E8,seval,hI]<;>rfl
      · -- 105
       have hgn:(g=st.cnt 105)=False:=eq_false (by omega)
       refine go_on (st':=?_) ?_ (LL.length) hmA ?_
       rotate_left
       ·simp only[Z8,seval,hI,hlt,q0,q1,q2,q3,q4,hw,hbb,Int.toNat_natCast,anoBlocks _ n3,ev_app0,ev_app1,sl45,Option.isSome_some,Option.map_some,Option.some.injEq,hT,hLn,hD,k52o',k218o',e1,e2,hgn,bf hc0]
        rfl
       ·refine⟨(orS S0 (ov csBlock (some LL))),{ w with O:=some LL },_,R,_,_, ?_,.inr ⟨rfl,by simp only[E8,seval]<;>omega⟩,.inr ⟨st.cnt 91,_,rfl,rfl,by simp only[E8,seval]<;>omega,by simp only[E8,seval]<;>rfl⟩,hG',hRG',hC,hmB,rfl⟩
        simp only[E8,seval,hI]<;>rfl
     · -- a row of its own
      have eL:ol w.O=L:=by rw[hL];rfl
      have hg3:(g'=st.cnt 91)=False:=eq_false (by omega)
      obtain⟨X1,hX1,hX1'⟩:=own_to (L:=L) (k:=k) (by rw[← eL];omega) 91 g'
      obtain⟨X2,hX2,hX2'⟩:=own_from (L:=L) (k:=k+1) (by rw[← eL];omega) 91 g'
      have q1':(k:Int) < (L.length:Int):=by rw[← eL];omega
      have ldb:=ldaBlock (T:=74) (n:=L.length) (k:=238) q0 q1' lk74 (by decide) (by decide)
      simp only[Int.toNat_natCast] at ldb
      subst eL
      rcases hag with ⟨rfl,rfl⟩ | ⟨rfl,hg⟩
      · -- 66
       refine go_on (st':=?_) ?_ (LL.length) hmA ?_
       rotate_left
       ·simp only[Z8,seval,hI,hlt,q0,q1,q2,q3,q4,hw,hbb,Int.toNat_natCast,anoBlocks _ n3,ev_app0,ev_app1,sl45,Option.isSome_some,Option.map_some,Option.some.injEq,hT,hLn,hD,k52o',k218o',hg2,hg3,hX1 _ _,hX1',hX2 _ _,hX2',q1',ldb,bf hc0]
        rfl
       ·refine⟨(orS S0 (ov csBlock (some LL))),{ w with O:=some LL },_,R,_,_, ?_,.inl ⟨rfl,rfl⟩,.inr ⟨st.cnt 91,_,rfl,rfl,by simp only[E8,seval]<;>omega,by simp only[E8,seval]<;>rfl⟩,hG',hRG',hC,hmB,rfl⟩
        simp only[E8,seval,hI]<;>rfl
      · -- 105
       have hgn:(g=st.cnt 105)=False:=eq_false (by omega)
       refine go_on (st':=?_) ?_ (LL.length) hmA ?_
       rotate_left
       ·simp only[Z8,seval,hI,hlt,q0,q1,q2,q3,q4,hw,hbb,Int.toNat_natCast,anoBlocks _ n3,ev_app0,ev_app1,sl45,Option.isSome_some,Option.map_some,Option.some.injEq,hT,hLn,hD,k52o',k218o',hg2,hg3,hX1 _ _,hX1',hX2 _ _,hX2',q1',ldb,hgn,bf hc0]
        rfl
       ·refine⟨(orS S0 (ov csBlock (some LL))),{ w with O:=some LL },_,R,_,_, ?_,.inr ⟨rfl,by simp only[E8,seval]<;>omega⟩,.inr ⟨st.cnt 91,_,rfl,rfl,by simp only[E8,seval]<;>omega,by simp only[E8,seval]<;>rfl⟩,hG',hRG',hC,hmB,rfl⟩
        simp only[E8,seval,hI]<;>rfl
   have hT:(((ol w.O).take k).length=0)=False:=eq_false (by rw[List.length_take];omega)
   by_cases hc0:c=0
   · -- taken in
    rw[hc0] at hc
    have hG2:=hG'.ins hc
    have hRG2:=hRG'.ins (hRG.or bb hbm) hc
    have hC2:=(insS_config (orS S0 (ov csBlock (some LL))) { w with O:=some LL } bb).1
    have e217o':=e217o hG.sd hG' hc 91
    have k218':=k218 hG2.sd
    obtain⟨S2,hS2⟩:∃ S2,insS (orS S0 (ov csBlock (some LL))) { w with O:=some LL } bb=S2:=⟨_,rfl⟩
    rw[hS2] at e217o' hG2 hRG2 k218' hC2
    have hid:=orS_id hG2.sd
    have hmA:(ol (insW (orS S0 (ov csBlock (some LL))) { w with O:=some LL } bb).O).length < m:=by omega
    have hmB:(R ++ [bb.root]).length+(ol (insW (orS S0 (ov csBlock (some LL))) { w with O:=some LL } bb).O).length≤1+(ol v.O).length:=by rw[List.length_append,List.length_cons,List.length_nil];omega
    simp only[orS] at k52o' k218o' e217o' hI
    rcases hX with rfl | ⟨g',L,hL,rfl,hg1,hg2⟩
    · -- a list
     rcases hag with ⟨rfl,rfl⟩ | ⟨rfl,hg⟩
     · -- 66
      refine go_on (st':=?_) ?_ ((ol (insW (orS S0 (ov csBlock (some LL))) { w with O:=some LL } bb).O).length) hmA ?_
      rotate_left
      ·simp only[Z8,seval,hI,hlt,q0,q1,q2,q3,q4,hw,hbb,Int.toNat_natCast,anoBlocks _ n1,aooBlocks _ _ _ _ n1 n2,ev_app0,ev_app1,sl45,Option.isSome_some,Option.map_some,Option.some.injEq,hT,hLn,hLL,k52o',k218o',e1,e2,bt hc0,e217o',k218',aooRoot1 _ _ _ _ nR]
       rfl
      ·refine⟨S2,insW (orS S0 (ov csBlock (some LL))) { w with O:=some LL } bb,_,R ++ [bb.root],105,st.cnt 105, ?_,.inr ⟨rfl,by simp only[E8,seval]<;>omega⟩,.inl rfl,hG2,hRG2,hC2.trans hC, ?_,rfl⟩
       ·rw[hid];simp only[E8,seval,hI]<;>rfl
       ·exact hmB
     · -- 105
      have hgn:(g=st.cnt 105)=False:=eq_false (by omega)
      refine go_on (st':=?_) ?_ ((ol (insW (orS S0 (ov csBlock (some LL))) { w with O:=some LL } bb).O).length) hmA ?_
      rotate_left
      ·simp only[Z8,seval,hI,hlt,q0,q1,q2,q3,q4,hw,hbb,Int.toNat_natCast,anoBlocks _ n1,aooBlocks _ _ _ _ n1 n2,ev_app0,ev_app1,sl45,Option.isSome_some,Option.map_some,Option.some.injEq,hT,hLn,hLL,k52o',k218o',e1,e2,hgn,bt hc0,e217o',k218',aooRoot1 _ _ _ _ nR]
       rfl
      ·refine⟨S2,insW (orS S0 (ov csBlock (some LL))) { w with O:=some LL } bb,_,R ++ [bb.root],105,st.cnt 105, ?_,.inr ⟨rfl,by simp only[E8,seval]<;>omega⟩,.inl rfl,hG2,hRG2,hC2.trans hC, ?_,rfl⟩
       ·rw[hid];simp only[E8,seval,hI]<;>rfl
       ·exact hmB
    · -- a row of its own
     have eL:ol w.O=L:=by rw[hL];rfl
     have hg3:(g'=st.cnt 91)=False:=eq_false (by omega)
     obtain⟨X1,hX1,hX1'⟩:=own_to (L:=L) (k:=k) (by rw[← eL];omega) 91 g'
     obtain⟨X2,hX2,hX2'⟩:=own_from (L:=L) (k:=k+1) (by rw[← eL];omega) 91 g'
     have q1':(k:Int) < (L.length:Int):=by rw[← eL];omega
     have ldb:=ldaBlock (T:=74) (n:=L.length) (k:=238) q0 q1' lk74 (by decide) (by decide)
     simp only[Int.toNat_natCast] at ldb
     subst eL
     rcases hag with ⟨rfl,rfl⟩ | ⟨rfl,hg⟩
     · -- 66
      refine go_on (st':=?_) ?_ ((ol (insW (orS S0 (ov csBlock (some LL))) { w with O:=some LL } bb).O).length) hmA ?_
      rotate_left
      ·simp only[Z8,seval,hI,hlt,q0,q1,q2,q3,q4,hw,hbb,Int.toNat_natCast,anoBlocks _ n1,aooBlocks _ _ _ _ n1 n2,ev_app0,ev_app1,sl45,Option.isSome_some,Option.map_some,Option.some.injEq,hT,hLn,hLL,k52o',k218o',hg2,hg3,hX1 _ _,hX1',hX2 _ _,hX2',q1',ldb,bt hc0,e217o',k218',aooRoot1 _ _ _ _ nR]
       rfl
      ·refine⟨S2,insW (orS S0 (ov csBlock (some LL))) { w with O:=some LL } bb,_,R ++ [bb.root],105,st.cnt 105, ?_,.inr ⟨rfl,by simp only[E8,seval]<;>omega⟩,.inl rfl,hG2,hRG2,hC2.trans hC, ?_,rfl⟩
       ·rw[hid];simp only[E8,seval,hI]<;>rfl
       ·exact hmB
     · -- 105
      have hgn:(g=st.cnt 105)=False:=eq_false (by omega)
      refine go_on (st':=?_) ?_ ((ol (insW (orS S0 (ov csBlock (some LL))) { w with O:=some LL } bb).O).length) hmA ?_
      rotate_left
      ·simp only[Z8,seval,hI,hlt,q0,q1,q2,q3,q4,hw,hbb,Int.toNat_natCast,anoBlocks _ n1,aooBlocks _ _ _ _ n1 n2,ev_app0,ev_app1,sl45,Option.isSome_some,Option.map_some,Option.some.injEq,hT,hLn,hLL,k52o',k218o',hg2,hg3,hX1 _ _,hX1',hX2 _ _,hX2',q1',ldb,hgn,bt hc0,e217o',k218',aooRoot1 _ _ _ _ nR]
       rfl
      ·refine⟨S2,insW (orS S0 (ov csBlock (some LL))) { w with O:=some LL } bb,_,R ++ [bb.root],105,st.cnt 105, ?_,.inr ⟨rfl,by simp only[E8,seval]<;>omega⟩,.inl rfl,hG2,hRG2,hC2.trans hC, ?_,rfl⟩
       ·rw[hid];simp only[E8,seval,hI]<;>rfl
       ·exact hmB
   · -- left out
    have hmA:LL.length < m:=by omega
    have hmB:R.length+LL.length≤1+(ol v.O).length:=by omega
    simp only[orS] at k52o' k218o' hI
    rcases hX with rfl | ⟨g',L,hL,rfl,hg1,hg2⟩
    · -- a list
     rcases hag with ⟨rfl,rfl⟩ | ⟨rfl,hg⟩
     · -- 66
      refine go_on (st':=?_) ?_ (LL.length) hmA ?_
      rotate_left
      ·simp only[Z8,seval,hI,hlt,q0,q1,q2,q3,q4,hw,hbb,Int.toNat_natCast,anoBlocks _ n1,aooBlocks _ _ _ _ n1 n2,ev_app0,ev_app1,sl45,Option.isSome_some,Option.map_some,Option.some.injEq,hT,hLn,hLL,k52o',k218o',e1,e2,bf hc0]
       rfl
      ·refine⟨(orS S0 (ov csBlock (some LL))),{ w with O:=some LL },_,R,_,_, ?_,.inl ⟨rfl,rfl⟩,.inr ⟨st.cnt 91,_,rfl,rfl,by simp only[E8,seval]<;>omega,by simp only[E8,seval]<;>rfl⟩,hG',hRG',hC,hmB,rfl⟩
       simp only[E8,seval,hI]<;>rfl
     · -- 105
      have hgn:(g=st.cnt 105)=False:=eq_false (by omega)
      refine go_on (st':=?_) ?_ (LL.length) hmA ?_
      rotate_left
      ·simp only[Z8,seval,hI,hlt,q0,q1,q2,q3,q4,hw,hbb,Int.toNat_natCast,anoBlocks _ n1,aooBlocks _ _ _ _ n1 n2,ev_app0,ev_app1,sl45,Option.isSome_some,Option.map_some,Option.some.injEq,hT,hLn,hLL,k52o',k218o',e1,e2,hgn,bf hc0]
       rfl
      ·refine⟨(orS S0 (ov csBlock (some LL))),{ w with O:=some LL },_,R,_,_, ?_,.inr ⟨rfl,by simp only[E8,seval]<;>omega⟩,.inr ⟨st.cnt 91,_,rfl,rfl,by simp only[E8,seval]<;>omega,by simp only[E8,seval]<;>rfl⟩,hG',hRG',hC,hmB,rfl⟩
       simp only[E8,seval,hI]<;>rfl
    · -- a row of its own
     have eL:ol w.O=L:=by rw[hL];rfl
     have hg3:(g'=st.cnt 91)=False:=eq_false (by omega)
     obtain⟨X1,hX1,hX1'⟩:=own_to (L:=L) (k:=k) (by rw[← eL];omega) 91 g'
     obtain⟨X2,hX2,hX2'⟩:=own_from (L:=L) (k:=k+1) (by rw[← eL];omega) 91 g'
     have q1':(k:Int) < (L.length:Int):=by rw[← eL];omega
     have ldb:=ldaBlock (T:=74) (n:=L.length) (k:=238) q0 q1' lk74 (by decide) (by decide)
     simp only[Int.toNat_natCast] at ldb
     subst eL
     rcases hag with ⟨rfl,rfl⟩ | ⟨rfl,hg⟩
     · -- 66
      refine go_on (st':=?_) ?_ (LL.length) hmA ?_
      rotate_left
      ·simp only[Z8,seval,hI,hlt,q0,q1,q2,q3,q4,hw,hbb,Int.toNat_natCast,anoBlocks _ n1,aooBlocks _ _ _ _ n1 n2,ev_app0,ev_app1,sl45,Option.isSome_some,Option.map_some,Option.some.injEq,hT,hLn,hLL,k52o',k218o',hg2,hg3,hX1 _ _,hX1',hX2 _ _,hX2',q1',ldb,bf hc0]
       rfl
      ·refine⟨(orS S0 (ov csBlock (some LL))),{ w with O:=some LL },_,R,_,_, ?_,.inl ⟨rfl,rfl⟩,.inr ⟨st.cnt 91,_,rfl,rfl,by simp only[E8,seval]<;>omega,by simp only[E8,seval]<;>rfl⟩,hG',hRG',hC,hmB,rfl⟩
       simp only[E8,seval,hI]<;>rfl
     · -- 105
      have hgn:(g=st.cnt 105)=False:=eq_false (by omega)
      refine go_on (st':=?_) ?_ (LL.length) hmA ?_
      rotate_left
      ·simp only[Z8,seval,hI,hlt,q0,q1,q2,q3,q4,hw,hbb,Int.toNat_natCast,anoBlocks _ n1,aooBlocks _ _ _ _ n1 n2,ev_app0,ev_app1,sl45,Option.isSome_some,Option.map_some,Option.some.injEq,hT,hLn,hLL,k52o',k218o',hg2,hg3,hX1 _ _,hX1',hX2 _ _,hX2',q1',ldb,hgn,bf hc0]
       rfl
      ·refine⟨(orS S0 (ov csBlock (some LL))),{ w with O:=some LL },_,R,_,_, ?_,.inr ⟨rfl,by simp only[E8,seval]<;>omega⟩,.inr ⟨st.cnt 91,_,rfl,rfl,by simp only[E8,seval]<;>omega,by simp only[E8,seval]<;>rfl⟩,hG',hRG',hC,hmB,rfl⟩
       simp only[E8,seval,hI]<;>rfl
 obtain⟨r,h,hq⟩:=key
 cases hx:evL Tryz.prog loop203 st with
 | none=>rw[hx] at h;cases h
 | some y=>rw[hx] at h;simp only[bnd_some,Option.some.injEq] at h;subst h;exact⟨y.1,y.2,rfl,hq⟩
theorem epV_mono {s:Store} (h:1≤s.cFg.spe) {x y:Int} (hx:0≤x) (hxy:x≤y) (hy:y < 18446744073709551616):epV s x≤epV s y:=by
 have e:∀ z:Int,0≤z→z < 18446744073709551616→epV s z=z / s.cFg.spe:=fun z h0 h1=>by
  unfold epV
  rw[Int.tdiv_eq_ediv_of_nonneg h0]
  have:=Int.ediv_le_self s.cFg.spe h0
  exact wrap_u64 _ (Int.ediv_nonneg h0 (by omega)) (by omega)
 rw[e x hx (by omega),e y (by omega) hy]
 exact Int.ediv_le_ediv (by omega) hxy
theorem penS_rg {acc:Bool × Ckpt × Ckpt} {n:Node} (h1:Rg acc.2.1.epoch) (h2:Rg acc.2.2.epoch) (hn:RB n.block):Rg (penS acc n).2.1.epoch∧Rg (penS acc n).2.2.epoch:=by
 unfold penS
 split
 ·exact⟨h1,h2⟩
 ·refine⟨?_, ?_⟩
  ·dsimp only;split
   ·exact hn.pj
   ·exact h1
  ·dsimp only;split
   ·exact hn.pf
   ·exact h2
theorem penV_rg {ns:List Node} (h:∀ n∈ns,RB n.block):Rg (penV ns).pj.epoch∧Rg (penV ns).pf.epoch:=by
 have key:∀ (l:List Node) (acc:Bool × Ckpt × Ckpt),(∀ n∈l,RB n.block)→Rg acc.2.1.epoch→Rg acc.2.2.epoch→Rg (l.foldl penS acc).2.1.epoch∧Rg (l.foldl penS acc).2.2.epoch:=by
  intro l
  induction l with
  | nil=>intro acc _ h1 h2;exact⟨h1,h2⟩
  | cons n l ih =>
    intro acc hl h1 h2
    have hs:=penS_rg h1 h2 (hl n (List.mem_cons_self ..))
    exact ih _ (fun x hx=>hl x (List.mem_cons_of_mem _ hx)) hs.1 hs.2
 exact key ns _ h ⟨by show (0:Int)≤0;omega,by show (0:Int) < _;omega⟩ ⟨by show (0:Int)≤0;omega,by show (0:Int) < _;omega⟩
theorem eaS_now (s:Store) (X:AV):(eaS s X).now=s.now:=rfl
theorem eaS_early (s:Store) (X:AV):(eaS s X).queues.early=X:=rfl
theorem expo_eaO {s:Store} {v:SV} (h:SD s v) {L:List Att} (hL:∀ x∈L,Flat x.vals) (st:St) {g:Nat} (hh:st.heap 61 g=some (.row 87 67 L.length (csAtt L))):expo st (.agg (cStore (eaS s (.own 61 g))))=some (.agg (cStore (eaS s (ov csAtt (some L))))):=by
 have hfl:=h.fl
 have hx:=exFAtt L.length L hL
 unfold eaS
 simp only[expo_aggq,exq_Store,expo1_ownF,hh,hx,expo1_id,FLb,hfl,bnd_some]
 rfl
theorem oi44 {call:Nat→List AV→Option AV} {inl:Nat→List AV→St→Option (AV × St)} {ops:Array Oper} {st:St} {T:Nat} {pos:String} {aft:Array Edge} (x:Array Operand) (y:Array Nat) :
 evOpI Tryz.prog true call inl ops ⟨some 80,.call ⟨.value (.func 44),x,y⟩,T,pos,aft,none⟩ st=bnd (inl 44 (x.toList.map st.ev) st) fun r=>some ((st.back r.2).put (some 80) r.1):=oi_inl 44 x y (inl_some rfl)
noncomputable def loop202:Code:=firstLoop (Tryz.f202.body.getD .skip)
def TckI (c0:Config) (E:Option (List Att)) (q:Int) (m:Nat) (st:St):Prop:=∃ (k:Nat) (S:Store) (w:SV) (X:AV),(st.env 1=.ptr 1 0 0∧st.heap 1 0=some (.cells (cStore (eaS S X)))∧st.env 2=.ptr 2 0 0∧st.heap 2 0=some (.cells (cStore zStore))∧st.env 5=ov csAtt E∧st.env 6=.v (.int .i64 k)∧0 < st.cnt 1∧0 < st.cnt 2)∧((X=.v (.slice none 0 0)∧w.E=none)∨∃ g L,w.E=some L∧X=.own 61 g∧g < st.cnt 61∧st.heap 61 g=some (.row 87 67 L.length (csAtt L)))∧GI (eaS S (ov csAtt w.E)) w q∧RG (eaS S (ov csAtt w.E)) w∧S.cFg=c0∧(ol w.E).length≤k∧k≤(ol E).length∧m=(ol E).length - k
def TckO (c0:Config) (q:Int) (e:Ex) (st:St):Prop:=e=.exit 0∧∃ (S:Store) (w:SV) (X:AV),(st.env 1=.ptr 1 0 0∧st.heap 1 0=some (.cells (cStore (eaS S X)))∧st.env 2=.ptr 2 0 0∧st.heap 2 0=some (.cells (cStore zStore)))∧((X=.v (.slice none 0 0)∧w.E=none)∨∃ g L,w.E=some L∧X=.own 61 g∧st.heap 61 g=some (.row 87 67 L.length (csAtt L)))∧GI (eaS S (ov csAtt w.E)) w q∧RG (eaS S (ov csAtt w.E)) w∧S.cFg=c0
theorem run202 {c0:Config} {E:Option (List Att)} {q:Int} (hE:∀ a∈ol E,AttOk a) (hEa:∀ a∈ol E,∃ V,a.vals=ov csInt (some V)∧V≠[]) (nE:((ol E).length:Int)≤c0.lim.earlyL) (nE':((ol E).length:Int) < 900000) {m:Nat} {st:St} (hs:TckI c0 E q m st):∃ e st',evG Tryz.prog true loop202 st=some (e,st')∧TckO c0 q e st':=by
 have key:∃ r,bnd (evG Tryz.prog true loop202 st) some=some r∧TckO c0 q r.1 r.2:=by
  unfold loop202
  simp only[Tryz.f202,Option.getD_some,firstLoop]
  refine use_loopG (fun m st=>∃ (k:Nat) (S:Store) (w:SV) (X:AV),(st.env 1=.ptr 1 0 0∧st.heap 1 0=some (.cells (cStore (eaS S X)))∧st.env 2=.ptr 2 0 0∧st.heap 2 0=some (.cells (cStore zStore))∧st.env 5=ov csAtt E∧st.env 6=.v (.int .i64 k)∧0 < st.cnt 1∧0 < st.cnt 2)∧((X=.v (.slice none 0 0)∧w.E=none)∨∃ g L,w.E=some L∧X=.own 61 g∧g < st.cnt 61∧st.heap 61 g=some (.row 87 67 L.length (csAtt L)))∧GI (eaS S (ov csAtt w.E)) w q∧RG (eaS S (ov csAtt w.E)) w∧S.cFg=c0∧(ol w.E).length≤k∧k≤(ol E).length∧m=(ol E).length - k) (fun e st=>e=.exit 0∧∃ (S:Store) (w:SV) (X:AV),(st.env 1=.ptr 1 0 0∧st.heap 1 0=some (.cells (cStore (eaS S X)))∧st.env 2=.ptr 2 0 0∧st.heap 2 0=some (.cells (cStore zStore)))∧((X=.v (.slice none 0 0)∧w.E=none)∨∃ g L,w.E=some L∧X=.own 61 g∧st.heap 61 g=some (.row 87 67 L.length (csAtt L)))∧GI (eaS S (ov csAtt w.E)) w q∧RG (eaS S (ov csAtt w.E)) w∧S.cFg=c0) m ?step ?start ?rest
  case start=>exact hs
  case rest=>exact fun e st h=>⟨_,rfl,h⟩
  case step =>
   clear hs
   rintro m st ⟨k,S,w,X,hI,hX,hG,hRG,hC,hF,hk,hm⟩
   by_cases hlt:(k:Int) < (ol E).length
   case neg =>
    have hX':(X=.v (.slice none 0 0)∧w.E=none)∨∃ g L,w.E=some L∧X=.own 61 g∧st.heap 61 g=some (.row 87 67 L.length (csAtt L)):=hX.imp id fun ⟨g,L,h1,h2,_,h4⟩=>⟨g,L,h1,h2,h4⟩
    apply oTG (.exit 0)
    ·simp only[ZG,seval,Bool.false_and,Prod.mk.injEq,DY202,hI,hlt]
     rfl
    ·exact⟨rfl,S,w,X,by simp only[E8,seval,hI],by simpa only[E8,seval] using hX',hG,hRG,hC⟩
   have q0:(0:Int)≤k:=by omega
   have hw:IntKind.i64.wrap ((k:Int)+1)=((k+1:Nat):Int):=by rw[w64 _ (by omega) (by omega)];omega
   obtain⟨a,ea⟩:∃ a,gx zAtt (ol E) (k:Int)=a:=⟨_,rfl⟩
   have ha:AttOk a:=by rw[← ea];exact hE _ (gx_mem q0 hlt)
   have hEa':∃ V,a.vals=ov csInt (some V)∧V≠[]:=by rw[← ea];exact hEa _ (gx_mem q0 hlt)
   obtain⟨V,hV,nV⟩:=id ha
   have fa:Flat (.agg (cAtt a)):=(fl_Att a).2 ha.fl
   have fl9:=hG.sd.flat
   by_cases g1:S.now≤a.slot
   · -- kept
    rcases hX with ⟨rfl,hE0⟩ | ⟨g,L,hE0,rfl,hg,hh⟩
    ·have hG':=hG.early (some [a]) (by intro b hb;rw[show b=a by simpa [ol] using hb];exact ha) (by show ((1:Nat):Int)≤S.cFg.lim.earlyL;rw[hC];omega)
     have hRG':RG (eaS S (ov csAtt (some [a]))) { w with E:=some [a]}:=⟨hRG.now,hRG.j,hRG.f,hRG.nd,hRG.or,hRG.rt,hRG.fe,hRG.ds,hRG.tb,⟨hRG.ne.q,by simp,hRG.ne.o,hRG.ne.t,fun b hb=>by rw[show b=a by simpa [ol] using hb];exact hEa' ,hRG.ne.tb⟩⟩
     have an1:=anoAtt1 a
     apply oNG ((ol E).length - (k+1))
     ·simp only[ZG,seval,Bool.false_and,Prod.mk.injEq,DY202,hI,hlt,q0,ea,eaS_now,eaS_early,g1,fa,an1,hw]
      rfl
     ·exact⟨k+1,S,{ w with E:=some [a]},_,by and_intros<;>(simp only[E8,seval,hI]<;>rfl),.inr ⟨_,[a],rfl,rfl,by simp only[E8,seval]<;>omega,by simp only[E8,seval]<;>rfl⟩,hG',hRG',hC,by show 1≤k+1;omega,by omega,rfl⟩
    ·have hlL:L.length≤k:=by rw[hE0] at hF;exact hF
     have nL:(L.length:Int) < 1000000:=by omega
     have hgn:(g=st.cnt 61)=False:=eq_false (by omega)
     have hG':=hG.early (some (L ++ [a])) (by
      intro b hb
      rcases List.mem_append.1 (show b∈L ++ [a] from hb) with hb | hb
      ·exact hG.sd.eV b (by rw[hE0];exact hb)
      ·rw[List.mem_singleton] at hb;rw[hb];exact ha) (by show (((L ++ [a]).length:Nat):Int)≤S.cFg.lim.earlyL;rw[hC,List.length_append,List.length_cons,List.length_nil];omega)
     have hRG':RG (eaS S (ov csAtt (some (L ++ [a])))) { w with E:=some (L ++ [a])}:=⟨hRG.now,hRG.j,hRG.f,hRG.nd,hRG.or,hRG.rt,hRG.fe,hRG.ds,hRG.tb,⟨hRG.ne.q,by simp,hRG.ne.o,hRG.ne.t,fun b hb=>by rcases List.mem_append.1 (show b∈L ++ [a] from hb) with hb | hb;exact hRG.ne.ea b (by rw[hE0];exact hb);rw[List.mem_singleton] at hb;rw[hb];exact hEa',hRG.ne.tb⟩⟩
     apply oNG ((ol E).length - (k+1))
     ·simp only[ZG,seval,Bool.false_and,Prod.mk.injEq,DY202,hI,hh,hgn,hlt,q0,ea,eaS_now,eaS_early,g1,fa,aooAtt1 _ _ _ _ nL,hw]
      rfl
     ·exact⟨k+1,S,{ w with E:=some (L ++ [a])},_,by and_intros<;>(simp only[E8,seval,hI]<;>rfl),.inr ⟨_,L ++ [a],rfl,rfl,by simp only[E8,seval]<;>omega,by simp only[E8,seval]<;>rfl⟩,hG',hRG',hC,by show (L ++ [a]).length≤k+1;rw[List.length_append,List.length_cons,List.length_nil];omega,by omega,rfl⟩
   ·have c39':=c39 hG.sd hG.up hG.sp a V hV (by omega)
    have k39:∀ (st:St) (d:Option Nat),expo st (.agg (cStore (eaS S X)))=some (.agg (cStore (eaS S (ov csAtt w.E))))→callFn (callL Tryz.prog) 39 [.agg (cStore (eaS S X)),.agg (cAtt a)] st d=some { dst:=d,val:=.tup [.v (.bool (caV (eaS S (ov csAtt w.E)) w a (ol V)).1),.v (.int .i64 (caV (eaS S (ov csAtt w.E)) w a (ol V)).2)]}:=by
     intro st d hx
     rw[callFn_Q,List.map_cons,List.map_cons,List.map_nil,hx,expo_id fa,optAll_some,optAll_some,optAll_nil]
     exact Q_of c39' (by intro x hx;simp only[List.mem_cons,List.not_mem_nil,or_false] at hx;rcases hx with rfl | rfl<;>exact .v _) (.tup _ (flat2 (.v _) (.v _)))
    have hG2:GI (eaS (casI S w a (ol V)) (ov csAtt w.E)) { w with L:=some (castF (ol w.L) a.target.epoch a.root (ol V)).1 } q:=hG.cast a (ol V)
    have hRG2:RG (eaS (casI S w a (ol V)) (ov csAtt w.E)) { w with L:=some (castF (ol w.L) a.target.epoch a.root (ol V)).1 }:=⟨hRG.now,hRG.j,hRG.f,hRG.nd,hRG.or,hRG.rt,hRG.fe,hRG.ds,hRG.tb,⟨hRG.ne.q,hRG.ne.e,hRG.ne.o,hRG.ne.t,hRG.ne.ea,hRG.ne.tb⟩⟩
    rcases hX with ⟨rfl,hE0⟩ | ⟨g,L,hE0,rfl,hg,hh⟩
    ·have e0:ov csAtt w.E=.v (.slice none 0 0):=by rw[hE0];rfl
     have k39n:=fun st d=>k39 st d (by rw[e0];rw[e0] at fl9;exact expo_id fl9)
     by_cases g2:(caV (eaS S (ov csAtt w.E)) w a (ol V)).2=0
     case neg =>
      apply oNG ((ol E).length - (k+1))
      ·simp only[ZG,seval,Bool.false_and,Prod.mk.injEq,DY202,hI,hlt,q0,ea,eaS_now,eaS_early,g1,k39n,extA,bf g2,hw]
       rfl
      ·exact⟨k+1,S,w,_,by and_intros<;>(simp only[E8,seval,hI]<;>rfl),.inl ⟨rfl,hE0⟩,hG,hRG,hC,by omega,by omega,rfl⟩
     have hr:∀ x∈ol V,0≤x∧x < (ol w.L).length:=by rw[hG.lat];exact vlV_ok (caV_ok g2)
     obtain⟨G,hG44⟩:=inl44 hG.sd (.v (.slice none 0 0)) a V hV (by omega) hr
     have kG:∀ st,inlL Tryz.prog 44 [.agg (cStore (eaS S (.v (.slice none 0 0)))),.agg (cAtt a)] st=some (.agg (cStore (eaS (casI S w a (ol V)) (.v (.slice none 0 0)))),G st):=fun st=>(hG44 st).1
     have f1:∀ st:St,0 < st.cnt 1→(G st).heap 1 0=st.heap 1 0:=fun st h=>(hG44 st).2.1 1 0 h
     have f2:∀ st:St,0 < st.cnt 2→(G st).heap 2 0=st.heap 2 0:=fun st h=>(hG44 st).2.1 2 0 h
     have c1:∀ st:St,0 < st.cnt 1→(0 < (G st).cnt 1)=True:=fun st h=>eq_true (Nat.lt_of_lt_of_le h ((hG44 st).2.2 1))
     have c2:∀ st:St,0 < st.cnt 2→(0 < (G st).cnt 2)=True:=fun st h=>eq_true (Nat.lt_of_lt_of_le h ((hG44 st).2.2 2))
     apply oNG ((ol E).length - (k+1))
     ·simp only[ZG,seval,Bool.false_and,Prod.mk.injEq,DY202,hI,hlt,q0,ea,eaS_now,eaS_early,g1,k39n,extA,bt g2,oi44,kG,f1,back_env,back_heap,back_cnt,hw]
      rfl
     ·exact⟨k+1,casI S w a (ol V),{ w with L:=some (castF (ol w.L) a.target.epoch a.root (ol V)).1 },_,⟨by simp only[E8,seval,hI,back_env],by simp only[E8,seval,hI,back_heap,back_cnt]<;>rfl,by simp only[E8,seval,hI,back_env],by simp only[E8,seval,hI,back_heap,back_cnt,f2],by simp only[E8,seval,hI,back_env],by simp only[E8,seval,hI,back_env],by simp only[E8,seval,hI,back_cnt,c1],by simp only[E8,seval,hI,back_cnt,c2]⟩,.inl ⟨rfl,hE0⟩,hG2,hRG2,hC,by show (ol w.E).length≤k+1;omega,by omega,rfl⟩
    ·have hLf:∀ x∈L,Flat x.vals:=fun x hx=>(hG.sd.eV x (by rw[hE0];exact hx)).fl
     have k39o:∀ (st:St) (d:Option Nat),st.heap 61 g=some (.row 87 67 L.length (csAtt L))→_:=fun st d h61=>k39 st d (by rw[hE0];exact expo_eaO hG.sd hLf st h61)
     by_cases g2:(caV (eaS S (ov csAtt w.E)) w a (ol V)).2=0
     case neg =>
      apply oNG ((ol E).length - (k+1))
      ·simp only[ZG,seval,Bool.false_and,Prod.mk.injEq,DY202,hI,hh,hlt,q0,ea,eaS_now,eaS_early,g1,k39o,extA,bf g2,hw]
       rfl
      ·exact⟨k+1,S,w,_,by and_intros<;>(simp only[E8,seval,hI]<;>rfl),.inr ⟨g,L,hE0,rfl,by simp only[E8,seval]<;>omega,by simp only[E8,seval,hh]⟩,hG,hRG,hC,by omega,by omega,rfl⟩
     have hr:∀ x∈ol V,0≤x∧x < (ol w.L).length:=by rw[hG.lat];exact vlV_ok (caV_ok g2)
     obtain⟨G,hG44⟩:=inl44 hG.sd (.own 61 g) a V hV (by omega) hr
     have kG:∀ st,inlL Tryz.prog 44 [.agg (cStore (eaS S (.own 61 g))),.agg (cAtt a)] st=some (.agg (cStore (eaS (casI S w a (ol V)) (.own 61 g))),G st):=fun st=>(hG44 st).1
     have f1:∀ st:St,0 < st.cnt 1→(G st).heap 1 0=st.heap 1 0:=fun st h=>(hG44 st).2.1 1 0 h
     have f2:∀ st:St,0 < st.cnt 2→(G st).heap 2 0=st.heap 2 0:=fun st h=>(hG44 st).2.1 2 0 h
     have f3:∀ st:St,g < st.cnt 61→(G st).heap 61 g=st.heap 61 g:=fun st h=>(hG44 st).2.1 61 g h
     have c1:∀ st:St,0 < st.cnt 1→(0 < (G st).cnt 1)=True:=fun st h=>eq_true (Nat.lt_of_lt_of_le h ((hG44 st).2.2 1))
     have c2:∀ st:St,0 < st.cnt 2→(0 < (G st).cnt 2)=True:=fun st h=>eq_true (Nat.lt_of_lt_of_le h ((hG44 st).2.2 2))
     have c3:∀ st:St,g < st.cnt 61→(g < (G st).cnt 61)=True:=fun st h=>eq_true (Nat.lt_of_lt_of_le h ((hG44 st).2.2 61))
     apply oNG ((ol E).length - (k+1))
     ·simp only[ZG,seval,Bool.false_and,Prod.mk.injEq,DY202,hI,hh,hlt,q0,ea,eaS_now,eaS_early,g1,k39o,extA,bt g2,oi44,kG,f1,back_env,back_heap,back_cnt,hw]
      rfl
     ·exact⟨k+1,casI S w a (ol V),{ w with L:=some (castF (ol w.L) a.target.epoch a.root (ol V)).1 },_,⟨by simp only[E8,seval,hI,back_env],by simp only[E8,seval,hI,back_heap,back_cnt]<;>rfl,by simp only[E8,seval,hI,back_env],by simp only[E8,seval,hI,back_heap,back_cnt,f2],by simp only[E8,seval,hI,back_env],by simp only[E8,seval,hI,back_env],by simp only[E8,seval,hI,back_cnt,c1],by simp only[E8,seval,hI,back_cnt,c2]⟩,.inr ⟨g,L,hE0,rfl,by simp only[E8,seval,back_cnt,hg,c3],by simp only[E8,seval,back_heap,back_cnt,hg,hh,f3]⟩,hG2,hRG2,hC,by show (ol w.E).length≤k+1;omega,by omega,rfl⟩
 obtain⟨r,h,hq⟩:=key
 cases hx:evG Tryz.prog true loop202 st with
 | none=>rw[hx] at h;cases h
 | some y=>rw[hx] at h;simp only[bnd_some,Option.some.injEq] at h;subst h;exact⟨y.1,y.2,rfl,hq⟩
theorem x202 {s:Store} {v:SV} {q:Int} (h:GI s v q) (r:RG s v):∃ x,callL Tryz.prog 202 [.agg (cStore s)]=some x∧StR s q x:=by
 have hz:=hz_zStore
 have hf:=h.sd.flat
 have hsp:=h.sp
 rw[cG Tryz.func202 rfl ok202 (by kernel_rfl) rfl]
 by_cases g1:1099511627776≤s.now
 ·simp only[ZG,seval,Bool.false_and,Prod.mk.injEq,DY202,g1]
  exact⟨_,by apply xtwo;rfl;all_goals simp only[keep_none,resA,Z8,seval,hz]<;>rfl,zStore,3,rfl,hz,by decide,fun h=>by cases h⟩
 have hw:IntKind.u64.wrap (s.now+1)=s.now+1:=wrap_u64 _ (by have:=r.now.1;omega) (by have:=r.now.2;omega)
 obtain⟨s1,hs1⟩:∃ s1:Store,s1={ s with now:=s.now+1,boost:=zRoot }:=⟨_,rfl⟩
 have h1:GI s1 v q:=by
  rw[hs1]
  exact⟨⟨h.sd.bal,h.sd.latest,h.sd.equiv,h.sd.early,h.sd.orphans,h.sd.tree,h.sd.tables,h.sd.eV,h.sd.tB,h.sd.nB,h.sd.nL,h.sd.nQ,h.sd.nE,h.sd.nO,h.sd.nT,h.sd.nn⟩,h.up,h.up0,h.pos,h.nl,h.nlB,h.spe,h.lat,h.nB,h.nO,h.nOB,h.nE,h.nEB,h.nT,h.nTB,h.nQ,h.nQB,h.just⟩
 have r1:RG s1 v:=by
  rw[hs1]
  exact⟨⟨by show 0≤s.now+1;have:=r.now.1;omega,by show s.now+1≤_;omega⟩,r.j,r.f,fun n hn=>⟨(r.nd n hn).1,by show n.block.slot≤s.now+1;have:=(r.nd n hn).2;omega⟩,r.or,r.rt,⟨r.fe.1,Int.le_trans r.fe.2 (show epV s s.now≤epV s (s.now+1) from epV_mono h.spe.1 r.now.1 (by omega) (by have:=r.now.2;omega))⟩,r.ds,r.tb,r.ne⟩
 have c1:s1.cFg=s.cFg:=by rw[hs1]
 have nE:=h.nE
 have nEB:=h.nEB
 subst hs1
 have uE:∀ (S:Store) (w:SV) (a b:Ckpt),(updW S w a b).E=w.E:=fun S w a b=>by unfold updW;split;rfl;split<;>rfl
 by_cases g2:(s.now+1).tmod s.cFg.spe=0
 case neg =>
  simp only[ZG,seval,Bool.false_and,Prod.mk.injEq,DY202,g1,hw,hsp,bf g2,h.sd.early]
  refine use_midGX (a:=loop202) (TckO s.cFg q) (run202 (E:=v.E) h.sd.eV r.ne.ea (by omega) (by omega) (m:=(ol v.E).length) ⟨0,{ s with now:=s.now+1,boost:=zRoot },{ v with E:=none },.v (.slice none 0 0),⟨by simp only[E8,seval],by simp only[E8,seval]<;>rfl,by simp only[E8,seval],by simp only[E8,seval],by simp only[E8,seval],by simp only[E8,seval]<;>rfl,by simp only[E8,seval]<;>omega,by simp only[E8,seval]<;>omega⟩,.inl ⟨rfl,rfl⟩,h1.early none (by simp[ol]) (by show ((0:Nat):Int)≤_;rw[c1];omega),⟨r1.now,r1.j,r1.f,r1.nd,r1.or,r1.rt,r1.fe,r1.ds,r1.tb,⟨r1.ne.q,nofun,r1.ne.o,r1.ne.t,(fun a ha=>by cases ha),r1.ne.tb⟩⟩,c1,by simp[ol],by omega,by omega⟩) ?rest
  rintro e st ⟨rfl,S,w,X,hI,hX,hG,hRG,hC⟩
  have hf0:=hG.sd.flat
  rcases hX with ⟨rfl,hE0⟩ | ⟨g,L,hE0,rfl,hh⟩
  ·rw[hE0] at hf0 hG hRG
   have hf1:Flat (.agg (cStore (eaS S (.v (.slice none 0 0))))):=hf0
   simp only[ZG,seval,Bool.false_and,Prod.mk.injEq,DY202,hI]
   exact⟨_,by apply xtwo;rfl;all_goals simp only[keep_none,resA,Z8,seval,hI,hf1]<;>rfl,_,0,rfl,hf1,by decide,fun _=>⟨w,hG,hRG,hC⟩⟩
  ·have hLf:∀ x∈L,Flat x.vals:=fun x hx=>(hG.sd.eV x (by rw[hE0];exact hx)).fl
   have hex:∀ st:St,st.heap 61 g=some (.row 87 67 L.length (csAtt L))→expo st (.agg (cStore (eaS S (.own 61 g))))=some (.agg (cStore (eaS S (ov csAtt (some L))))):=fun st hh=>expo_eaO hG.sd hLf st hh
   rw[hE0] at hf0 hG hRG
   simp only[ZG,seval,Bool.false_and,Prod.mk.injEq,DY202,hI]
   exact⟨_,by apply xtwo;rfl;all_goals simp only[keep_none,resA,Z8,seval,hI,hh,hex]<;>rfl,_,0,rfl,hf0,by decide,fun _=>⟨w,hG,hRG,hC⟩⟩
 have k67':=k67 h1.sd
 have pv:=penV_rg fun n hn=>(r1.nd n hn).1
 have k61':=k61 h1.sd h1.up h1.sp (penV v.ns).pj (penV v.ns).pf
 have h2:=h1.upd (penV v.ns).pj (penV v.ns).pf
 have r2:=RG.upd r1 pv.1 pv.2
 have c2:=updS_config { s with now:=s.now+1,boost:=zRoot } v (penV v.ns).pj (penV v.ns).pf
 have e2:=h2.sd.early
 rw[uE] at e2
 obtain⟨S2,hS2⟩:∃ S2,updS { s with now:=s.now+1,boost:=zRoot } v (penV v.ns).pj (penV v.ns).pf=S2:=⟨_,rfl⟩
 rw[hS2] at k61' h2 r2 c2 e2
 have c3:S2.cFg=s.cFg:=c2
 simp only[ZG,seval,Bool.false_and,Prod.mk.injEq,DY202,g1,hw,hsp,bt g2,k67',k61',e2]
 refine use_midGX (a:=loop202) (TckO s.cFg q) (run202 (E:=v.E) h.sd.eV r.ne.ea (by omega) (by omega) (m:=(ol v.E).length) ⟨0,S2,{ updW { s with now:=s.now+1,boost:=zRoot } v (penV v.ns).pj (penV v.ns).pf with E:=none },.v (.slice none 0 0),⟨by simp only[E8,seval],by simp only[E8,seval]<;>rfl,by simp only[E8,seval],by simp only[E8,seval],by simp only[E8,seval],by simp only[E8,seval]<;>rfl,by simp only[E8,seval]<;>omega,by simp only[E8,seval]<;>omega⟩,.inl ⟨rfl,rfl⟩,h2.early none (by simp[ol]) (by show ((0:Nat):Int)≤_;rw[c3];omega),⟨r2.now,r2.j,r2.f,r2.nd,r2.or,r2.rt,r2.fe,r2.ds,r2.tb,⟨r2.ne.q,nofun,r2.ne.o,r2.ne.t,(fun a ha=>by cases ha),r2.ne.tb⟩⟩,c3,by simp[ol],by omega,by omega⟩) ?rest2
 rintro e st ⟨rfl,S,w,X,hI,hX,hG,hRG,hC⟩
 have hf0:=hG.sd.flat
 rcases hX with ⟨rfl,hE0⟩ | ⟨g,L,hE0,rfl,hh⟩
 ·rw[hE0] at hf0 hG hRG
  have hf1:Flat (.agg (cStore (eaS S (.v (.slice none 0 0))))):=hf0
  simp only[ZG,seval,Bool.false_and,Prod.mk.injEq,DY202,hI]
  exact⟨_,by apply xtwo;rfl;all_goals simp only[keep_none,resA,Z8,seval,hI,hf1]<;>rfl,_,0,rfl,hf1,by decide,fun _=>⟨w,hG,hRG,hC⟩⟩
 ·have hLf:∀ x∈L,Flat x.vals:=fun x hx=>(hG.sd.eV x (by rw[hE0];exact hx)).fl
  have hex:∀ st:St,st.heap 61 g=some (.row 87 67 L.length (csAtt L))→expo st (.agg (cStore (eaS S (.own 61 g))))=some (.agg (cStore (eaS S (ov csAtt (some L))))):=fun st hh=>expo_eaO hG.sd hLf st hh
  rw[hE0] at hf0 hG hRG
  simp only[ZG,seval,Bool.false_and,Prod.mk.injEq,DY202,hI]
  exact⟨_,by apply xtwo;rfl;all_goals simp only[keep_none,resA,Z8,seval,hI,hh,hex]<;>rfl,_,0,rfl,hf0,by decide,fun _=>⟨w,hG,hRG,hC⟩⟩
def rqS (t:State) (X Y:AV) (tag:Int):State:={ t with requests:=X,retries:=Y,nextTag:=tag }
theorem dy86:dynTab 0 3 (some 3)=[]∧dynTab 1 8 (some 8)=[]∧dynTab 2 8 (some 14)=[]∧dynTab 3 5 (some 21)=[]∧dynTab 4 2 (some 25)=[]:=⟨rfl,rfl,rfl,rfl,rfl⟩
theorem inl86 (t:State) (Y:AV) (o:Option (List Request)) (tag:Int) (hn:((ol o).length:Int) < 1000000) (r:Root) (n:Int) :
 ∃ G:St→St,∀ st,inlL Tryz.prog 86 [.agg (cState (rqS t (ov csRequest o) Y tag)),.agg (cRoot r),.v (.int .i64 n)] st=some (.agg (cState (rqS t (.own 19 (st.cnt 19)) Y (IntKind.u64.wrap (tag+1)))),G st)∧Frm st (G st)∧(G st).heap 19 (st.cnt 19)=some (.row 63 35 (ol o ++ [(⟨⟨tag⟩,r,n,0⟩:Request)]).length (csRequest (ol o ++ [(⟨⟨tag⟩,r,n,0⟩:Request)])))∧st.cnt 19 < (G st).cnt 19:=by
 have one:∀ st,∃ st',inlL Tryz.prog 86 [.agg (cState (rqS t (ov csRequest o) Y tag)),.agg (cRoot r),.v (.int .i64 n)] st=some (.agg (cState (rqS t (.own 19 (st.cnt 19)) Y (IntKind.u64.wrap (tag+1)))),st')∧Frm st (st')∧(st').heap 19 (st.cnt 19)=some (.row 63 35 (ol o ++ [(⟨⟨tag⟩,r,n,0⟩:Request)]).length (csRequest (ol o ++ [(⟨⟨tag⟩,r,n,0⟩:Request)])))∧st.cnt 19 < (st').cnt 19:=by
  intro st
  by_cases hy:True
  case neg=>exact⟨st,absurd trivial hy⟩
  suffices h:∃ st',inlL Tryz.prog 86 [.agg (cState (rqS t (ov csRequest o) Y tag)),.agg (cRoot r),.v (.int .i64 n)] st=some (.agg (cState (rqS t (.own 19 (st.cnt 19)) Y (IntKind.u64.wrap (tag+1)))),st')∧Frm st (st')∧(st').heap 19 (st.cnt 19)=some (.row 63 35 (ol o ++ [(⟨⟨tag⟩,r,n,0⟩:Request)]).length (csRequest (ol o ++ [(⟨⟨tag⟩,r,n,0⟩:Request)])))∧st.cnt 19 < (st').cnt 19 by
   obtain⟨st',h⟩:=h
   exact⟨st',h⟩
  have e1:(rqS t (ov csRequest o) Y tag).requests=ov csRequest o:=rfl
  have e2:(rqS t (ov csRequest o) Y tag).nextTag=tag:=rfl
  have zR:zRequest.due=0:=rfl
  rw[inlL_eq Tryz.prog Tryz.func86 rfl (by kernel_rfl)]
  simp only[ZG,seval,Bool.false_and,Prod.mk.injEq,dy86,e1,e2,zR,anoRequests _ hn,aooRequest1 _ _ _ _ hn]
  refine⟨_,endI_one (P:=Tryz.prog) (fn:=Tryz.f86) (r:=.cell 6 58) (x:=.agg (cState (rqS t (.own 19 (st.cnt 19)) Y (IntKind.u64.wrap (tag+1))))) (.inl rfl) rfl ?h1,⟨fun x g hg=>?h2,fun x=>?h3⟩, ?h4, ?h5⟩
  case h1 =>
   rw[resA_eq]
   simp only[resA,Z8,seval]
   rfl
  case h2 =>
   have n3:(x=3∧g=st.cnt 3)=False:=eq_false (by rintro⟨rfl,rfl⟩;omega)
   have n4:(x=4∧g=st.cnt 4)=False:=eq_false (by rintro⟨rfl,rfl⟩;omega)
   have n6:(x=6∧g=st.cnt 6)=False:=eq_false (by rintro⟨rfl,rfl⟩;omega)
   have n7:(x=7∧g=st.cnt 7)=False:=eq_false (by rintro⟨rfl,rfl⟩;omega)
   have n16:(x=16∧g=st.cnt 16)=False:=eq_false (by rintro⟨rfl,rfl⟩;omega)
   have n18:(x=18∧g=st.cnt 18)=False:=eq_false (by rintro⟨rfl,rfl⟩;omega)
   have n19:(x=19∧g=st.cnt 19)=False:=eq_false (by rintro⟨rfl,rfl⟩;omega)
   simp only[E8,seval,back_heap,back_cnt,n3,n4,n6,n7,n16,n18,n19,if_false]
  case h3 =>
   simp only[E8,seval,back_heap,back_cnt]
   split<;>(try split)<;>(try split)<;>(try split)<;>(try split)<;>(try split)<;>(try split)<;>subst_vars<;>omega
  case h4=>simp only[E8,seval,back_heap,back_cnt]
  case h5=>simp only[E8,seval,back_heap,back_cnt]<;>omega
 exact⟨fun st=>Classical.choose (one st),fun st=>Classical.choose_spec (one st)⟩
theorem inl86o (t:State) (Y:AV) (g0:Nat) (L:List Request) (tag:Int) (hn:((L).length:Int) < 1000000) (r:Root) (n:Int) :
 ∃ G:St→St,∀ st,(st.heap 19 g0=some (.row 63 35 L.length (csRequest L))∧g0 < st.cnt 19)→inlL Tryz.prog 86 [.agg (cState (rqS t (.own 19 g0) Y tag)),.agg (cRoot r),.v (.int .i64 n)] st=some (.agg (cState (rqS t (.own 19 (st.cnt 19)) Y (IntKind.u64.wrap (tag+1)))),G st)∧Frm st (G st)∧(G st).heap 19 (st.cnt 19)=some (.row 63 35 (L ++ [(⟨⟨tag⟩,r,n,0⟩:Request)]).length (csRequest (L ++ [(⟨⟨tag⟩,r,n,0⟩:Request)])))∧st.cnt 19 < (G st).cnt 19:=by
 have one:∀ st,∃ st',(st.heap 19 g0=some (.row 63 35 L.length (csRequest L))∧g0 < st.cnt 19)→inlL Tryz.prog 86 [.agg (cState (rqS t (.own 19 g0) Y tag)),.agg (cRoot r),.v (.int .i64 n)] st=some (.agg (cState (rqS t (.own 19 (st.cnt 19)) Y (IntKind.u64.wrap (tag+1)))),st')∧Frm st (st')∧(st').heap 19 (st.cnt 19)=some (.row 63 35 (L ++ [(⟨⟨tag⟩,r,n,0⟩:Request)]).length (csRequest (L ++ [(⟨⟨tag⟩,r,n,0⟩:Request)])))∧st.cnt 19 < (st').cnt 19:=by
  intro st
  by_cases hy:(st.heap 19 g0=some (.row 63 35 L.length (csRequest L))∧g0 < st.cnt 19)
  case neg=>exact⟨st,fun h=>absurd h hy⟩
  suffices h:∃ st',inlL Tryz.prog 86 [.agg (cState (rqS t (.own 19 g0) Y tag)),.agg (cRoot r),.v (.int .i64 n)] st=some (.agg (cState (rqS t (.own 19 (st.cnt 19)) Y (IntKind.u64.wrap (tag+1)))),st')∧Frm st (st')∧(st').heap 19 (st.cnt 19)=some (.row 63 35 (L ++ [(⟨⟨tag⟩,r,n,0⟩:Request)]).length (csRequest (L ++ [(⟨⟨tag⟩,r,n,0⟩:Request)])))∧st.cnt 19 < (st').cnt 19 by
   obtain⟨st',h⟩:=h
   exact⟨st',fun _=>h⟩
  have e1:(rqS t (.own 19 g0) Y tag).requests=.own 19 g0:=rfl
  have e2:(rqS t (.own 19 g0) Y tag).nextTag=tag:=rfl
  have zR:zRequest.due=0:=rfl
  have hgn:(g0=st.cnt 19)=False:=eq_false (by have:=hy.2;omega)
  rw[inlL_eq Tryz.prog Tryz.func86 rfl (by kernel_rfl)]
  simp only[ZG,seval,Bool.false_and,Prod.mk.injEq,dy86,e1,e2,zR,hy.1,hgn,anoRequests _ hn,aooRequest1 _ _ _ _ hn]
  refine⟨_,endI_one (P:=Tryz.prog) (fn:=Tryz.f86) (r:=.cell 6 58) (x:=.agg (cState (rqS t (.own 19 (st.cnt 19)) Y (IntKind.u64.wrap (tag+1))))) (.inl rfl) rfl ?h1,⟨fun x g hg=>?h2,fun x=>?h3⟩, ?h4, ?h5⟩
  case h1 =>
   rw[resA_eq]
   simp only[resA,Z8,seval]
   rfl
  case h2 =>
   have n3:(x=3∧g=st.cnt 3)=False:=eq_false (by rintro⟨rfl,rfl⟩;omega)
   have n4:(x=4∧g=st.cnt 4)=False:=eq_false (by rintro⟨rfl,rfl⟩;omega)
   have n6:(x=6∧g=st.cnt 6)=False:=eq_false (by rintro⟨rfl,rfl⟩;omega)
   have n7:(x=7∧g=st.cnt 7)=False:=eq_false (by rintro⟨rfl,rfl⟩;omega)
   have n16:(x=16∧g=st.cnt 16)=False:=eq_false (by rintro⟨rfl,rfl⟩;omega)
   have n18:(x=18∧g=st.cnt 18)=False:=eq_false (by rintro⟨rfl,rfl⟩;omega)
   have n19:(x=19∧g=st.cnt 19)=False:=eq_false (by rintro⟨rfl,rfl⟩;omega)
   simp only[E8,seval,back_heap,back_cnt,n3,n4,n6,n7,n16,n18,n19,if_false]
  case h3 =>
   simp only[E8,seval,back_heap,back_cnt]
   split<;>(try split)<;>(try split)<;>(try split)<;>(try split)<;>(try split)<;>(try split)<;>subst_vars<;>omega
  case h4=>simp only[E8,seval,back_heap,back_cnt]
  case h5=>simp only[E8,seval,back_heap,back_cnt]<;>omega
 exact⟨fun st=>Classical.choose (one st),fun st=>Classical.choose_spec (one st)⟩
noncomputable def dueR (ns:List Node) (now:Int) (a:(Option (List Request) × Int) × List Request) (r:Request):(Option (List Request) × Int) × List Request :=
 if now < r.due then (a.1,a.2 ++ [r]) else if OptN ns r.block then ((some (ol a.1.1 ++ [⟨⟨a.1.2⟩,r.block,r.tries,0⟩]),IntKind.u64.wrap (a.1.2+1)),a.2) else a
noncomputable def dueF (ns:List Node) (now:Int) (a:(Option (List Request) × Int) × List Request) (l:List Request):(Option (List Request) × Int) × List Request:=l.foldl (dueR ns now) a
theorem dueF_step (ns:List Node) (now:Int) (a:(Option (List Request) × Int) × List Request) (l:List Request) (k:Nat) (h:k < l.length):dueF ns now a (l.take (k+1))=dueR ns now (dueF ns now a (l.take k)) (gx zRequest l k):=by
 unfold dueF
 rw[List.take_succ_eq_append_getElem h,List.foldl_append]
 simp[gx,h]
theorem dueR_len (ns:List Node) (now:Int) (a:(Option (List Request) × Int) × List Request) (r:Request):(ol (dueR ns now a r).1.1).length≤(ol a.1.1).length+1∧(dueR ns now a r).2.length≤a.2.length+1:=by
 unfold dueR
 split
 ·refine⟨by dsimp only;omega, ?_⟩
  dsimp only;rw[List.length_append,List.length_cons,List.length_nil];omega
 ·split
  ·refine⟨?_,by dsimp only;omega⟩
   show (ol a.1.1 ++ [_]).length≤_;rw[List.length_append,List.length_cons,List.length_nil];omega
  ·omega
theorem dueF_len (ns:List Node) (now:Int) (l:List Request):∀ (a:(Option (List Request) × Int) × List Request),(ol (dueF ns now a l).1.1).length≤(ol a.1.1).length+l.length∧(dueF ns now a l).2.length≤a.2.length+l.length:=by
 induction l with
 | nil=>intro a;exact⟨Nat.le_refl _,Nat.le_refl _⟩
 | cons r l ih =>
   intro a
   have h1:=ih (dueR ns now a r)
   have h2:=dueR_len ns now a r
   rw[List.length_cons]
   show (ol (dueF ns now (dueR ns now a r) l).1.1).length≤_∧(dueF ns now (dueR ns now a r) l).2.length≤_
   omega
theorem expo1_ov {st:St} (o:Option (List Request)):expo1 st (ov csRequest o)=some (ov csRequest o):=expo1_fl (flat_ovRequest o)
theorem expo1_own {st:St} {a g:Nat} {L:List Request} (h:st.heap a g=some (.row 63 35 L.length (csRequest L))):expo1 st (.own a g)=some (ov csRequest (some L)):=by
 rw[expo1_ownF,h];exact exFRequest _ _
theorem expo_rq {t:State} {v:SV} {Q R:Option (List Request)} (h:TD t v Q R) (st:St) {X Y X' Y':AV} (hx:expo1 st X=some X') (hy:expo1 st Y=some Y') (tag:Int):expo st (.agg (cState (rqS t X Y tag)))=some (.agg (cState (rqS t X' Y' tag))):=by
 have hfl:=h.fl
 unfold rqS
 simp only[expo_aggq,exq_State,exq_Store,hx,hy,expo1_id,FLb,hfl,bnd_some]
theorem TD.rq {t:State} {v:SV} {Q R:Option (List Request)} (h:TD t v Q R) (q z:Option (List Request)) (tag:Int) (hq:((ol q).length:Int) < 900000) (hz:((ol z).length:Int) < 900000):TD (rqS t (ov csRequest q) (ov csRequest z) tag) v q z:=⟨h.sd,rfl,rfl,hq,hz⟩
theorem k85g {t:State} {v:SV} {Q R:Option (List Request)} (h:TD t v Q R) (q z:Option (List Request)) (tag:Int) (hq:((ol q).length:Int) < 900000) (hz:((ol z).length:Int) < 900000) (r:Root) (st:St) (d:Option Nat) {X Y:AV} (hx:expo1 st X=some (ov csRequest q)) (hy:expo1 st Y=some (ov csRequest z)) :
 callFn (callL Tryz.prog) 85 [.agg (cState (rqS t X Y tag)),.agg (cRoot r)] st d=some { dst:=d,val:=.v (.bool (decide (OptN v.ns r)))}:=by
 rw[callFn_Q,List.map_cons,List.map_cons,List.map_nil,expo_rq h st hx hy,expo_root,optAll_some,optAll_some,optAll_nil]
 exact Q_bool (c85 (h.rq q z tag hq hz) r)
theorem oi86 {call:Nat→List AV→Option AV} {inl:Nat→List AV→St→Option (AV × St)} {ops:Array Oper} {st:St} {T:Nat} {pos:String} {aft:Array Edge} (x:Array Operand) (y:Array Nat) :
 evOpI Tryz.prog true call inl ops ⟨some 50,.call ⟨.value (.func 86),x,y⟩,T,pos,aft,none⟩ st=bnd (inl 86 (x.toList.map st.ev) st) fun r=>some ((st.back r.2).put (some 50) r.1):=oi_inl 86 x y (inl_some rfl)
noncomputable def dueP (t:State) (ns:List Node) (Q R:Option (List Request)):(Option (List Request) × Int) × List Request:=dueF ns t.store.now ((Q,t.nextTag),[]) (ol R)
noncomputable def dueS (t:State) (ns:List Node) (Q R:Option (List Request)):State:=rqS t (ov csRequest (dueP t ns Q R).1.1) (ov csRequest (nz (dueP t ns Q R).2)) (dueP t ns Q R).1.2
theorem rq_req (t:State) (X Y:AV) (tag:Int):(rqS t X Y tag).requests=X:=rfl
theorem rq_ret (t:State) (X Y:AV) (tag:Int):(rqS t X Y tag).retries=Y:=rfl
theorem rq_tag (t:State) (X Y:AV) (tag:Int):(rqS t X Y tag).nextTag=tag:=rfl
theorem rq_sto (t:State) (X Y:AV) (tag:Int):(rqS t X Y tag).store=t.store:=rfl
theorem c74 {t:State} {v:SV} {Q R:Option (List Request)} (h:TD t v Q R) (hn:((ol Q).length:Int)+(ol R).length < 800000):callL Tryz.prog 74 [.agg (cState t)]=some (.agg (cState (dueS t v.ns Q R))):=by
 have hfl:=h.fl
 have nR:=h.nR
 have hlen:∀ k:Nat,(ol (dueF v.ns t.store.now ((Q,t.nextTag),[]) ((ol R).take k)).1.1).length≤(ol Q).length+(ol R).length∧(dueF v.ns t.store.now ((Q,t.nextTag),[]) ((ol R).take k)).2.length≤(ol R).length:=fun k=>by
  have h1:=dueF_len v.ns t.store.now ((ol R).take k) ((Q,t.nextTag),[])
  have h2:=List.length_take_le' k (ol R)
  have e:(ol ((Q,t.nextTag),([]:List Request)).1.1).length=(ol Q).length:=rfl
  have e2:((Q,t.nextTag),([]:List Request)).2.length=0:=rfl
  rw[e,e2] at h1
  omega
 rw[cG Tryz.func74 rfl ok74 (by kernel_rfl) rfl]
 refine ex_eq ?_
 simp only[ZG,seval,Bool.false_and,Prod.mk.injEq,DY74,h.ret]
 refine use_loopG (fun m st=>∃ (k:Nat) (X Y:AV) (p:(Option (List Request) × Int) × List Request),(st.env 1=.ptr 1 0 0∧st.heap 1 0=some (.cells (cState (rqS t X Y p.1.2)))∧st.env 2=.ptr 2 0 0∧st.heap 2 0=some (.cells (cState zState))∧st.env 3=ov csRequest R∧st.env 4=.v (.int .i64 k)∧0 < st.cnt 1∧0 < st.cnt 2)∧(X=ov csRequest p.1.1∨∃ g L,p.1.1=some L∧X=.own 19 g∧g < st.cnt 19∧st.heap 19 g=some (.row 63 35 L.length (csRequest L)))∧((Y=.v (.slice none 0 0)∧p.2=[])∨∃ g,p.2≠[]∧Y=.own 30 g∧g < st.cnt 30∧st.heap 30 g=some (.row 63 35 p.2.length (csRequest p.2)))∧p=dueF v.ns t.store.now ((Q,t.nextTag),[]) ((ol R).take k)∧k≤(ol R).length∧m=(ol R).length - k)
  (fun e st=>e=.exit 0∧∃ (X Y:AV) (p:(Option (List Request) × Int) × List Request),(st.env 1=.ptr 1 0 0∧st.heap 1 0=some (.cells (cState (rqS t X Y p.1.2)))∧st.env 2=.ptr 2 0 0∧st.heap 2 0=some (.cells (cState zState)))∧(X=ov csRequest p.1.1∨∃ g L,p.1.1=some L∧X=.own 19 g∧st.heap 19 g=some (.row 63 35 L.length (csRequest L)))∧((Y=.v (.slice none 0 0)∧p.2=[])∨∃ g,p.2≠[]∧Y=.own 30 g∧st.heap 30 g=some (.row 63 35 p.2.length (csRequest p.2)))∧p=dueP t v.ns Q R) (ol R).length ?step ?start ?rest
 case step =>
  rintro m st ⟨k,X,Y,p,hI,hX,hY,hp,hk,hm⟩
  by_cases hlt:(k:Int) < (ol R).length
  case neg =>
   have hkn:k=(ol R).length:=by omega
   rw[hkn,List.take_length] at hp
   have hX':(X=ov csRequest p.1.1∨∃ g L,p.1.1=some L∧X=.own 19 g∧st.heap 19 g=some (.row 63 35 L.length (csRequest L))):=hX.imp id fun ⟨g,L,a,b,_,c⟩=>⟨g,L,a,b,c⟩
   have hY':((Y=.v (.slice none 0 0)∧p.2=[])∨∃ g,p.2≠[]∧Y=.own 30 g∧st.heap 30 g=some (.row 63 35 p.2.length (csRequest p.2))):=hY.imp id fun ⟨g,a,b,_,c⟩=>⟨g,a,b,c⟩
   apply oTG (.exit 0)
   ·simp only[ZG,seval,Bool.false_and,Prod.mk.injEq,DY74,hI,hlt]
    rfl
   ·exact⟨rfl,X,Y,p,by simp only[E8,seval,hI],by simpa only[E8,seval] using hX',by simpa only[E8,seval] using hY',hp⟩
  have q0:(0:Int)≤k:=by omega
  have hw:IntKind.i64.wrap ((k:Int)+1)=((k+1:Nat):Int):=by rw[w64 _ (by omega) (by omega)];omega
  have hs:=dueF_step v.ns t.store.now ((Q,t.nextTag),[]) (ol R) k (by omega)
  have hl:=hlen k
  have hl1:=hlen (k+1)
  rw[← hp] at hs hl
  obtain⟨r,er⟩:∃ r,gx zRequest (ol R) (k:Int)=r:=⟨_,rfl⟩
  rw[er] at hs
  unfold dueR at hs
  have nQ9:((ol p.1.1).length:Int) < 900000:=by omega
  have nZ9:(p.2.length:Int) < 900000:=by omega
  have nZ:(p.2.length:Int) < 1000000:=by omega
  by_cases g1:t.store.now < r.due
  ·rw[if_pos g1] at hs
   rcases hY with ⟨rfl,hz⟩ | ⟨g,hz,rfl,hg,hh⟩
   ·apply oNG ((ol R).length - (k+1))
    ·simp only[ZG,seval,Bool.false_and,Prod.mk.injEq,DY74,hI,hlt,q0,er,rq_req,rq_ret,rq_tag,rq_sto,g1,hw]
     rfl
    ·exact⟨k+1,X,_,(p.1,p.2 ++ [r]),by and_intros<;>(simp only[E8,seval,hI]<;>rfl),by simpa only[E8,seval] using hX,.inr ⟨_,by simp,rfl,by simp only[E8,seval]<;>omega,by rw[hz];simp only[E8,seval]<;>rfl⟩,hs.symm,by omega,rfl⟩
   ·have hgn:(g=st.cnt 30)=False:=eq_false (by omega)
    apply oNG ((ol R).length - (k+1))
    ·simp only[ZG,seval,Bool.false_and,Prod.mk.injEq,DY74,hI,hlt,q0,er,rq_req,rq_ret,rq_tag,rq_sto,hh,hgn,g1,hw,aooRequest1 _ _ _ _ nZ]
     rfl
    ·exact⟨k+1,X,_,(p.1,p.2 ++ [r]),by and_intros<;>(simp only[E8,seval,hI]<;>rfl),by simpa only[E8,seval] using hX,.inr ⟨_,by simp,rfl,by simp only[E8,seval]<;>omega,by simp only[E8,seval]<;>rfl⟩,hs.symm,by omega,rfl⟩
  rw[if_neg g1] at hs
  by_cases g2:OptN v.ns r.block
  case neg =>
   rw[if_neg g2] at hs
   rcases hX with rfl | ⟨g,L,hL,rfl,hg,hh⟩
   ·rcases hY with ⟨rfl,hz⟩ | ⟨g9,hz,rfl,hg9,hh9⟩
    ·have k85x:∀ (st:St) (d:Option Nat),callFn (callL Tryz.prog) 85 [.agg (cState (rqS t (ov csRequest p.1.1) (.v (.slice none 0 0)) p.1.2)),.agg (cRoot r.block)] st d=some { dst:=d,val:=.v (.bool (decide (OptN v.ns r.block)))}:=fun st d=>k85g h p.1.1 none p.1.2 nQ9 (by show ((0:Nat):Int) < _;omega) r.block st d (expo1_ov _) (show expo1 st (.v (.slice none 0 0))=some (ov csRequest none) from expo1_ov none)
     apply oNG ((ol R).length - (k+1))
     ·simp only[ZG,seval,Bool.false_and,Prod.mk.injEq,DY74,hI,hlt,q0,er,rq_req,rq_ret,rq_tag,rq_sto,g1,k85x,g2,hw]
      rfl
     ·exact⟨k+1,_,_,p,by and_intros<;>(simp only[E8,seval,hI]<;>rfl),.inl rfl,.inl ⟨rfl,hz⟩,hs.symm,by omega,rfl⟩
    ·have k85x:∀ (st:St) (d:Option Nat),st.heap 30 g9=some (.row 63 35 p.2.length (csRequest p.2))→callFn (callL Tryz.prog) 85 [.agg (cState (rqS t (ov csRequest p.1.1) (.own 30 g9) p.1.2)),.agg (cRoot r.block)] st d=some { dst:=d,val:=.v (.bool (decide (OptN v.ns r.block)))}:=fun st d h2=>k85g h p.1.1 (some p.2) p.1.2 nQ9 nZ9 r.block st d (expo1_ov _) (show expo1 st (.own 30 g9)=some (ov csRequest (some p.2)) from expo1_own h2)
     apply oNG ((ol R).length - (k+1))
     ·simp only[ZG,seval,Bool.false_and,Prod.mk.injEq,DY74,hI,hlt,q0,er,rq_req,rq_ret,rq_tag,rq_sto,g1,k85x,hh9,g2,hw]
      rfl
     ·exact⟨k+1,_,_,p,by and_intros<;>(simp only[E8,seval,hI]<;>rfl),.inl rfl,.inr ⟨g9,hz,rfl,by simp only[E8,seval]<;>omega,by simp only[E8,seval,hh9]⟩,hs.symm,by omega,rfl⟩
   ·rcases hY with ⟨rfl,hz⟩ | ⟨g9,hz,rfl,hg9,hh9⟩
    ·have k85x:∀ (st:St) (d:Option Nat),st.heap 19 g=some (.row 63 35 L.length (csRequest L))→callFn (callL Tryz.prog) 85 [.agg (cState (rqS t (.own 19 g) (.v (.slice none 0 0)) p.1.2)),.agg (cRoot r.block)] st d=some { dst:=d,val:=.v (.bool (decide (OptN v.ns r.block)))}:=fun st d h1=>k85g h p.1.1 none p.1.2 nQ9 (by show ((0:Nat):Int) < _;omega) r.block st d (by rw[hL];exact expo1_own h1) (show expo1 st (.v (.slice none 0 0))=some (ov csRequest none) from expo1_ov none)
     apply oNG ((ol R).length - (k+1))
     ·simp only[ZG,seval,Bool.false_and,Prod.mk.injEq,DY74,hI,hlt,q0,er,rq_req,rq_ret,rq_tag,rq_sto,g1,k85x,hh,g2,hw]
      rfl
     ·exact⟨k+1,_,_,p,by and_intros<;>(simp only[E8,seval,hI]<;>rfl),.inr ⟨g,L,hL,rfl,by simp only[E8,seval]<;>omega,by simp only[E8,seval,hh]⟩,.inl ⟨rfl,hz⟩,hs.symm,by omega,rfl⟩
    ·have k85x:∀ (st:St) (d:Option Nat),st.heap 19 g=some (.row 63 35 L.length (csRequest L))→st.heap 30 g9=some (.row 63 35 p.2.length (csRequest p.2))→callFn (callL Tryz.prog) 85 [.agg (cState (rqS t (.own 19 g) (.own 30 g9) p.1.2)),.agg (cRoot r.block)] st d=some { dst:=d,val:=.v (.bool (decide (OptN v.ns r.block)))}:=fun st d h1 h2=>k85g h p.1.1 (some p.2) p.1.2 nQ9 nZ9 r.block st d (by rw[hL];exact expo1_own h1) (show expo1 st (.own 30 g9)=some (ov csRequest (some p.2)) from expo1_own h2)
     apply oNG ((ol R).length - (k+1))
     ·simp only[ZG,seval,Bool.false_and,Prod.mk.injEq,DY74,hI,hlt,q0,er,rq_req,rq_ret,rq_tag,rq_sto,g1,k85x,hh,hh9,g2,hw]
      rfl
     ·exact⟨k+1,_,_,p,by and_intros<;>(simp only[E8,seval,hI]<;>rfl),.inr ⟨g,L,hL,rfl,by simp only[E8,seval]<;>omega,by simp only[E8,seval,hh]⟩,.inr ⟨g9,hz,rfl,by simp only[E8,seval]<;>omega,by simp only[E8,seval,hh9]⟩,hs.symm,by omega,rfl⟩
  rw[if_pos g2] at hs
  rcases hX with rfl | ⟨g,L,hL,rfl,hg,hh⟩
  ·rcases hY with ⟨rfl,hz⟩ | ⟨g9,hz,rfl,hg9,hh9⟩
   ·have k85x:∀ (st:St) (d:Option Nat),callFn (callL Tryz.prog) 85 [.agg (cState (rqS t (ov csRequest p.1.1) (.v (.slice none 0 0)) p.1.2)),.agg (cRoot r.block)] st d=some { dst:=d,val:=.v (.bool (decide (OptN v.ns r.block)))}:=fun st d=>k85g h p.1.1 none p.1.2 nQ9 (by show ((0:Nat):Int) < _;omega) r.block st d (expo1_ov _) (show expo1 st (.v (.slice none 0 0))=some (ov csRequest none) from expo1_ov none)
    obtain⟨G,hG⟩:=inl86 t (.v (.slice none 0 0)) p.1.1 p.1.2 (by omega) r.block r.tries
    have kG:=fun st=>(hG st).1
    have f1:∀ st:St,0 < st.cnt 1→(G st).heap 1 0=st.heap 1 0:=fun st h=>(hG st).2.1.1 1 0 h
    have f2:∀ st:St,0 < st.cnt 2→(G st).heap 2 0=st.heap 2 0:=fun st h=>(hG st).2.1.1 2 0 h
    have c1:∀ st:St,0 < st.cnt 1→(0 < (G st).cnt 1)=True:=fun st h=>eq_true (Nat.lt_of_lt_of_le h ((hG st).2.1.2 1))
    have c2:∀ st:St,0 < st.cnt 2→(0 < (G st).cnt 2)=True:=fun st h=>eq_true (Nat.lt_of_lt_of_le h ((hG st).2.1.2 2))
    have fn:∀ (st:St) (c:Nat),c=st.cnt 19→(G st).heap 19 c=_:=fun st c e=>e ▸ (hG st).2.2.1
    have cn:∀ (st:St) (c:Nat),c=st.cnt 19→(c < (G st).cnt 19)=True:=fun st c e=>e ▸ eq_true (hG st).2.2.2
    apply oNG ((ol R).length - (k+1))
    ·simp only[ZG,seval,Bool.false_and,Prod.mk.injEq,DY74,hI,hlt,q0,er,rq_req,rq_ret,rq_tag,rq_sto,g1,k85x,g2,oi86,kG,f1,back_env,back_heap,back_cnt,hw]
     rfl
    ·exact⟨k+1,_,_,((some (ol p.1.1 ++ [(⟨⟨p.1.2⟩,r.block,r.tries,0⟩:Request)]),IntKind.u64.wrap (p.1.2+1)),p.2),⟨by simp only[E8,seval,hI,back_env],by simp only[E8,seval,hI,back_heap,back_cnt]<;>rfl,by simp only[E8,seval,hI,back_env],by simp only[E8,seval,hI,back_heap,back_cnt,f2],by simp only[E8,seval,hI,back_env],by simp only[E8,seval,hI,back_env],by simp only[E8,seval,hI,back_cnt,c1],by simp only[E8,seval,hI,back_cnt,c2]⟩,.inr ⟨_,(ol p.1.1 ++ [(⟨⟨p.1.2⟩,r.block,r.tries,0⟩:Request)]),rfl,rfl,by simp only[E8,seval,back_cnt,cn],by simp only[E8,seval,back_heap,back_cnt,fn]⟩,.inl ⟨rfl,hz⟩,hs.symm,by omega,rfl⟩
   ·have k85x:∀ (st:St) (d:Option Nat),st.heap 30 g9=some (.row 63 35 p.2.length (csRequest p.2))→callFn (callL Tryz.prog) 85 [.agg (cState (rqS t (ov csRequest p.1.1) (.own 30 g9) p.1.2)),.agg (cRoot r.block)] st d=some { dst:=d,val:=.v (.bool (decide (OptN v.ns r.block)))}:=fun st d h2=>k85g h p.1.1 (some p.2) p.1.2 nQ9 nZ9 r.block st d (expo1_ov _) (show expo1 st (.own 30 g9)=some (ov csRequest (some p.2)) from expo1_own h2)
    obtain⟨G,hG⟩:=inl86 t (.own 30 g9) p.1.1 p.1.2 (by omega) r.block r.tries
    have kG:=fun st=>(hG st).1
    have f1:∀ st:St,0 < st.cnt 1→(G st).heap 1 0=st.heap 1 0:=fun st h=>(hG st).2.1.1 1 0 h
    have f2:∀ st:St,0 < st.cnt 2→(G st).heap 2 0=st.heap 2 0:=fun st h=>(hG st).2.1.1 2 0 h
    have c1:∀ st:St,0 < st.cnt 1→(0 < (G st).cnt 1)=True:=fun st h=>eq_true (Nat.lt_of_lt_of_le h ((hG st).2.1.2 1))
    have c2:∀ st:St,0 < st.cnt 2→(0 < (G st).cnt 2)=True:=fun st h=>eq_true (Nat.lt_of_lt_of_le h ((hG st).2.1.2 2))
    have fn:∀ (st:St) (c:Nat),c=st.cnt 19→(G st).heap 19 c=_:=fun st c e=>e ▸ (hG st).2.2.1
    have cn:∀ (st:St) (c:Nat),c=st.cnt 19→(c < (G st).cnt 19)=True:=fun st c e=>e ▸ eq_true (hG st).2.2.2
    have f3:∀ st:St,g9 < st.cnt 30→(G st).heap 30 g9=st.heap 30 g9:=fun st h=>(hG st).2.1.1 30 g9 h
    have c3:∀ st:St,g9 < st.cnt 30→(g9 < (G st).cnt 30)=True:=fun st h=>eq_true (Nat.lt_of_lt_of_le h ((hG st).2.1.2 30))
    apply oNG ((ol R).length - (k+1))
    ·simp only[ZG,seval,Bool.false_and,Prod.mk.injEq,DY74,hI,hlt,q0,er,rq_req,rq_ret,rq_tag,rq_sto,g1,k85x,hh9,g2,oi86,kG,f1,back_env,back_heap,back_cnt,hw]
     rfl
    ·exact⟨k+1,_,_,((some (ol p.1.1 ++ [(⟨⟨p.1.2⟩,r.block,r.tries,0⟩:Request)]),IntKind.u64.wrap (p.1.2+1)),p.2),⟨by simp only[E8,seval,hI,back_env],by simp only[E8,seval,hI,back_heap,back_cnt]<;>rfl,by simp only[E8,seval,hI,back_env],by simp only[E8,seval,hI,back_heap,back_cnt,f2],by simp only[E8,seval,hI,back_env],by simp only[E8,seval,hI,back_env],by simp only[E8,seval,hI,back_cnt,c1],by simp only[E8,seval,hI,back_cnt,c2]⟩,.inr ⟨_,(ol p.1.1 ++ [(⟨⟨p.1.2⟩,r.block,r.tries,0⟩:Request)]),rfl,rfl,by simp only[E8,seval,back_cnt,cn],by simp only[E8,seval,back_heap,back_cnt,fn]⟩,.inr ⟨g9,hz,rfl,by simp only[E8,seval,back_cnt,hg9,c3],by simp only[E8,seval,back_heap,back_cnt,hg9,hh9,f3]⟩,hs.symm,by omega,rfl⟩
  ·rcases hY with ⟨rfl,hz⟩ | ⟨g9,hz,rfl,hg9,hh9⟩
   ·have k85x:∀ (st:St) (d:Option Nat),st.heap 19 g=some (.row 63 35 L.length (csRequest L))→callFn (callL Tryz.prog) 85 [.agg (cState (rqS t (.own 19 g) (.v (.slice none 0 0)) p.1.2)),.agg (cRoot r.block)] st d=some { dst:=d,val:=.v (.bool (decide (OptN v.ns r.block)))}:=fun st d h1=>k85g h p.1.1 none p.1.2 nQ9 (by show ((0:Nat):Int) < _;omega) r.block st d (by rw[hL];exact expo1_own h1) (show expo1 st (.v (.slice none 0 0))=some (ov csRequest none) from expo1_ov none)
    have nL:(L.length:Int) < 1000000:=by rw[hL] at nQ9;have:(L.length:Int) < 900000:=nQ9;omega
    obtain⟨G,hG⟩:=inl86o t (.v (.slice none 0 0)) g L p.1.2 nL r.block r.tries
    have kG:∀ st:St,st.heap 19 g=some (.row 63 35 L.length (csRequest L))→g < st.cnt 19→_:=fun st a b=>(hG st ⟨a,b⟩).1
    have f1:∀ st:St,st.heap 19 g=some (.row 63 35 L.length (csRequest L))→g < st.cnt 19→0 < st.cnt 1→(G st).heap 1 0=st.heap 1 0:=fun st a b h=>(hG st ⟨a,b⟩).2.1.1 1 0 h
    have f2:∀ st:St,st.heap 19 g=some (.row 63 35 L.length (csRequest L))→g < st.cnt 19→0 < st.cnt 2→(G st).heap 2 0=st.heap 2 0:=fun st a b h=>(hG st ⟨a,b⟩).2.1.1 2 0 h
    have c1:∀ st:St,st.heap 19 g=some (.row 63 35 L.length (csRequest L))→g < st.cnt 19→0 < st.cnt 1→(0 < (G st).cnt 1)=True:=fun st a b h=>eq_true (Nat.lt_of_lt_of_le h ((hG st ⟨a,b⟩).2.1.2 1))
    have c2:∀ st:St,st.heap 19 g=some (.row 63 35 L.length (csRequest L))→g < st.cnt 19→0 < st.cnt 2→(0 < (G st).cnt 2)=True:=fun st a b h=>eq_true (Nat.lt_of_lt_of_le h ((hG st ⟨a,b⟩).2.1.2 2))
    have fn:∀ (st:St) (c:Nat),st.heap 19 g=some (.row 63 35 L.length (csRequest L))→g < st.cnt 19→c=st.cnt 19→(G st).heap 19 c=_:=fun st c a b e=>e ▸ (hG st ⟨a,b⟩).2.2.1
    have cn:∀ (st:St) (c:Nat),st.heap 19 g=some (.row 63 35 L.length (csRequest L))→g < st.cnt 19→c=st.cnt 19→(c < (G st).cnt 19)=True:=fun st c a b e=>e ▸ eq_true (hG st ⟨a,b⟩).2.2.2
    have eL:ol p.1.1=L:=by rw[hL];rfl
    rw[eL] at hs
    apply oNG ((ol R).length - (k+1))
    ·simp only[ZG,seval,Bool.false_and,Prod.mk.injEq,DY74,hI,hlt,q0,er,rq_req,rq_ret,rq_tag,rq_sto,g1,k85x,hh,hg,g2,oi86,kG,f1,back_env,back_heap,back_cnt,hw]
     rfl
    ·exact⟨k+1,_,_,((some (L ++ [(⟨⟨p.1.2⟩,r.block,r.tries,0⟩:Request)]),IntKind.u64.wrap (p.1.2+1)),p.2),⟨by simp only[E8,seval,hI,back_env],by simp only[E8,seval,hI,back_heap,back_cnt]<;>rfl,by simp only[E8,seval,hI,back_env],by simp only[E8,seval,hI,hh,hg,back_heap,back_cnt,f2],by simp only[E8,seval,hI,back_env],by simp only[E8,seval,hI,back_env],by simp only[E8,seval,hI,hh,hg,back_cnt,c1],by simp only[E8,seval,hI,hh,hg,back_cnt,c2]⟩,.inr ⟨_,(L ++ [(⟨⟨p.1.2⟩,r.block,r.tries,0⟩:Request)]),rfl,rfl,by simp only[E8,seval,back_cnt,hh,hg,cn],by simp only[E8,seval,back_heap,back_cnt,hh,hg,fn]⟩,.inl ⟨rfl,hz⟩,hs.symm,by omega,rfl⟩
   ·have k85x:∀ (st:St) (d:Option Nat),st.heap 19 g=some (.row 63 35 L.length (csRequest L))→st.heap 30 g9=some (.row 63 35 p.2.length (csRequest p.2))→callFn (callL Tryz.prog) 85 [.agg (cState (rqS t (.own 19 g) (.own 30 g9) p.1.2)),.agg (cRoot r.block)] st d=some { dst:=d,val:=.v (.bool (decide (OptN v.ns r.block)))}:=fun st d h1 h2=>k85g h p.1.1 (some p.2) p.1.2 nQ9 nZ9 r.block st d (by rw[hL];exact expo1_own h1) (show expo1 st (.own 30 g9)=some (ov csRequest (some p.2)) from expo1_own h2)
    have nL:(L.length:Int) < 1000000:=by rw[hL] at nQ9;have:(L.length:Int) < 900000:=nQ9;omega
    obtain⟨G,hG⟩:=inl86o t (.own 30 g9) g L p.1.2 nL r.block r.tries
    have kG:∀ st:St,st.heap 19 g=some (.row 63 35 L.length (csRequest L))→g < st.cnt 19→_:=fun st a b=>(hG st ⟨a,b⟩).1
    have f1:∀ st:St,st.heap 19 g=some (.row 63 35 L.length (csRequest L))→g < st.cnt 19→0 < st.cnt 1→(G st).heap 1 0=st.heap 1 0:=fun st a b h=>(hG st ⟨a,b⟩).2.1.1 1 0 h
    have f2:∀ st:St,st.heap 19 g=some (.row 63 35 L.length (csRequest L))→g < st.cnt 19→0 < st.cnt 2→(G st).heap 2 0=st.heap 2 0:=fun st a b h=>(hG st ⟨a,b⟩).2.1.1 2 0 h
    have c1:∀ st:St,st.heap 19 g=some (.row 63 35 L.length (csRequest L))→g < st.cnt 19→0 < st.cnt 1→(0 < (G st).cnt 1)=True:=fun st a b h=>eq_true (Nat.lt_of_lt_of_le h ((hG st ⟨a,b⟩).2.1.2 1))
    have c2:∀ st:St,st.heap 19 g=some (.row 63 35 L.length (csRequest L))→g < st.cnt 19→0 < st.cnt 2→(0 < (G st).cnt 2)=True:=fun st a b h=>eq_true (Nat.lt_of_lt_of_le h ((hG st ⟨a,b⟩).2.1.2 2))
    have fn:∀ (st:St) (c:Nat),st.heap 19 g=some (.row 63 35 L.length (csRequest L))→g < st.cnt 19→c=st.cnt 19→(G st).heap 19 c=_:=fun st c a b e=>e ▸ (hG st ⟨a,b⟩).2.2.1
    have cn:∀ (st:St) (c:Nat),st.heap 19 g=some (.row 63 35 L.length (csRequest L))→g < st.cnt 19→c=st.cnt 19→(c < (G st).cnt 19)=True:=fun st c a b e=>e ▸ eq_true (hG st ⟨a,b⟩).2.2.2
    have f3:∀ st:St,st.heap 19 g=some (.row 63 35 L.length (csRequest L))→g < st.cnt 19→g9 < st.cnt 30→(G st).heap 30 g9=st.heap 30 g9:=fun st a b h=>(hG st ⟨a,b⟩).2.1.1 30 g9 h
    have c3:∀ st:St,st.heap 19 g=some (.row 63 35 L.length (csRequest L))→g < st.cnt 19→g9 < st.cnt 30→(g9 < (G st).cnt 30)=True:=fun st a b h=>eq_true (Nat.lt_of_lt_of_le h ((hG st ⟨a,b⟩).2.1.2 30))
    have eL:ol p.1.1=L:=by rw[hL];rfl
    rw[eL] at hs
    apply oNG ((ol R).length - (k+1))
    ·simp only[ZG,seval,Bool.false_and,Prod.mk.injEq,DY74,hI,hlt,q0,er,rq_req,rq_ret,rq_tag,rq_sto,g1,k85x,hh,hh9,hg,g2,oi86,kG,f1,back_env,back_heap,back_cnt,hw]
     rfl
    ·exact⟨k+1,_,_,((some (L ++ [(⟨⟨p.1.2⟩,r.block,r.tries,0⟩:Request)]),IntKind.u64.wrap (p.1.2+1)),p.2),⟨by simp only[E8,seval,hI,back_env],by simp only[E8,seval,hI,back_heap,back_cnt]<;>rfl,by simp only[E8,seval,hI,back_env],by simp only[E8,seval,hI,hh,hg,back_heap,back_cnt,f2],by simp only[E8,seval,hI,back_env],by simp only[E8,seval,hI,back_env],by simp only[E8,seval,hI,hh,hg,back_cnt,c1],by simp only[E8,seval,hI,hh,hg,back_cnt,c2]⟩,.inr ⟨_,(L ++ [(⟨⟨p.1.2⟩,r.block,r.tries,0⟩:Request)]),rfl,rfl,by simp only[E8,seval,back_cnt,hh,hg,cn],by simp only[E8,seval,back_heap,back_cnt,hh,hg,fn]⟩,.inr ⟨g9,hz,rfl,by simp only[E8,seval,back_cnt,hg9,hh,hg,c3],by simp only[E8,seval,back_heap,back_cnt,hg9,hh9,hh,hg,f3]⟩,hs.symm,by omega,rfl⟩
 case start=>exact⟨0,ov csRequest Q,.v (.slice none 0 0),((Q,t.nextTag),[]),⟨by simp only[E8,seval],by simp only[E8,seval,h.req]<;>rfl,by simp only[E8,seval],by simp only[E8,seval],by simp only[E8,seval],by simp only[E8,seval]<;>rfl,by simp only[E8,seval]<;>omega,by simp only[E8,seval]<;>omega⟩,.inl rfl,.inl ⟨rfl,rfl⟩,rfl,by omega,by omega⟩
 case rest =>
  rintro e st ⟨rfl,X,Y,p,hI,hX,hY,hp⟩
  have hv:dueS t v.ns Q R=rqS t (ov csRequest p.1.1) (ov csRequest (nz p.2)) p.1.2:=by unfold dueS;rw[← hp]
  have hex:∀ st:St,∀ X' Y',expo1 st X=some X'→expo1 st Y=some Y'→expo st (.agg (cState (rqS t X Y p.1.2)))=some (.agg (cState (rqS t X' Y' p.1.2))):=fun st X' Y' hx hy=>expo_rq h st hx hy p.1.2
  rcases hX with rfl | ⟨g,L,hL,rfl,hh⟩
  ·rcases hY with ⟨rfl,hz⟩ | ⟨g9,hz,rfl,hh9⟩
   ·rw[hz,show nz ([]:List Request)=none from if_pos rfl] at hv
    simp only[ZG,seval,Bool.false_and,Prod.mk.injEq,DY74,hI]
    exact⟨_,xcellx rfl (by simp only[E8,seval,hI]<;>rfl) (by simp only[ZG,seval,hI]<;>rfl) (hex _ _ _ (expo1_ov _) (expo1_ov none)),by rw[hv]⟩
   ·rw[show nz p.2=some p.2 from if_neg hz] at hv
    simp only[ZG,seval,Bool.false_and,Prod.mk.injEq,DY74,hI,hh9]
    exact⟨_,xcellx rfl (by simp only[E8,seval,hI]<;>rfl) (by simp only[ZG,seval,hI]<;>rfl) (hex _ _ _ (expo1_ov _) (expo1_own (by simp only[E8,seval,hh9]<;>rfl))),by rw[hv]⟩
  ·rcases hY with ⟨rfl,hz⟩ | ⟨g9,hz,rfl,hh9⟩
   ·rw[hz,show nz ([]:List Request)=none from if_pos rfl,hL] at hv
    simp only[ZG,seval,Bool.false_and,Prod.mk.injEq,DY74,hI,hh]
    exact⟨_,xcellx rfl (by simp only[E8,seval,hI]<;>rfl) (by simp only[ZG,seval,hI]<;>rfl) (hex _ _ _ (expo1_own (by simp only[E8,seval,hh]<;>rfl)) (expo1_ov none)),by rw[hv]⟩
   ·rw[show nz p.2=some p.2 from if_neg hz,hL] at hv
    simp only[ZG,seval,Bool.false_and,Prod.mk.injEq,DY74,hI,hh,hh9]
    exact⟨_,xcellx rfl (by simp only[E8,seval,hI]<;>rfl) (by simp only[ZG,seval,hI]<;>rfl) (hex _ _ _ (expo1_own (by simp only[E8,seval,hh]<;>rfl)) (expo1_own (by simp only[E8,seval,hh9]<;>rfl))),by rw[hv]⟩
theorem i64_le (x:Int):IntKind.i64.wrap x≤9223372036854775807:=by
 rw[IntKind.wrap_i64];omega
def lessQ (a b:Request):Prop:=a.due < b.due∨(a.due=b.due∧a.tagged.tag < b.tagged.tag)
noncomputable def bubN:Nat→List Request→List Request
 | 0,l=>l
 | k+1,l=>if lessQ (gx zRequest l ((k+1:Nat):Int)) (gx zRequest l (k:Int)) then bubN k ((l.set (k+1) (gx zRequest l (k:Int))).set k (gx zRequest l ((k+1:Nat):Int))) else l
theorem bubN_len:∀ (k:Nat) (l:List Request),(bubN k l).length=l.length
 | 0,l=>rfl
 | k+1,l=>by
   unfold bubN
   split
   ·rw[bubN_len k,List.length_set,List.length_set]
   ·rfl
noncomputable def ltrQ (t:State) (r:Request):Request:={ r with tries:=IntKind.i64.wrap (r.tries+1),due:=IntKind.u64.wrap (t.store.now+dlyV (IntKind.i64.wrap (r.tries+1)) t.store.cFg.lim.backoff)}
noncomputable def ltrS (t:State) (ns:List Node) (R:List Request) (r:Request):State :=
 if ¬ OptN ns r.block then t else if t.store.cFg.lim.retryL≤(R.length:Int) then { t with overflow:=true } else { t with retries:=ov csRequest (some (bubN R.length (R ++ [ltrQ t r])))}
theorem c72 {t:State} {v:SV} {Q R:Option (List Request)} (h:TD t v Q R) (r:Request):callL Tryz.prog 72 [.agg (cState t),.agg (cRequest r)]=some (.agg (cState (ltrS t v.ns (ol R) r))):=by
 have hf:=h.flat
 have hfl:=h.fl
 have nR:=h.nR
 have nR1:((ol R).length:Int) < 1000000:=by omega
 have k85':=k85 h r.block
 have fr:Flat (.agg (cRequest r)):=.agg _ (flat_cRequest r)
 rw[cL Tryz.func72 rfl ok72 rfl]
 refine ex_eq ?_
 by_cases g1:OptN v.ns r.block
 case neg =>
  simp only[Z8,seval,k85',g1]
  exact⟨_,xcell rfl (by simp only[E8,seval,hf]<;>rfl) (by simp only[Z8,seval,hf]<;>rfl) (by simp only[FLb,and_self,hf]),by rw[ltrS,if_pos g1]⟩
 by_cases g2:t.store.cFg.lim.retryL≤((ol R).length:Int)
 ·have hf2:Flat (.agg (cState { t with overflow:=true })):=(fl_State _).2 hfl
  simp only[Z8,seval,k85',g1,h.ret,g2]
  exact⟨_,xcell rfl (by simp only[E8,seval,hfl]<;>rfl) (by simp only[Z8,seval,hfl]<;>rfl) (by simp only[FLb,and_self,hfl]),by rw[ltrS,if_neg (fun hh=>hh g1),if_pos g2,← h.ret]⟩
 have hv:ltrS t v.ns (ol R) r=_:=(if_neg (fun hh=>hh g1)).trans (if_neg g2)
 rw[hv]
 have k143':=k143 (IntKind.i64.wrap (r.tries+1)) t.store.cFg.lim.backoff (i64_le _)
 obtain⟨L0,hL0⟩:∃ L0,ol R ++ [ltrQ t r]=L0:=⟨_,rfl⟩
 have hlL:L0.length=(ol R).length+1:=by rw[← hL0,List.length_append,List.length_cons,List.length_nil]
 have hL0':ol R ++ [({ tagged:=r.tagged,block:=r.block,tries:=IntKind.i64.wrap (r.tries+1),due:=IntKind.u64.wrap (t.store.now+dlyV (IntKind.i64.wrap (r.tries+1)) t.store.cFg.lim.backoff)}:Request)]=L0:=hL0
 rw[hL0]
 have w1:IntKind.i64.wrap ((L0.length:Int) - 1)=((ol R).length:Int):=by rw[w64 _ (by omega) (by omega)];omega
 simp only[Z8,seval,k85',g1,h.ret,g2,k143',lapC,lapN,anoRequests _ nR1,aooRequest1 _ _ _ _ nR1,hL0',w1]
 refine use_loopX (fun m st=>∃ (k:Nat) (l:List Request),(st.env 2=.ptr 2 0 0∧st.heap 2 0=some (.cells (cState t))∧st.env 4=.ptr 4 0 0∧st.heap 4 0=some (.cells (cState zState))∧st.env 5=.own 46 0∧st.heap 46 0=some (.row 63 35 l.length (csRequest l))∧st.env 6=.v (.int .i64 k))∧bubN k l=bubN (ol R).length L0∧l.length=L0.length∧k≤(ol R).length∧m=k)
  (fun e st=>e=.exit 0∧∃ (l:List Request),(st.env 2=.ptr 2 0 0∧st.heap 2 0=some (.cells (cState t))∧st.env 4=.ptr 4 0 0∧st.heap 4 0=some (.cells (cState zState))∧st.env 5=.own 46 0∧st.heap 46 0=some (.row 63 35 l.length (csRequest l)))∧l=bubN (ol R).length L0) (ol R).length ?step ?start ?rest
 case step =>
  rintro m st ⟨k,l,hI,hb,hl,hk,hm⟩
  cases k with
  | zero =>
    have z0:¬ ((0:Int) < ((0:Nat):Int)):=by omega
    have hI':=hI
    apply oT (.exit 0)
    ·simp only[Z8,seval,hI,Int.lt_irrefl,lapC,lapN]
     rfl
    ·exact⟨rfl,l,by simp only[E8,seval,hI],by rw[← hb];rfl⟩
  | succ j =>
    obtain⟨i,hi⟩:∃ i:Int,i=((j+1:Nat):Int):=⟨_,rfl⟩
    obtain⟨i',hi'⟩:∃ i':Int,i'=(j:Int):=⟨_,rfl⟩
    rw[← hi] at hI
    have p0:(0:Int) < i:=by omega
    have p1:(0:Int)≤i:=by omega
    have p2:i < (l.length:Int):=by omega
    have q1:(0:Int)≤i':=by omega
    have q2:i' < (l.length:Int):=by omega
    have hw:IntKind.i64.wrap (i - 1)=i':=by rw[w64 _ (by omega) (by omega)];omega
    have ti:i.toNat=j+1:=by omega
    have ti':i'.toNat=j:=by omega
    obtain⟨a,ea⟩:∃ a,gx zRequest l i=a:=⟨_,rfl⟩
    obtain⟨b,eb⟩:∃ b,gx zRequest l i'=b:=⟨_,rfl⟩
    have d1:=ldsRequest (T:=23) (n:=l.length) (k:=1) (off:=34) p1 p2 lk23 (by decide) (by decide)
    have d2:=ldsRequest (T:=23) (n:=l.length) (k:=1) (off:=34) q1 q2 lk23 (by decide) (by decide)
    have d3:=ldaRequest (T:=23) (n:=l.length) (k:=1) p1 p2 lk23 (by decide) (by decide)
    have d4:=ldaRequest (T:=23) (n:=l.length) (k:=1) q1 q2 lk23 (by decide) (by decide)
    have d5:=ldaRequest (T:=63) (n:=l.length) (k:=35) p1 p2 lk63 (by decide) (by decide)
    have d6:=ldaRequest (T:=63) (n:=l.length) (k:=35) q1 q2 lk63 (by decide) (by decide)
    rw[ea] at d1 d3 d5
    rw[eb] at d2 d4 d6
    have hbub:∀ P:Prop,(lessQ a b↔P)→bubN (j+1) l=if P then bubN j ((l.set (j+1) b).set j a) else l:=fun P hP=>by
     have e1:gx zRequest l ((j+1:Nat):Int)=a:=by rw[← hi];exact ea
     have e2:gx zRequest l (j:Int)=b:=by rw[← hi'];exact eb
     have e0:bubN (j+1) l=if lessQ (gx zRequest l ((j+1:Nat):Int)) (gx zRequest l (j:Int)) then bubN j ((l.set (j+1) (gx zRequest l (j:Int))).set j (gx zRequest l ((j+1:Nat):Int))) else l:=rfl
     rw[e0,e1,e2]
     by_cases hh:lessQ a b
     ·rw[if_pos hh,if_pos (hP.1 hh)]
     ·rw[if_neg hh,if_neg (fun x=>hh (hP.2 x))]
    have x3:i.toNat * 35+35≤l.length * 35:=by omega
    have x4:i'.toNat * 35+35≤(l.set i.toNat b).length * 35:=by rw[List.length_set];omega
    have x4':i'.toNat * 35+35≤l.length * 35:=by omega
    have u1:=upsRequest l i b (by omega)
    have u2:=upsRequest (l.set i.toNat b) i' a (by rw[List.length_set];omega)
    have swp:(l.set i.toNat b).set i'.toNat a=(l.set (j+1) b).set j a:=by rw[ti,ti']
    by_cases g3:a.due < b.due
    ·have hb':=hbub True (iff_of_true (.inl g3) trivial)
     rw[if_pos trivial] at hb'
     apply oN (j)
     ·simp only[Z8,seval,hI,p0,p1,p2,q1,q2,hw,d1,d2,d3,d4,d5,d6,g3,x3,x4,x4',u1,u2,List.length_set,lapC,lapN]
      rfl
     ·exact⟨j,(l.set i.toNat b).set i'.toNat a,⟨by simp only[E8,seval,hI],by simp only[E8,seval,hI],by simp only[E8,seval,hI],by simp only[E8,seval,hI],by simp only[E8,seval,hI],by rw[List.length_set,List.length_set];simp only[E8,seval,List.length_set]<;>rfl,by simp only[E8,seval,hi']⟩,by rw[swp,← hb'];exact hb,by rw[List.length_set,List.length_set];exact hl,by omega,rfl⟩
    by_cases g4:a.due=b.due
    case neg =>
     have hb':=hbub False (iff_of_false (fun x=>x.elim g3 fun y=>g4 y.1) id)
     rw[if_neg id] at hb'
     apply oT (.exit 0)
     ·simp only[Z8,seval,hI,p0,p1,p2,q1,q2,hw,d1,d2,d3,d4,d5,d6,g3,bf g4,lapC,lapN]
      rfl
     ·exact⟨rfl,l,by simp only[E8,seval,hI],by rw[← hb,hb']⟩
    by_cases g5:a.tagged.tag < b.tagged.tag
    ·have hb':=hbub True (iff_of_true (.inr ⟨g4,g5⟩) trivial)
     rw[if_pos trivial] at hb'
     apply oN (j)
     ·simp only[Z8,seval,hI,p0,p1,p2,q1,q2,hw,d1,d2,d3,d4,d5,d6,g3,bt g4,g5,x3,x4,x4',u1,u2,List.length_set,lapC,lapN]
      rfl
     ·exact⟨j,(l.set i.toNat b).set i'.toNat a,⟨by simp only[E8,seval,hI],by simp only[E8,seval,hI],by simp only[E8,seval,hI],by simp only[E8,seval,hI],by simp only[E8,seval,hI],by rw[List.length_set,List.length_set];simp only[E8,seval,List.length_set]<;>rfl,by simp only[E8,seval,hi']⟩,by rw[swp,← hb'];exact hb,by rw[List.length_set,List.length_set];exact hl,by omega,rfl⟩
    ·have hb':=hbub False (iff_of_false (fun x=>x.elim g3 fun y=>g5 y.2) id)
     rw[if_neg id] at hb'
     apply oT (.exit 0)
     ·simp only[Z8,seval,hI,p0,p1,p2,q1,q2,hw,d1,d2,d3,d4,d5,d6,g3,bt g4,g5,lapC,lapN]
      rfl
     ·exact⟨rfl,l,by simp only[E8,seval,hI],by rw[← hb,hb']⟩
 case start=>exact⟨(ol R).length,L0,by simp only[E8,seval]<;>rfl,rfl,rfl,by omega,rfl⟩
 case rest =>
  rintro e st ⟨rfl,l,hI,hl⟩
  have hex:=exFRequest l.length l
  subst hl
  simp only[Z8,seval,hI]
  exact⟨_,by apply xcellx;rfl;all_goals simp only[keep_none,Z8,seval,hI,hex,hfl,expo_aggq,exq_State,exq_Store,expo1_ownF,expo1_id,exFRequest,FLb]<;>rfl,rfl⟩
theorem x146 {t:State} {v:SV} {Q R:Option (List Request)} {q:Int} (hT:TD t v Q R) (h:GI t.store v q) (r:RG t.store v) (hB:0 < (ol v.B).length∧(ol v.B).length≤64) (hq:∀ r∈ol Q,Rg r.tagged.tag) (n k:Int) (hk:0≤k) :
 ∃ x,callL Tryz.prog 146 [.agg (cState t),.v (.int .i64 n),.v (.int .i64 k)]=some x∧∃ y:OpS,x=.agg (cOpS y)∧OpOk y∧(y.kind=2→y.block.root=mkRoot n∨∃ m∈v.ns,y.block.root=m.block.root):=by
 have z:=zOk
 have hm:=fdiv_nn hk (min 4 IntKind.i64.bits)
 have hf:=hT.flat
 have hfs:=h.sd.flat
 obtain⟨x1,e1,b,rfl,rb⟩:=x50 h r n (k.fdiv (2 ^ min 4 IntKind.i64.bits)) hm
 obtain⟨x2,e2,a,V,rfl,hV,nV,ra1,ra2⟩:=x37 h r hB (k.fdiv (2 ^ min 4 IntKind.i64.bits)) hm
 obtain⟨x3,e3,sl,rfl,c1,c2,s1,s2,s3,s4⟩:=x182 (ol v.B).length (k.fdiv (2 ^ min 4 IntKind.i64.bits)) (by omega) (by omega)
 obtain⟨x4,e4,tb,bl,rfl,hb,nb,rbl,rt⟩:=x183 h r hB (k.fdiv (2 ^ min 4 IntKind.i64.bits)) hm
 obtain⟨x5,e5,w,rfl,rw5⟩:=x25 hT h hq (k.fdiv (2 ^ min 4 IntKind.i64.bits)) hm
 have fA:Flat a.vals:=by rw[hV];exact flat_ovInt _
 have fT:Flat tb.bal:=by rw[hb];exact flat_ovU64 _
 have k50:=kx e1 (flat3 hfs (.v _) (.v _)) (flatB b)
 have k37:=kx e2 (flat2 hfs (.v _)) ((fl_Att a).2 fA)
 have k182:=kx e3 (flat2 (.v _) (.v _)) ((fl_Slashing sl).2 ⟨(fl_Claim _).1 c1.fl,(fl_Claim _).1 c2.fl⟩)
 have k183:=kx e4 (flat2 hfs (.v _)) ((fl_Table tb).2 fT)
 have k25:=kx e5 (flat2 hf (.v _)) (.agg _ (flat_cVerdict w))
 have y1:OpOk { zOpS with kind:=1 }:=⟨z.att,z.c1,z.c2,z.tab,z.rb,z.ra,z.rs,z.rt,z.rv⟩
 have y2:OpOk { zOpS with kind:=2,block:=b }:=⟨z.att,z.c1,z.c2,z.tab,rb.toRB,z.ra,z.rs,z.rt,z.rv⟩
 have y3:OpOk { zOpS with kind:=3,att:=a }:=⟨⟨some V,hV,nV⟩,z.c1,z.c2,z.tab,z.rb,⟨ra1,ra2⟩,z.rs,z.rt,z.rv⟩
 have y4:OpOk { zOpS with kind:=4,slash:=sl }:=⟨z.att,c1,c2,z.tab,z.rb,z.ra,⟨s1,s2,s3,s4⟩,z.rt,z.rv⟩
 have y5:OpOk { zOpS with kind:=5,table:=tb }:=⟨z.att,z.c1,z.c2,⟨some bl,hb,nb,rbl⟩,z.rb,z.ra,z.rs,rt,z.rv⟩
 have y6:OpOk { zOpS with kind:=6,verdict:=w }:=⟨z.att,z.c1,z.c2,z.tab,z.rb,z.ra,z.rs,z.rt,rw5⟩
 rw[cL Tryz.func146 rfl ok146 rfl]
 by_cases c0:((k).tmod 16)=0
 ·simp only[Z8,seval,bt c0]
  exact⟨_,xcell rfl (by simp only[E8,seval]<;>rfl) (by simp only[Z8,seval]<;>rfl) y1.flat,_,rfl,y1,fun h=>absurd (show (1:Int)=2 from h) (by decide)⟩
 by_cases c1:((k).tmod 16)=1
 ·simp only[Z8,seval,bf c0,bt c1]
  exact⟨_,xcell rfl (by simp only[E8,seval]<;>rfl) (by simp only[Z8,seval]<;>rfl) y1.flat,_,rfl,y1,fun h=>absurd (show (1:Int)=2 from h) (by decide)⟩
 by_cases c2:((k).tmod 16)=2
 ·simp only[Z8,seval,bf c0,bf c1,bt c2]
  exact⟨_,xcell rfl (by simp only[E8,seval]<;>rfl) (by simp only[Z8,seval]<;>rfl) y1.flat,_,rfl,y1,fun h=>absurd (show (1:Int)=2 from h) (by decide)⟩
 by_cases c3:((k).tmod 16)=3
 ·simp only[Z8,seval,bf c0,bf c1,bf c2,bt c3,k50]
  exact⟨_,xcell rfl (by simp only[E8,seval]<;>rfl) (by simp only[Z8,seval]<;>rfl) y2.flat,_,rfl,y2,fun _=>rb.rt⟩
 by_cases c4:((k).tmod 16)=4
 ·simp only[Z8,seval,bf c0,bf c1,bf c2,bf c3,bt c4,k50]
  exact⟨_,xcell rfl (by simp only[E8,seval]<;>rfl) (by simp only[Z8,seval]<;>rfl) y2.flat,_,rfl,y2,fun _=>rb.rt⟩
 by_cases c5:((k).tmod 16)=5
 ·simp only[Z8,seval,bf c0,bf c1,bf c2,bf c3,bf c4,bt c5,k50]
  exact⟨_,xcell rfl (by simp only[E8,seval]<;>rfl) (by simp only[Z8,seval]<;>rfl) y2.flat,_,rfl,y2,fun _=>rb.rt⟩
 by_cases c6:((k).tmod 16)=6
 ·simp only[Z8,seval,bf c0,bf c1,bf c2,bf c3,bf c4,bf c5,bt c6,k50]
  exact⟨_,xcell rfl (by simp only[E8,seval]<;>rfl) (by simp only[Z8,seval]<;>rfl) y2.flat,_,rfl,y2,fun _=>rb.rt⟩
 by_cases c7:((k).tmod 16)=7
 ·simp only[Z8,seval,bf c0,bf c1,bf c2,bf c3,bf c4,bf c5,bf c6,bt c7,k50]
  exact⟨_,xcell rfl (by simp only[E8,seval]<;>rfl) (by simp only[Z8,seval]<;>rfl) y2.flat,_,rfl,y2,fun _=>rb.rt⟩
 by_cases c8:((k).tmod 16)=8
 ·simp only[Z8,seval,bf c0,bf c1,bf c2,bf c3,bf c4,bf c5,bf c6,bf c7,bt c8,k37]
  exact⟨_,xcell rfl (by simp only[E8,seval]<;>rfl) (by simp only[Z8,seval]<;>rfl) y3.flat,_,rfl,y3,fun h=>absurd (show (3:Int)=2 from h) (by decide)⟩
 by_cases c9:((k).tmod 16)=9
 ·simp only[Z8,seval,bf c0,bf c1,bf c2,bf c3,bf c4,bf c5,bf c6,bf c7,bf c8,bt c9,k37]
  exact⟨_,xcell rfl (by simp only[E8,seval]<;>rfl) (by simp only[Z8,seval]<;>rfl) y3.flat,_,rfl,y3,fun h=>absurd (show (3:Int)=2 from h) (by decide)⟩
 by_cases c10:((k).tmod 16)=10
 ·simp only[Z8,seval,bf c0,bf c1,bf c2,bf c3,bf c4,bf c5,bf c6,bf c7,bf c8,bf c9,bt c10,k37]
  exact⟨_,xcell rfl (by simp only[E8,seval]<;>rfl) (by simp only[Z8,seval]<;>rfl) y3.flat,_,rfl,y3,fun h=>absurd (show (3:Int)=2 from h) (by decide)⟩
 by_cases c11:((k).tmod 16)=11
 ·simp only[Z8,seval,bf c0,bf c1,bf c2,bf c3,bf c4,bf c5,bf c6,bf c7,bf c8,bf c9,bf c10,bt c11,h.sd.bal,k182]
  exact⟨_,xcell rfl (by simp only[E8,seval]<;>rfl) (by simp only[Z8,seval]<;>rfl) y4.flat,_,rfl,y4,fun h=>absurd (show (4:Int)=2 from h) (by decide)⟩
 by_cases c12:((k).tmod 16)=12
 ·simp only[Z8,seval,bf c0,bf c1,bf c2,bf c3,bf c4,bf c5,bf c6,bf c7,bf c8,bf c9,bf c10,bf c11,bt c12,k183]
  exact⟨_,xcell rfl (by simp only[E8,seval]<;>rfl) (by simp only[Z8,seval]<;>rfl) y5.flat,_,rfl,y5,fun h=>absurd (show (5:Int)=2 from h) (by decide)⟩
 simp only[Z8,seval,bf c0,bf c1,bf c2,bf c3,bf c4,bf c5,bf c6,bf c7,bf c8,bf c9,bf c10,bf c11,bf c12,k25]
 exact⟨_,xcell rfl (by simp only[E8,seval]<;>rfl) (by simp only[Z8,seval]<;>rfl) y6.flat,_,rfl,y6,fun h=>absurd (show (6:Int)=2 from h) (by decide)⟩
theorem x101 (l:List Int) (hl:(l.length:Int)≤9223372036854775807):∃ x,callL Tryz.prog 101 [.sl l.length (csInt l)]=some x∧∃ (c:Config) (b:List Int),x=.agg (cConfig c)∧CfgOk c b:=by
 have k0:=k145 l hl 0 (by omega) (by omega)
 obtain⟨a0,b0⟩:=tmod_bound (n:=8) (c145 l hl 0 (by omega) (by omega)).2.1 (by omega)
 obtain⟨x0,h0⟩:∃ x,(bAt l 0).tmod 8=x:=⟨_,rfl⟩
 rw[h0] at a0 b0
 have k1:=k145 l hl 1 (by omega) (by omega)
 obtain⟨a1,b1⟩:=tmod_bound (n:=4) (c145 l hl 1 (by omega) (by omega)).2.1 (by omega)
 obtain⟨x1,h1⟩:∃ x,(bAt l 1).tmod 4=x:=⟨_,rfl⟩
 rw[h1] at a1 b1
 have k2:=k145 l hl 2 (by omega) (by omega)
 obtain⟨a2,b2⟩:=tmod_bound (n:=4) (c145 l hl 2 (by omega) (by omega)).2.1 (by omega)
 obtain⟨x2,h2⟩:∃ x,(bAt l 2).tmod 4=x:=⟨_,rfl⟩
 rw[h2] at a2 b2
 have k3:=k145 l hl 3 (by omega) (by omega)
 obtain⟨a3,b3⟩:=tmod_bound (n:=4) (c145 l hl 3 (by omega) (by omega)).2.1 (by omega)
 obtain⟨x3,h3⟩:∃ x,(bAt l 3).tmod 4=x:=⟨_,rfl⟩
 rw[h3] at a3 b3
 have k4:=k145 l hl 4 (by omega) (by omega)
 obtain⟨a4,b4⟩:=tmod_bound (n:=4) (c145 l hl 4 (by omega) (by omega)).2.1 (by omega)
 obtain⟨x4,h4⟩:∃ x,(bAt l 4).tmod 4=x:=⟨_,rfl⟩
 rw[h4] at a4 b4
 have k5:=k145 l hl 5 (by omega) (by omega)
 obtain⟨a5,b5⟩:=tmod_bound (n:=5) (c145 l hl 5 (by omega) (by omega)).2.1 (by omega)
 obtain⟨x5,h5⟩:∃ x,(bAt l 5).tmod 5=x:=⟨_,rfl⟩
 rw[h5] at a5 b5
 have k6:=k145 l hl 6 (by omega) (by omega)
 obtain⟨a6,b6⟩:=tmod_bound (n:=4) (c145 l hl 6 (by omega) (by omega)).2.1 (by omega)
 obtain⟨x6,h6⟩:∃ x,(bAt l 6).tmod 4=x:=⟨_,rfl⟩
 rw[h6] at a6 b6
 have k7:=k145 l hl 7 (by omega) (by omega)
 obtain⟨a7,b7⟩:=tmod_bound (n:=3) (c145 l hl 7 (by omega) (by omega)).2.1 (by omega)
 obtain⟨x7,h7⟩:∃ x,(bAt l 7).tmod 3=x:=⟨_,rfl⟩
 rw[h7] at a7 b7
 have k8:=k145 l hl 8 (by omega) (by omega)
 obtain⟨a8,b8⟩:=tmod_bound (n:=2) (c145 l hl 8 (by omega) (by omega)).2.1 (by omega)
 obtain⟨x8,h8⟩:∃ x,(bAt l 8).tmod 2=x:=⟨_,rfl⟩
 rw[h8] at a8 b8
 have k9:=k145 l hl 9 (by omega) (by omega)
 obtain⟨a9,b9⟩:=tmod_bound (n:=5) (c145 l hl 9 (by omega) (by omega)).2.1 (by omega)
 obtain⟨x9,h9⟩:∃ x,(bAt l 9).tmod 5=x:=⟨_,rfl⟩
 rw[h9] at a9 b9
 have w0:IntKind.i64.wrap (6+x0)=6+x0:=w64 _ (by omega) (by omega)
 have w3:IntKind.i64.wrap (1+x3)=1+x3:=w64 _ (by omega) (by omega)
 have w5:IntKind.i64.wrap (1+x5)=1+x5:=w64 _ (by omega) (by omega)
 have w5':IntKind.u64.wrap (1+x5)=1+x5:=wrap_u64 _ (by omega) (by omega)
 have w6:IntKind.i64.wrap (1+x6)=1+x6:=w64 _ (by omega) (by omega)
 have w6':IntKind.u64.wrap (1+x6)=1+x6:=wrap_u64 _ (by omega) (by omega)
 have w9:IntKind.i64.wrap (2+x9)=2+x9:=w64 _ (by omega) (by omega)
 have g7:=get_csInt0 (l:=[0,40,100]) a7 (by show x7 < ((3:Nat):Int);omega)
 obtain⟨bp,hbp⟩:∃ y,it [0,40,100] x7=y:=⟨_,rfl⟩
 have hbp1:0≤bp∧bp≤100:=by
  rcases (by omega:x7=0∨x7=1∨x7=2) with e | e | e<;>(rw[e] at hbp;rw[← hbp];decide)
 have w7:IntKind.u64.wrap bp=bp:=wrap_u64 _ (by omega) (by omega)
 rw[cL Tryz.func101 rfl ok101 rfl]
 simp only[Z8,seval,lapC,lapN,k0,k1,k2,k3,k4,k5,k6,k7,k8,h0,h1,h2,h3,h4,h5,h6,h7,h8,w0,w3,w5,w5',w6,w6',a7,b7,g7,hbp,w7,up_Wide_at,Nat.reduceLT,k30]
 have n9:(2+x9).toNat≤6:=by omega
 refine use_loopX (fun m st=>∃ (j:Nat) (lim:Limits) (sp bq:Int) (tt:Wide) (X:AV) (b:List Int),(st.env 0=.sl l.length (csInt l)∧st.env 2=.ptr 2 0 0∧st.heap 2 0=some (.cells (cConfig zConfig))∧st.env 3=.ptr 3 0 0∧st.heap 3 0=some (.cells (cConfig ⟨lim,sp,bq,tt,mkRoot 1,X⟩))∧st.env 4=.v (.int .i64 j))∧(lim=⟨6+x0,x1,x2,1+x3,x4,1+x5⟩∧sp=1+x6∧bq=bp)∧((X=.v (.slice none 0 0)∧b=[])∨∃ g,X=.own 64 g∧g < st.cnt 64∧st.heap 64 g=some (.row 23 1 b.length (csU64 b)))∧(∀ y∈b,0≤y∧y≤1000)∧b.length=j∧j≤(2+x9).toNat∧m=(2+x9).toNat - j)
  (fun e st=>e=.exit 0∧∃ (lim:Limits) (sp bq:Int) (tt:Wide) (g:Nat) (b:List Int),(st.env 2=.ptr 2 0 0∧st.heap 2 0=some (.cells (cConfig zConfig))∧st.env 3=.ptr 3 0 0∧st.heap 3 0=some (.cells (cConfig ⟨lim,sp,bq,tt,mkRoot 1,.own 64 g⟩))∧st.heap 64 g=some (.row 23 1 b.length (csU64 b)))∧(lim=⟨6+x0,x1,x2,1+x3,x4,1+x5⟩∧sp=1+x6∧bq=bp)∧(∀ y∈b,0≤y∧y≤1000)∧1≤b.length∧b.length≤6) (2+x9).toNat ?step ?start ?rest
 case step =>
  rintro m st ⟨j,lim,sp,bq,tt,X,b,hI,hC,hX,hb,hj,hjn,hm⟩
  by_cases hlt:(j:Int) < 2+x9
  ·have q0:(0:Int)≤j:=by omega
   have hw:IntKind.i64.wrap ((j:Int)+1)=((j+1:Nat):Int):=by rw[w64 _ (by omega) (by omega)];omega
   obtain⟨jj,hjj⟩:∃ jj:Int,jj=10+(j:Int):=⟨_,rfl⟩
   have hw1:IntKind.i64.wrap (10+(j:Int))=jj:=by rw[w64 _ (by omega) (by omega),hjj]
   have kj:=k145 l hl jj (by omega) (by omega)
   obtain⟨aj,bj⟩:=tmod_bound (n:=40) (c145 l hl jj (by omega) (by omega)).2.1 (by omega)
   obtain⟨y,hy⟩:∃ y,(bAt l jj).tmod 40=y:=⟨_,rfl⟩
   rw[hy] at aj bj
   have wy:IntKind.u64.wrap y=y:=wrap_u64 _ (by omega) (by omega)
   have nL:(b.length:Int) < 1000000:=by omega
   have hL1:∀ z∈b ++ [y],0≤z∧z≤1000:=fun z hz=>(List.mem_append.1 hz).elim (hb z) fun e=>by rw[List.mem_singleton] at e;rw[e];omega
   have hl1:(b ++ [y]).length=j+1:=by rw[List.length_append,List.length_cons,List.length_nil];omega
   rcases hX with ⟨rfl,rfl⟩ | ⟨g,rfl,hg,hh⟩
   ·apply oN ((2+x9).toNat - (j+1))
    ·simp only[Z8,seval,hI,k9,h9,w9,hlt,hw1,kj,hy,wy,hw]
     rfl
    ·exact⟨j+1,_,_,_,_,_,[] ++ [y],⟨by simp only[E8,seval,hI],by simp only[E8,seval,hI],by simp only[E8,seval,hI],by simp only[E8,seval,hI],by simp only[E8,seval,hI]<;>rfl,by simp only[E8,seval]⟩,hC,.inr ⟨_,rfl,by simp only[E8,seval]<;>omega,by simp only[E8,seval]<;>rfl⟩,hL1,hl1,by omega,rfl⟩
   ·have hgn:(g=st.cnt 64)=False:=eq_false (by omega)
    apply oN ((2+x9).toNat - (j+1))
    ·simp only[Z8,seval,hI,hh,hgn,k9,h9,w9,hlt,hw1,kj,hy,wy,hw,aooU641 _ _ _ _ nL]
     rfl
    ·exact⟨j+1,_,_,_,_,_,b ++ [y],⟨by simp only[E8,seval,hI],by simp only[E8,seval,hI],by simp only[E8,seval,hI],by simp only[E8,seval,hI],by simp only[E8,seval,hI]<;>rfl,by simp only[E8,seval]⟩,hC,.inr ⟨_,rfl,by simp only[E8,seval]<;>omega,by simp only[E8,seval]<;>rfl⟩,hL1,hl1,by omega,rfl⟩
  ·rcases hX with ⟨rfl,rfl⟩ | ⟨g,rfl,hg,hh⟩
   ·simp at hj;omega
   ·apply oT (.exit 0)
    ·simp only[Z8,seval,hI,k9,h9,w9,hlt]
     rfl
    ·exact⟨rfl,_,_,_,_,g,b,⟨by simp only[E8,seval,hI],by simp only[E8,seval,hI],by simp only[E8,seval,hI],by simp only[E8,seval,hI]<;>rfl,by simp only[E8,seval,hh]⟩,hC,hb,by omega,by omega⟩
 case start=>exact⟨0,_,_,_,_,_,[],by and_intros<;>(simp only[E8,seval]<;>rfl),⟨rfl,rfl,rfl⟩,.inl ⟨rfl,rfl⟩,by simp,rfl,by omega,by omega⟩
 case rest =>
  rintro e st ⟨rfl,lim,sp,bq,tt,g,b,hI,⟨rfl,rfl,rfl⟩,hb,hl1,hl2⟩
  simp only[Z8,seval,hI]
  exact⟨_,by apply xcellx;rfl;all_goals simp only[keep_none,Z8,seval,hI,expo_aggq,exq_Config,expo1_ownF,exFU64,FLb]<;>rfl,⟨⟨6+x0,x1,x2,1+x3,x4,1+x5⟩,1+x6,bq,tt,mkRoot 1,ov csU64 (some b)⟩,b,rfl,⟨rfl,by omega,hb,by dsimp only;omega,by dsimp only;omega,by dsimp only;omega,by dsimp only;omega,by dsimp only;omega,by dsimp only;omega,by dsimp only;omega,by dsimp only;omega,rfl,by dsimp only;omega⟩⟩
end Go.Ab.Tryz
