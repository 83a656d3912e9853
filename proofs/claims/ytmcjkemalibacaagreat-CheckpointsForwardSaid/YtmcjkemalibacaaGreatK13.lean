/-
  Part 13 of the proof: an evaluator of programs, its soundness, and what functions of this program compute.
-/
import Derived.Test.YtmcjkemalibacaaGreatK12
import Derived.Test.YtmcjkemalibacaaGreatK10
import Derived.Test.YtmcjkemalibacaaGreatK11
import Derived.Test.YtmcjkemalibacaaGreatK9
set_option linter.all false
set_option maxRecDepth 20000
set_option maxHeartbeats 40000000
open Go.IntKind (i64 u64)
open List Go.Proofs.Tryz
noncomputable section
namespace Go.Ab.Tryz
open Classical Go.Proofs Go.Ab
def tN {ns:List Node} {i:Int} (h0:0<=i) (h1:i<ns.length):nd ns i∈ns:=by
 obtain⟨h,e⟩:=Jc h0 h1
 rw[e];exact getElem_mem h
def JD {ns:List Node} {n:Node} (h:n∈ns):∃i:Int,(0<=i/\i<ns.length)/\nd ns i=n:=by
 obtain⟨k,hk,rfl⟩:=getElem_of_mem h
 exact⟨k,by omega,by simp[Go.Ab.nd,hk]⟩
def Ll (ns:List Node) (i:Int):∀k:Nat,k<=ns.length->∀n∈(gN ns i k).1,∃a∈ns,n.block=a.block/\n.status=a.status
 | 0,_,n,hn=>by simp[gN] at hn
 | k+1,hk,n,hn=>by
   unfold gN at hn;simp only at hn
   split at hn
   ·rcases mem_append.1 hn with hn|hn
    ·exact Ll ns i k (by omega) n hn
    ·rw[mem_singleton] at hn;subst hn;exact⟨nd ns k,tN (by omega) (by omega),rfl,rfl⟩
   ·exact Ll ns i k (by omega) n hn
def G9 (ns:List Node) (i:Int):∀k:Nat,k<=ns.length->((gN ns i k).1.map (·.block)).Sublist ((ns.take k).map (·.block))
 | 0,_=>by simp[gN]
 | k+1,hk=>by
   have ih:=G9 ns i k (by omega)
   have e:ns.take (k+1)=ns.take k++[nd ns k]:=by
    rw[take_succ_eq_append_getElem (by omega)]
    have h:k<ns.length:=by omega
    simp[Go.Ab.nd,h]
   unfold gN;simp only
   rw[e,map_append];split
   ·rw[map_append];exact ih.append (by simp)
   ·exact ih.trans (sublist_append_left ..)
def O9 {ns:List Node} (h:(ns.map fun n=>n.block.root).Nodup) (i:Int):((gN ns i ns.length).1.map fun n=>n.block.root).Nodup:=by
 have h1:=(G9 ns i ns.length (Nat.le_refl _)).map (·.root)
 rw[take_length] at h1;simp only[map_map] at h1;exact h.sublist h1
def Lm {ns:List Node} {r:cC} (h:aC ns r<0):r ∉ ns.map fun n=>n.block.root:=by
 intro hm;obtain⟨n,hn,e⟩:=mem_map.1 hm
 obtain⟨i,hi,rfl⟩:=JD hn
 have:0<=aC ns r:=Ev hi.1 hi.2 e
 omega
def JE {ns:List Node} {r:cC} (h:∀n∈ns,n.block.root≠r):aC ns r<0:=by
 rcases Int.lt_or_le (aC ns r) 0 with g|g
 ·exact g
 ·exact absurd (oH ns r g) (h _ (tN g (cS ns r).2))
def Tx.inj {ns:List Node} (v:Tx ns) {i j:Int} (i0:0<=i) (i1:i<ns.length) (j0:0<=j) (j1:j<ns.length) (h:(nd ns i).block.root=(nd ns j).block.root):i=j:=by
 rcases Int.lt_trichotomy i j with g|g|g
 ·exact absurd h (v.roots i j i0 g j1)
 ·exact g
 ·exact absurd h.symm (v.roots j i j0 g i1)
def Tx.find {ns:List Node} (v:Tx ns) {i:Int} (i0:0<=i) (i1:i<ns.length) {r:cC} (h:(nd ns i).block.root=r):aC ns r=i:=by
 have g:=Ev i0 i1 h
 exact v.inj g (cS ns r).2 i0 i1 ((oH ns r g).trans h.symm)
def P0 (ns ps:List Node):Prop:=∀n∈ps,∃a∈ns,n.block=a.block/\n.status=a.status
def P0.neg {ns ps:List Node} (h:P0 ns ps) {r:cC} (g:aC ns r<0):aC ps r<0:=JE fun n hn e=>by
 obtain⟨a,ha,e1,_⟩:=h n hn
 exact Lm g (mem_map.2 ⟨a,ha,by rw[<- e1];exact e⟩)
def P0.at_ {ns ps:List Node} (h:P0 ns ps) (v:Tx ns) {r:cC} (g:0<=aC ps r):(nd ps (aC ps r)).status=(nd ns (aC ns r)).status:=by
 obtain⟨a,ha,e1,e2⟩:=h _ (tN g (cS ps r).2)
 obtain⟨i,hi,rfl⟩:=JD ha
 rw[e2,v.find hi.1 hi.2 (by rw[<- e1];exact oH _ _ g)]
def aAE {ns:List Node} (v:Tx ns) {i:Int} (hi:lW ns i i=true):Tx (gN ns i ns.length).1:=by
 have hz:=Gw v.up hi
 have h1:=vS v.up hi
 have hl:=Um (ns:=ns) i
 have hM:=v.aDV
 have key:∀m:Int,0<=m->m<(gN ns i ns.length).1.length->∃a:Int,(0<=a/\a<ns.length)/\lW ns i a=true/\it (gN ns i ns.length).2 a=m/\(nd (gN ns i ns.length).1 m).block=(nd ns a).block/\(nd (gN ns i ns.length).1 m).status=(nd ns a).status/\(0<m->a≠i/\0<a/\lW ns i (nd ns a).up=true/\(nd (gN ns i ns.length).1 m).up=it (gN ns i ns.length).2 (nd ns a).up/\(nd (gN ns i ns.length).1 (nd (gN ns i ns.length).1 m).up).block=(nd ns (nd ns a).up).block/\(nd (gN ns i ns.length).1 (nd (gN ns i ns.length).1 m).up).status=(nd ns (nd ns a).up).status):=by
  intro m m0 m1;obtain⟨a,a0,a1,ha,rfl⟩:=xU ns i ns.length m m0 m1
  have p:=(vS v.up ha).2.2
  refine⟨a,⟨a0,a1⟩,ha,rfl,by rw[p],by rw[p],fun hm=>?_⟩
  have Ug:a≠i:=by rintro rfl;omega
  obtain⟨b0,_,zM⟩:=F1 v.up ha Ug
  have q:=(vS v.up zM).2.2
  have e:(nd (gN ns i ns.length).1 (it (gN ns i ns.length).2 a)).up=it (gN ns i ns.length).2 (nd ns a).up:=by rw[p];exact if_neg Ug
  exact⟨Ug,b0,zM,e,by rw[e,q],by rw[e,q]⟩
 refine⟨by omega,by omega, ?_,KU v.up hi,fun m m0 m1=>?_,fun m m0 m1=>?_,fun m n m0 hmn n1=>?_,fun m m0 m1=>?_⟩
 ·rw[hz] at h1;rw[h1.2.2];exact if_pos rfl
 ·obtain⟨a,ha,_,_,e1,_,h⟩:=key m (by omega) m1
  obtain⟨_,b0,_,_,e2,_⟩:=h m0
  rw[e1,e2];exact v.par a b0 ha.2
 ·obtain⟨a,ha,_,_,e1,_,h⟩:=key m (by omega) m1
  obtain⟨_,b0,_,_,e2,_⟩:=h m0
  rw[e1,e2];exact v.slot a b0 ha.2
 ·obtain⟨a,ha,_,ea,e1,_⟩:=key m m0 (by omega)
  obtain⟨b,hb,_,eb,e2,_⟩:=key n (by omega) n1
  rw[e1,e2];intro h;have:=v.inj ha.1 ha.2 hb.1 hb.2 h
  rw[this] at ea;omega
 ·obtain⟨a,ha,_,_,_,e,_⟩:=key m m0 m1
  rw[e];exact v.st a ha.1 ha.2
def aHW {ns:List Node} (v:Tx ns) (c:QA ns) {i:Int} (hi:lW ns i i=true):QA (gN ns i ns.length).1:=fun m m0 m1=>by
 have hz:=Gw v.up hi
 obtain⟨a,a0,a1,ha,rfl⟩:=xU ns i ns.length m (by omega) m1
 have p:=(vS v.up ha).2.2
 have Ug:a≠i:=by rintro rfl;omega
 obtain⟨b0,_,zM⟩:=F1 v.up ha Ug
 have q:=(vS v.up zM).2.2
 rw[show (nd (gN ns i ns.length).1 (it (gN ns i ns.length).2 a)).up=it (gN ns i ns.length).2 (nd ns a).up by rw[p];exact if_neg Ug,p,q]
 exact c a b0 a1
def Tx.app {ns:List Node} (v:Tx ns) {b:Block} (hl:ns.length<4096) (hp:0<=aC ns b.parent) (hs:(nd ns (aC ns b.parent)).block.slot<b.slot) (hn:aC ns b.root<0) {st:Int} (tG:Ub st=true):Tx (ns++[⟨b,aC ns b.parent,st⟩]):=by
 have r:=cS ns b.parent
 have hlen:(ns++[(⟨b,aC ns b.parent,st⟩:Node)]).length=ns.length+1:=by simp
 have e0:∀j:Int,0<=j->j<ns.length->nd (ns++[(⟨b,aC ns b.parent,st⟩:Node)]) j=nd ns j:=fun j h0 h1=>mH h0 h1
 have e1:∀j:Int,j=ns.length->nd (ns++[(⟨b,aC ns b.parent,st⟩:Node)]) j=⟨b,aC ns b.parent,st⟩:=fun j h=>El h
 have uJ:=v.Ol
 refine⟨by omega,by omega,by rw[e0 0 (by omega) (by omega)];exact v.Ww,fun i i0 i1=>?_,fun i i0 i1=>?_,fun i i0 i1=>?_,fun i j i0 hij j1=>?_,fun i i0 i1=>?_⟩
 all_goals rw[hlen] at *
 ·by_cases hi:i<(ns.length:Int)
  ·rw[e0 i (by omega) hi];exact v.up i i0 hi
  ·rw[e1 i (by omega)];exact⟨hp,by show aC ns b.parent<i;omega⟩
 ·by_cases hi:i<(ns.length:Int)
  ·have:=v.up i i0 hi
   rw[e0 i (by omega) hi,e0 _ this.1 (by omega)];exact v.par i i0 hi
  ·rw[e1 i (by omega)]
   show b.parent=(nd _ (aC ns b.parent)).block.root
   rw[e0 _ hp r.2,oH _ _ hp]
 ·by_cases hi:i<(ns.length:Int)
  ·have:=v.up i i0 hi
   rw[e0 i (by omega) hi,e0 _ this.1 (by omega)];exact v.slot i i0 hi
  ·rw[e1 i (by omega)]
   show (nd _ (aC ns b.parent)).block.slot<b.slot
   rw[e0 _ hp r.2];exact hs
 ·by_cases hj:j<(ns.length:Int)
  ·rw[e0 i i0 (by omega),e0 j (by omega) hj];exact v.roots i j i0 hij hj
  ·rw[e1 j (by omega),e0 i i0 (by omega)]
   exact fun h=>Lm hn (mem_map.2 ⟨_,tN i0 (by omega),h⟩)
 ·by_cases hi:i<(ns.length:Int)
  ·rw[e0 i i0 hi];exact v.st i i0 hi
  ·rw[e1 i (by omega)];exact tG
def QA.app {ns:List Node} (v:Tx ns) (c:QA ns) {b:Block} (hp:0<=aC ns b.parent) {st:Int} (h1:st=1->(nd ns (aC ns b.parent)).status=1) (h2:(nd ns (aC ns b.parent)).status≠2):QA (ns++[⟨b,aC ns b.parent,st⟩]):=fun i i0 i1=>by
 have r:=cS ns b.parent
 have hlen:(ns++[(⟨b,aC ns b.parent,st⟩:Node)]).length=ns.length+1:=by simp
 rw[hlen] at i1;by_cases hi:i<(ns.length:Int)
 ·have:=v.up i i0 hi
  rw[mH (by omega) hi,mH this.1 (by omega)];exact c i i0 hi
 ·rw[El (by omega)]
  show (st=1->(nd _ (aC ns b.parent)).status=1)/\((nd _ (aC ns b.parent)).status=2->st=2)
  rw[mH hp r.2];exact⟨h1,fun h=>absurd h h2⟩
def JF {ns:List Node} (n:Node) {r:cC} (h:0<=aC ns r):aC (ns++[n]) r=aC ns r:=by
 unfold aC at h ⊢
 rw[findIdx?_append];cases hf:ns.findIdx? (fun n=>decide (n.block.root=r)) with
 | none=>rw[hf] at h;simp only at h;omega
 | some k=>rfl
def ZE {ns:List Node} {n:Node} {r:cC} (h:aC ns r<0) (hn:n.block.root≠r):aC (ns++[n]) r<0:=JE fun m hm=>by
 rcases mem_append.1 hm with hm|hm
 ·exact fun e=>Lm h (mem_map.2 ⟨m,hm,e⟩)
 ·rw[mem_singleton.1 hm];exact hn
structure VS (s:aL) (v:SV):Prop where
 Ca:Tx v.ns
 FH:QA v.ns
 AS:∀n∈v.ns,n.block.gP=cO->n.status=1
 js:(nd v.ns (aC v.ns s.aI.eI.root)).status≠2
 r0:(nd v.ns 0).block.root=s.aI.fin.root
 e0:Jn s v.ns 0 s.aI.fin.aE
 tv:∀t∈ol v.T,QX t (ol v.B).length
 ts:Ot (ol v.T)
 vo:∀x∈ol v.L,x.has=false->x=pN
 eq:ol v.Q=[]\/Lk (ol v.Q) (ol v.B).length=0
 bo:s.dV=cO\/0<=aC v.ns s.dV
 od:∀n∈v.ns,QS s n.block
 ea:∀a∈ol v.E,∃V,a.eM=ov aM (some V)/\Lk V (ol v.B).length=0
 oi:∀o∈ol v.O,aC v.ns o.root<0/\o.wM=false/\o.slot<=s.now/\(sJ s s.aI.fin.aE).1<o.slot
 on:((ol v.O).map fun o=>o.root).Nodup
def OP (v:SV):Prop:=∀o∈ol v.O,aC v.ns o.parent<0
def Ur {s:aL} {v:SV} {J F:dL} (b:¬iP s v J F):0<=aC v.ns J.root/\0<=aC v.ns F.root/\(nd v.ns (aC v.ns J.root)).status≠2/\(nd v.ns (aC v.ns F.root)).status≠2/\Jn s v.ns (aC v.ns J.root) J.aE/\Jn s v.ns (aC v.ns F.root) F.aE/\lW v.ns (aC v.ns F.root) (aC v.ns J.root)=true:=by
 unfold iP at b;simp only[not_or,Decidable.not_not,Int.not_lt] at b;obtain⟨b1,b2,b3,b4,b5,b6,b7,_⟩:=b
 exact⟨b1,b2,b3,b4,b5,b6,by simpa using b7⟩
def VS.dP {s:aL} {v:SV} (h:VS s v) (c1 c2:dL):VS (pV s v c1 c2) (rE s v c1 c2):=by
 by_cases b:iP s v (sU s c1) (oB s c2)
 ·rw[show pV s v c1 c2=s from if_pos b,show rE s v c1 c2=v from if_pos b];exact h
 obtain⟨b1,b2,b3,b4,b5,b6,b7⟩:=Ur b
 have tv:∀t∈ol (nz (tY (ol v.T) (sU s c1).aE)),QX t (ol v.B).length:=by rw[mF];exact fun t ht=>h.tv t (mem_filter.1 ht).1
 have ts:Ot (ol (nz (tY (ol v.T) (sU s c1).aE))):=by rw[mF];exact List.Pairwise.sublist filter_sublist h.ts
 by_cases e:oB s c2=s.aI.fin
 ·rw[show pV s v c1 c2=_ from (if_neg b).trans (if_pos e),show rE s v c1 c2=_ from (if_neg b).trans (if_pos e),e];exact⟨h.Ca,h.FH,h.AS,b3,h.r0,h.e0,tv,ts,h.vo,h.eq,h.bo,h.od,h.ea,h.oi,h.on⟩
 ·rw[show pV s v c1 c2=_ from (if_neg b).trans (if_neg e),show rE s v c1 c2=_ from (if_neg b).trans (if_neg e)];have rF:=cS v.ns (oB s c2).root
  have hi:=Ar h.Ca.up b2 rF.2
  have hz:=Gw h.Ca.up hi
  have h1:=vS h.Ca.up hi
  have h2:=vS h.Ca.up b7
  have hv:=aAE h.Ca hi
  have hs:P0 v.ns (gN v.ns (aC v.ns (oB s c2).root) v.ns.length).1:=Ll _ _ _ (Nat.le_refl _)
  rw[hz] at h1;have hJ:0<=aC (gN v.ns (aC v.ns (oB s c2).root) v.ns.length).1 (sU s c1).root:=Ev h2.1 h2.2.1 (by rw[h2.2.2];exact oH _ _ b1)
  refine⟨hv,aHW h.Ca h.FH hi,fun n hn hp=>?_, ?_, ?_, ?_,tv,ts,h.vo,h.eq, ?_,fun n hn=>?_,h.ea,fun o ho=>?_, ?_⟩
  ·obtain⟨a,ha,e1,e2⟩:=hs n hn
   rw[e2];exact h.AS a ha (by rw[<- e1];exact hp)
  ·show (nd _ (aC _ (sU s c1).root)).status≠2
   rw[hs.at_ h.Ca hJ];exact b3
  ·show (nd _ 0).block.root=(oB s c2).root
   rw[h1.2.2];exact oH _ _ b2
  ·show Jn s (gN v.ns (aC v.ns (oB s c2).root) v.ns.length).1 0 (oB s c2).aE
   unfold Jn at b6 ⊢
   rw[h1.2.2];exact b6
  ·show (if aC _ s.dV<0 then cO else s.dV)=cO\/0<=aC _ (if aC _ s.dV<0 then cO else s.dV)
   split
   ·exact .inl rfl
   ·rename_i g;exact .inr (Int.not_lt.1 g)
  ·obtain⟨a,ha,e1,_⟩:=hs n hn
   rw[e1];exact h.od a ha
  ·have ho:o∈ol (nz ((ol v.O).filter fun b=>decide ((sJ s (oB s c2).aE).1<b.slot))):=ho
   rw[mF] at ho;obtain⟨ho,hf⟩:=mem_filter.1 ho
   obtain⟨a1,a2,a3,_⟩:=h.oi o ho
   exact⟨hs.neg a1,a2,a3,of_decide_eq_true hf⟩
  ·show ((ol (nz _)).map fun o:Block=>o.root).Nodup
   rw[mF];exact h.on.sublist (filter_sublist.map _)
def OP.dP {s:aL} {v:SV} (h:OP v) (c1 c2:dL):OP (rE s v c1 c2):=by
 unfold rE;split
 ·exact h
 split
 ·exact h
 ·intro o ho;have ho:o∈ol (nz _):=ho
  rw[mF] at ho;exact P0.neg (Ll _ _ _ (Nat.le_refl _)) (h o (mem_filter.1 ho).1)
def RE {s:aL} {v:SV} {b:Block} (hb:Cs s v b=0\/Cs s v b=10):b.slot<=s.now:=by
 unfold Cs at hb;by_cases g1:b.root=cO
 ·rw[if_pos g1] at hb;omega
 rw[if_neg g1] at hb;by_cases g2:Y8 v b.root
 ·rw[if_pos g2] at hb;omega
 rw[if_neg g2] at hb;by_cases g3:s.now<b.slot
 ·rw[if_pos g3] at hb;omega
 ·omega
def H0 {s:aL} {v:SV} {b:Block} (hb:Cs s v b=0):aC v.ns b.root<0:=by
 rcases Int.lt_or_le (aC v.ns b.root) 0 with h|h
 ·exact h
 ·unfold Cs at hb;by_cases g1:b.root=cO
  ·rw[if_pos g1] at hb;omega
  ·rw[if_neg g1,if_pos (.inr h)] at hb;omega
def aAF {s:aL} {v:SV} {b:Block} (hb:Cs s v b=0\/Cs s v b=10):¬Y8 v b.root/\(sJ s s.aI.fin.aE).1<b.slot:=by
 unfold Cs at hb;by_cases g1:b.root=cO
 ·rw[if_pos g1] at hb;omega
 rw[if_neg g1] at hb;by_cases g2:Y8 v b.root
 ·rw[if_pos g2] at hb;omega
 rw[if_neg g2] at hb;by_cases g3:s.now<b.slot
 ·rw[if_pos g3] at hb;omega
 rw[if_neg g3] at hb;by_cases g4:b.slot<=(sJ s s.aI.fin.aE).1
 ·rw[if_pos g4] at hb;omega
 exact⟨g2,by omega⟩
def H2 {s:aL} {v:SV} {b:Block} (hb:Cs s v b=0):(nd v.ns (aC v.ns b.parent)).block.slot<b.slot/\(nd v.ns (aC v.ns b.parent)).status≠2/\BG s v b/\QT s.cFg.BC (nd v.ns (aC v.ns b.parent)).block b:=by
 unfold Cs at hb;by_cases g1:b.root=cO
 ·rw[if_pos g1] at hb;omega
 rw[if_neg g1] at hb;by_cases g2:Y8 v b.root
 ·rw[if_pos g2] at hb;omega
 rw[if_neg g2] at hb;by_cases g3:s.now<b.slot
 ·rw[if_pos g3] at hb;omega
 rw[if_neg g3] at hb;by_cases g4:b.slot<=(sJ s s.aI.fin.aE).1
 ·rw[if_pos g4] at hb;omega
 rw[if_neg g4] at hb;by_cases g5:aC v.ns b.parent<0
 ·rw[if_pos g5] at hb;omega
 rw[if_neg g5] at hb;by_cases g6:b.slot<=(nd v.ns (aC v.ns b.parent)).block.slot
 ·rw[if_pos g6] at hb;omega
 rw[if_neg g6] at hb;by_cases g7:(nd v.ns (aC v.ns b.parent)).status=2
 ·rw[if_pos g7] at hb;omega
 rw[if_neg g7] at hb;by_cases g8:BG s v b
 ·rw[if_neg (fun h=>h g8)] at hb
  by_cases g9:QT s.cFg.BC (nd v.ns (aC v.ns b.parent)).block b
  ·exact⟨by omega,g7,g8,g9⟩
  ·rw[if_pos g9] at hb;omega
 ·rw[if_pos g8] at hb;omega
def aGJ {v:SV} {r:cC} (h:¬Y8 v r):∀o∈ol v.O,o.root≠r:=fun o ho e=>h (.inl (by
 obtain⟨k,hk,rfl⟩:=getElem_of_mem ho
 exact⟨k,hk,by rw[show gx dO (ol v.O) ((k:Nat):Int)=(ol v.O)[k] by simp[gx,hk]];exact e⟩))
def VS.Hd {s:aL} {v:SV} {q:Int} (g:GI s v q) (h:VS s v) {b:Block} (hb:Cs s v b=0):VS (Tryz.Hd s v b) (xX v b):=by
 obtain⟨_,p2,p3⟩:=Zi g hb
 obtain⟨f1,f2,f3,f4⟩:=H2 hb
 have hnB:=g.PK
 have hn:=H0 hb
 have hk:=aGJ (aAF (.inl hb)).1
 have uJ:=h.Ca.Ol
 have rp:=cS v.ns b.parent
 have JG:Cb b=1->(nd v.ns (aC v.ns b.parent)).status=1:=fun e=>by
  have hz:b.gP=cO:=by
   unfold Cb at e;by_cases hz:b.gP=cO
   ·exact hz
   ·rw[if_neg hz] at e;omega
  exact h.AS _ (tN p3 rp.2) (f4.1 hz)
 refine⟨h.Ca.app (by omega) p3 f1 hn (JC b),QA.app h.Ca h.FH p3 JG f2,fun n hm hp=>?_, ?_, ?_, ?_,h.tv,h.ts,h.vo,h.eq, ?_,fun n hm=>?_,h.ea,fun o ho=>?_,h.on⟩
 ·rcases mem_append.1 (show n∈v.ns++[⟨b,aC v.ns b.parent,Cb b⟩] from hm) with hm|hm
  ·exact h.AS n hm hp
  ·rw[mem_singleton] at hm;subst hm;exact if_pos hp
 ·show (nd (v.ns++[⟨b,aC v.ns b.parent,Cb b⟩]) (aC (v.ns++[⟨b,aC v.ns b.parent,Cb b⟩]) s.aI.eI.root)).status≠2
  rw[JF _ g.eI,mH g.eI (cS _ _).2];exact h.js
 ·show (nd (v.ns++[⟨b,aC v.ns b.parent,Cb b⟩]) 0).block.root=s.aI.fin.root
  rw[mH (Int.le_refl 0) (by omega)];exact h.r0
 ·have:=h.e0
  unfold Jn at this ⊢
  show _\/(nd (v.ns++[⟨b,aC v.ns b.parent,Cb b⟩]) 0).block.slot<=_
  rw[mH (Int.le_refl 0) (by omega)];exact this
 ·rcases h.bo with e|e
  ·exact .inl e
  ·refine .inr ?_
   show 0<=aC (v.ns++[⟨b,aC v.ns b.parent,Cb b⟩]) s.dV
   rw[JF _ e];exact e
 ·rcases mem_append.1 (show n∈v.ns++[⟨b,aC v.ns b.parent,Cb b⟩] from hm) with hm|hm
  ·exact h.od n hm
  ·rw[mem_singleton] at hm;subst hm;exact f3.2.1
 ·obtain⟨a1,a2,a3,a4⟩:=h.oi o ho
  exact⟨ZE a1 fun e=>hk o ho e.symm,a2,a3,a4⟩
def VS.ins {s:aL} {v:SV} {q:Int} (g:GI s v q) (h:VS s v) {b:Block} (hb:Cs s v b=0):VS (sT s v b) (kO s v b):=by
 have g2:=(h.Hd g hb).dP b.eI b.fin
 unfold sT kO;split
 ·exact g2.dP _ _
 ·exact g2
def VS.RC {s:aL} {v:SV} (r:VS s v) (O:Option (List Block)) (x:AV) (h:(ol O).Sublist (ol v.O)):VS (mP s x) { v with O:=O } :=
 ⟨r.Ca,r.FH,r.AS,r.js,r.r0,r.e0,r.tv,r.ts,r.vo,r.eq,r.bo,r.od,r.ea,fun o ho=>r.oi o (h.subset ho),r.on.sublist (h.map _)⟩
def VS.wait {s:aL} {v:SV} (r:VS s v) {b:Block} (hb:Cs s v b=10) (O:Option (List Block)) (x:AV) (h:ol O=ol v.O++[{ b with wM:=false }]):VS (mP s x) { v with O:=O }:=by
 obtain⟨h1,h2⟩:=aAF (.inr hb)
 have h3:=RE (.inr hb)
 refine⟨r.Ca,r.FH,r.AS,r.js,r.r0,r.e0,r.tv,r.ts,r.vo,r.eq,r.bo,r.od,r.ea,fun o ho=>?_, ?_⟩
 ·have ho:o∈ol O:=ho
  rw[h] at ho;rcases mem_append.1 ho with ho|ho
  ·exact r.oi o ho
  ·rw[mem_singleton] at ho;subst ho;refine⟨?_,rfl,h3,h2⟩
   rcases Int.lt_or_le (aC v.ns b.root) 0 with g|g
   ·exact g
   ·exact absurd (.inr g) h1
 ·show ((ol O).map fun o=>o.root).Nodup
  rw[h,map_append];refine nodup_append.2 ⟨r.on,by simp,fun x hx y hy=>?_⟩
  simp only[map_cons,map_nil,mem_singleton] at hy;rintro rfl
  obtain⟨o,ho,e⟩:=mem_map.1 hx
  exact aGJ h1 o ho (e.trans hy)
def VS.dV {s:aL} {v:SV} (r:VS s v) (x:cC) (h:x=cO\/0<=aC v.ns x):VS { s with dV:=x } v:=⟨r.Ca,r.FH,r.AS,r.js,r.r0,r.e0,r.tv,r.ts,r.vo,r.eq,h,r.od,r.ea,r.oi,r.on⟩
def aAG {ns:List Node} {n:Node} (hu:fK ns) (hu':fK (ns++[n])):∀(k:Nat) (i:Int),i.toNat=k->0<=i->i<ns.length->path (ns++[n]) i=path ns i:=by
 intro k;induction k using Nat.strongRecOn with
 | _ k ih =>
   intro i hk i0 i1;have hl:(ns++[n]).length=ns.length+1:=by simp
   by_cases hi:i=0
   ·subst hi;rw[mG (by omega),mG (by omega)]
   ·obtain⟨u0,u1⟩:=hu i (by omega) i1
    rw[jL hu (by omega) i1,jL hu' (by omega) (by omega),mH (by omega) i1,ih (nd ns i).up.toNat (by omega) _ rfl u0 (by omega)]
def Abv (ns:List Node) (x r:cC):Prop:=0<=aC ns r->lW ns (aC ns r) (aC ns x)=true
def aHY {ns:List Node} (v:Tx ns) {i:Int} {x:cC} (hx:0<=aC ns x) (hi:lW ns i (aC ns x)=true):0<=aC (gN ns i ns.length).1 x/\∀r,Abv ns x r->Abv (gN ns i ns.length).1 x r:=by
 obtain⟨⟨i0,i1⟩,_⟩:=Aq v.up hi
 have hii:=Ar v.up i0 i1
 have pv:=aAE v hii
 have p:=vS v.up hi
 have ex:aC (gN ns i ns.length).1 x=it (gN ns i ns.length).2 (aC ns x):=pv.find p.1 p.2.1 (by rw[p.2.2];exact oH _ _ hx)
 refine⟨by rw[ex];exact p.1,fun r h g=>?_⟩
 obtain⟨a,a0,a1,ha,ea⟩:=xU ns i ns.length _ g (cS _ _).2
 have q:=(vS v.up ha).2.2
 have er:aC ns r=a:=v.find a0 a1 (by
  have:=oH _ r g
  rw[<- ea,q] at this;exact this)
 rw[ex,<- ea,aHz v.up hii _ _ _ rfl ha hi,<- er];exact h (by omega)
def H3 {s:aL} {v:SV} (h:VS s v) (c1 c2:dL) {x:cC} (hx:0<=aC v.ns x) (hf:s.aI.fin.aE<c2.aE->Abv v.ns x c2.root):0<=aC (rE s v c1 c2).ns x/\∀r,Abv v.ns x r->Abv (rE s v c1 c2).ns x r:=by
 by_cases b:iP s v (sU s c1) (oB s c2)
 ·rw[show rE s v c1 c2=v from if_pos b];exact⟨hx,fun _ h=>h⟩
 by_cases e:oB s c2=s.aI.fin
 ·rw[show rE s v c1 c2=_ from (if_neg b).trans (if_pos e)];exact⟨hx,fun _ h=>h⟩
 rw[show rE s v c1 c2=_ from (if_neg b).trans (if_neg e)];have hF:=(Ur b).2.1
 have key:s.aI.fin.aE<c2.aE/\oB s c2=c2:=by
  unfold oB at e ⊢
  by_cases g:s.aI.fin.aE<c2.aE
  ·exact⟨g,if_pos g⟩
  ·rw[if_neg g] at e;exact absurd rfl e
 rw[key.2] at hF ⊢;exact aHY h.Ca hx (hf key.1 hF)
def RF (s:aL) (v:SV) (c1 c2:dL):s.aI.fin.aE<=(pV s v c1 c2).aI.fin.aE:=by
 have h:s.aI.fin.aE<=(oB s c2).aE:=by unfold oB;split<;>omega
 unfold pV;split
 ·exact Int.le_refl _
 split
 ·exact h
 ·exact h
def aAH {s:aL} {v:SV} {q:Int} (g:GI s v q) (h:VS s v) {b:Block} (hb:Cs s v b=0):0<=aC (kO s v b).ns b.root:=by
 obtain⟨_,p2,p3⟩:=Zi g hb
 have h1:=h.Hd g hb
 obtain⟨_,_,f3,_⟩:=H2 hb
 have rp:=cS v.ns b.parent
 have hl:(xX v b).ns.length=v.ns.length+1:=by show (v.ns++[_]).length=_;simp
 have hL:nd (xX v b).ns (v.ns.length:Int)=⟨b,aC v.ns b.parent,Cb b⟩:=El rfl
 have hx:aC (xX v b).ns b.root=(v.ns.length:Int):=h1.Ca.find (by omega) (by omega) (by rw[hL])
 have hx0:0<=aC (xX v b).ns b.root:=by omega
 have ab:∀c:dL,YY s v b c->s.aI.fin.aE<c.aE->Abv (xX v b).ns b.root c.root:=by
  intro c hc he;have hc:=hc.resolve_left (by omega)
  rw[Abv,hx];by_cases hs:(sJ s c.aE).1<b.slot
  ·rw[if_pos hs] at hc;obtain⟨c1,c2⟩:=hc
   obtain⟨k,hk⟩:∃k,HX v.ns (aC v.ns b.parent) (sJ s c.aE).1=k:=⟨_,rfl⟩
   have hm:=BE v.ns (sJ s c.aE).1 (path v.ns (aC v.ns b.parent))
   rw[show Dl v.ns (sJ s c.aE).1 (path v.ns (aC v.ns b.parent))=k from hk] at hm;rw[hk] at c1 c2;have hm:=hm.resolve_left (by omega)
   have kr:=rI h.Ca.up hm
   have ek:aC (xX v b).ns c.root=k:=h1.Ca.find kr.1 (by omega) (by show (nd (v.ns++[_]) k).block.root=_;rw[mH kr.1 kr.2];exact c2)
   rw[ek];intro _;have uJ:=h.Ca.Ol
   unfold lW;rw[jL h1.Ca.up (by omega) (by omega),hL]
   refine decide_eq_true (mem_append_left _ ?_)
   show k∈path (v.ns++[_]) (aC v.ns b.parent)
   rw[aAG h.Ca.up h1.Ca.up _ _ rfl p3 rp.2];exact hm
  ·rw[if_neg hs] at hc;rw[<- hc,hx];intro _;exact Ar h1.Ca.up (by omega) (by omega)
 have a1:=ab b.fin (f3.2.2 1 (by omega))
 have a3:=ab b.dW.pf (f3.2.2 3 (by omega))
 have u:=H3 h1 b.eI b.fin hx0 a1
 have u0:0<=aC (G8 s v b).ns b.root:=u.1
 unfold kO;split
 ·refine (H3 (h1.dP b.eI b.fin) b.dW.pj b.dW.pf u0 fun he=>u.2 _ (a3 ?_)).1
  have:=RF (Tryz.Hd s v b) (xX v b) b.eI b.fin
  exact Int.lt_of_le_of_lt this he
 ·exact u0
def VS.JH {s:aL} {v:SV} (r:VS s v) {n:Int} (h:s.now<=n):VS { s with now:=n } v:=⟨r.Ca,r.FH,r.AS,r.js,r.r0,r.e0,r.tv,r.ts,r.vo,r.eq,r.bo,r.od,r.ea,fun o ho=>by
 obtain⟨a1,a2,a3,a4⟩:=r.oi o ho
 exact⟨a1,a2,Int.le_trans a3 h,a4⟩,r.on⟩
def RH {e:Int} {r:cC}:∀(V:List Int) (a:List kN × Int),(∀x∈a.1,x.has=false->x=pN)->∀x∈(V.foldl (Xb e r) a).1,x.has=false->x=pN
 | [],a,h=>h
 | y :: V,a,h=>by
   rw[foldl_cons];refine RH V _ fun x hx hf=>?_
   unfold Xb at hx;split at hx
   ·rcases mem_or_eq_of_mem_set hx with hx|hx
    ·exact h x hx hf
    ·rw[hx] at hf;cases hf
   ·exact h x hx hf
def VS.cast {s:aL} {v:SV} (r:VS s v) (a:rX) (V:List Int):VS (Rl s v a V) { v with L:=some (uA (ol v.L) a.target.aE a.root V).1 }:=⟨r.Ca,r.FH,r.AS,r.js,r.r0,r.e0,r.tv,r.ts,RH V (ol v.L,0) r.vo,r.eq,r.bo,r.od,r.ea,r.oi,r.on⟩
def VS.PN {s:aL} {v:SV} (r:VS s v) (o:Option (List Table)) (x:AV) (h1:∀t∈ol o,QX t (ol v.B).length) (h2:Ot (ol o)):VS { s with tables:=x } { v with T:=o }:=⟨r.Ca,r.FH,r.AS,r.js,r.r0,r.e0,h1,h2,r.vo,r.eq,r.bo,r.od,r.ea,r.oi,r.on⟩
def VS.aL1 {s:aL} {v:SV} (r:VS s v):(ol v.Q).Pairwise (· < ·):=r.eq.elim (fun e=>by rw[e];exact .nil) fun e=>(YW e).1
def VS.aHZ {s:aL} {v:SV} (r:VS s v):∀x∈ol v.Q,0<=x/\x<(ol v.B).length:=r.eq.elim (fun e x hx=>by rw[e] at hx;cases hx) fun e=>(YW e).2
def VS.gA {s:aL} {v:SV} (r:VS s v) (L:Option (List Int)) (x:AV) (h0:ol L≠[]) (h1:(ol L).Pairwise (· < ·)) (h2:∀x∈ol L,0<=x/\x<(ol v.B).length):VS { s with fP:={ s.fP with gA:=x }} { v with Q:=L }:=⟨r.Ca,r.FH,r.AS,r.js,r.r0,r.e0,r.tv,r.ts,r.vo,.inr (aHO h0 h1 h2),r.bo,r.od,r.ea,r.oi,r.on⟩
def VS.early {s:aL} {v:SV} (r:VS s v) (E:Option (List rX)) (x:AV) (h:∀a∈ol E,∃V,a.eM=ov aM (some V)/\Lk V (ol v.B).length=0):VS { s with cM:={ s.cM with early:=x }} { v with E:=E }:=⟨r.Ca,r.FH,r.AS,r.js,r.r0,r.e0,r.tv,r.ts,r.vo,r.eq,r.bo,r.od,h,r.oi,r.on⟩
def Rg (x:Int):Prop:=0<=x/\x<18446744073709551616
structure RB (b:Block):Prop where
 sl:Rg b.slot
 j:Rg b.eI.aE
 f:Rg b.fin.aE
 pj:Rg b.dW.pj.aE
 pf:Rg b.dW.pf.aE
def Pr (r:cC):Prop:=r≠cO/\r≠mkRoot 99
def BJ {α:Type} (l:List α):nz l≠some []:=by
 unfold nz;split
 ·nofun
 ·rename_i h;intro e;injection e with e;exact h e
structure NEv (v:SV):Prop where
 q:v.Q≠some []
 e:v.E≠some []
 o:v.O≠some []
 t:v.T≠some []
 ea:∀a∈ol v.E,∃V,a.eM=ov aM (some V)/\V≠[]
 tb:∀t∈ol v.T,∃B,t.iF=ov bF (some B)/\B≠[]
structure RG0 (s:aL) (v:SV):Prop where
 now:0<=s.now/\s.now<=1099511627776
 j:Rg s.aI.eI.aE
 f:Rg s.aI.fin.aE
 nd:∀n∈v.ns,RB n.block/\n.block.slot<=s.now
 or:∀b∈ol v.O,RB b/\Pr b.root
 rt:∀n∈v.ns,Pr n.block.root
 fe:s.aI.fin.aE<=s.aI.eI.aE/\s.aI.eI.aE<=wL s s.now
 ds:(v.ns.map fun n=>n.block.root).Nodup
 tb:∃t∈ol v.T,t.ck=s.aI.eI
 ne:NEv v
 vs:VS s v
structure RG (s:aL) (v:SV):Prop extends RG0 s v where
 op:OP v
def RG0.dP {s:aL} {v:SV} (r:RG0 s v) {c1 c2:dL} (r1:Rg c1.aE) (r2:Rg c2.aE):RG0 (pV s v c1 c2) (rE s v c1 c2):=by
 have XN:=r.vs.dP c1 c2
 have hJ:Rg (sU s c1).aE:=by unfold sU;split;exact r1;exact r.j
 have hF:Rg (oB s c2).aE:=by unfold oB;split;exact r2;exact r.f
 by_cases b:iP s v (sU s c1) (oB s c2)
 ·rw[show pV s v c1 c2=s from if_pos b,show rE s v c1 c2=v from if_pos b];exact r
 have fe:(oB s c2).aE<=(sU s c1).aE/\(sU s c1).aE<=wL s s.now:=by
  unfold iP at b;simp only[not_or] at b;obtain⟨_,_,_,_,_,_,_,b8,b9,_⟩:=b
  omega
 have tb:∃t∈ol (nz (tY (ol v.T) (sU s c1).aE)),t.ck=sU s c1:=by
  unfold iP at b;simp only[not_or] at b;obtain⟨_,_,_,_,_,_,_,_,_,b10⟩:=b
  unfold BB at b10;rcases lS (fun k=>(gx dM (ol v.T) k).ck=sU s c1) (ol v.T).length with ⟨e,_⟩|⟨k,h1,h2,_,h3⟩
  ·rw[e] at b10;omega
  ·refine⟨gx dM (ol v.T) k, ?_,h2⟩
   rw[mF];refine mem_filter.2 ⟨nC (by omega) (by omega),decide_eq_true ?_⟩
   rw[h2];exact Int.le_refl _
 by_cases e:oB s c2=s.aI.fin
 ·rw[show pV s v c1 c2=_ from (if_neg b).trans (if_pos e),show rE s v c1 c2=_ from (if_neg b).trans (if_pos e)];rw[show pV s v c1 c2=_ from (if_neg b).trans (if_pos e),show rE s v c1 c2=_ from (if_neg b).trans (if_pos e)] at XN;exact⟨r.now,hJ,hF,r.nd,r.or,r.rt,fe,r.ds,tb,⟨r.ne.q,r.ne.e,r.ne.o,BJ _,r.ne.ea,fun t ht=>r.ne.tb t (by have ht:t∈ol (nz (tY (ol v.T) (sU s c1).aE)):=ht;rw[mF] at ht;exact (mem_filter.1 ht).1)⟩,XN⟩
 ·rw[show pV s v c1 c2=_ from (if_neg b).trans (if_neg e),show rE s v c1 c2=_ from (if_neg b).trans (if_neg e)];rw[show pV s v c1 c2=_ from (if_neg b).trans (if_neg e),show rE s v c1 c2=_ from (if_neg b).trans (if_neg e)] at XN;refine⟨r.now,hJ,hF,fun n hn=>?_,fun o ho=>?_,fun n hn=>?_,fe,O9 r.ds _,tb,⟨r.ne.q,r.ne.e,BJ _,BJ _,r.ne.ea,fun t ht=>r.ne.tb t (by have ht:t∈ol (nz (tY (ol v.T) (sU s c1).aE)):=ht;rw[mF] at ht;exact (mem_filter.1 ht).1)⟩,XN⟩
  ·obtain⟨a,ha,e1,_⟩:=Ll _ _ _ (Nat.le_refl _) n hn
   rw[e1];exact r.nd a ha
  ·have ho:o∈ol (nz ((ol v.O).filter fun b=>decide ((sJ s (oB s c2).aE).1<b.slot))):=ho
   rw[mF] at ho;exact r.or o (mem_filter.1 ho).1
  ·obtain⟨a,ha,e1,_⟩:=Ll _ _ _ (Nat.le_refl _) n hn
   rw[e1];exact r.rt a ha
def RG.dP {s:aL} {v:SV} (r:RG s v) {c1 c2:dL} (r1:Rg c1.aE) (r2:Rg c2.aE):RG (pV s v c1 c2) (rE s v c1 c2):=⟨r.toRG0.dP r1 r2,r.op.dP c1 c2⟩
def RG0.ins {s:aL} {v:SV} {q:Int} (r:RG0 s v) (hg:GI s v q) {b:Block} (rb:RB b/\Pr b.root) (hc:Cs s v b=0):RG0 (sT s v b) (kO s v b):=by
 have hs:=RE (.inl hc)
 have g1:RG0 (Tryz.Hd s v b) (xX v b):=⟨r.now,r.j,r.f,fun n hn=>by
  rcases mem_append.1 (show n∈v.ns++[⟨b,aC v.ns b.parent,Cb b⟩] from hn) with hn|hn
  ·exact r.nd n hn
  ·rw[mem_singleton] at hn;subst hn;exact⟨rb.1,hs⟩,r.or,fun n hn=>by
  rcases mem_append.1 (show n∈v.ns++[⟨b,aC v.ns b.parent,Cb b⟩] from hn) with hn|hn
  ·exact r.rt n hn
  ·rw[mem_singleton] at hn;subst hn;exact rb.2,r.fe,by
  show ((v.ns++[(⟨b,aC v.ns b.parent,Cb b⟩:Node)]).map fun n:Node=>n.block.root).Nodup
  rw[map_append];refine nodup_append.2 ⟨r.ds,by simp,fun x hx y hy=>?_⟩
  simp only[map_cons,map_nil,mem_singleton] at hy;rintro rfl
  exact Lm (H0 hc) (hy ▸ hx),r.tb,⟨r.ne.q,r.ne.e,r.ne.o,r.ne.t,r.ne.ea,r.ne.tb⟩,r.vs.Hd hg hc⟩
 have g2:=g1.dP rb.1.j rb.1.f
 unfold sT kO;split
 ·exact RG0.dP g2 rb.1.pj rb.1.pf
 ·exact g2
def RG0.RC {s:aL} {v:SV} (r:RG0 s v) (O:Option (List Block)) (x:AV) (h:(ol O).Sublist (ol v.O)) (hO:O≠some []):RG0 (mP s x) { v with O:=O }:=⟨r.now,r.j,r.f,r.nd,fun b hb=>r.or b (h.subset hb),r.rt,r.fe,r.ds,r.tb,⟨r.ne.q,r.ne.e,hO,r.ne.t,r.ne.ea,r.ne.tb⟩,r.vs.RC O x h⟩
def RG.wait {s:aL} {v:SV} (r:RG s v) {b:Block} (rb:RB b/\Pr b.root) (hb:Cs s v b=10) (hp:aC v.ns b.parent<0) (x:AV):RG (mP s x) { v with O:=some (ol v.O++[{ b with wM:=false }])} :=
 ⟨⟨r.now,r.j,r.f,r.nd,fun c hc=>(mem_append.1 (show c∈ol v.O++[{ b with wM:=false }] from hc)).elim (r.or c) fun e=>by rw[mem_singleton] at e;subst e;exact⟨⟨rb.1.sl,rb.1.j,rb.1.f,rb.1.pj,rb.1.pf⟩,rb.2⟩,r.rt,r.fe,r.ds,r.tb,⟨r.ne.q,r.ne.e,by simp,r.ne.t,r.ne.ea,r.ne.tb⟩,r.vs.wait hb _ x rfl⟩,fun c hc=>(mem_append.1 (show c∈ol v.O++[{ b with wM:=false }] from hc)).elim (r.op c) fun e=>by rw[mem_singleton] at e;subst e;exact hp⟩
def RG0.dV {s:aL} {v:SV} (r:RG0 s v) (x:cC) (h:x=cO\/0<=aC v.ns x):RG0 { s with dV:=x } v:=⟨r.now,r.j,r.f,r.nd,r.or,r.rt,r.fe,r.ds,r.tb,r.ne,r.vs.dV x h⟩
def RG.dV {s:aL} {v:SV} (r:RG s v) (x:cC) (h:x=cO\/0<=aC v.ns x):RG { s with dV:=x } v:=⟨r.toRG0.dV x h,r.op⟩
def GI.mono {s:aL} {v:SV} {q q':Int} (h:GI s v q) (h1:q<=q') (h2:q'<=900000):GI s v q' :=
 ⟨h.sd,h.up,h.Ww,h.pos,h.nl,h.PK,h.jS,h.JB,h.nB,h.nO,h.LJ,h.nE,h.PL,h.nT,h.PM,by have:=h.nQ;omega,h2,h.eI⟩
def Ln:Flat (.agg (aA gC)):=by simp only[jE,gC,mX,Ou,Hc,Uo,and_self]
def StR (s:aL) (q:Int) (r:AV):Prop:=∃(s':aL) (e:Int),r=.eH [.agg (aA s'),.v (.int .i64 e)]/\Flat (.agg (aA s'))/\e≠21/\(e=0->∃v',GI s' v' q/\RG s' v'/\s'.cFg=s.cFg)
def StN (s:aL) (v:SV) (q:Int) (r:AV):Prop:=∃(s':aL) (e:Int),r=.eH [.agg (aA s'),.v (.int .i64 e)]/\Flat (.agg (aA s'))/\e≠21/\(e=0->∃v',GI s' v' q/\RG s' v'/\s'.cFg=s.cFg/\v'.ns=v.ns)
def aH0 (s:aL) (v:SV) (b:Block):Cs s v b≠21:=by
 unfold Cs;repeat (split;simp)
 simp
def FO (x:Int) (h1:0<=x) (h2:x<18446744073709551616):u64.wrap x=x:=by
 unfold IntKind.wrap;simp[IntKind.signed,IntKind.bits]
 omega
def aAI {x:Int} (h0:0<=x) (h1:x<18446744073709551616):u64.wrap ((BitVec.ofInt u64.bits x &&& BitVec.ofInt u64.bits 4294967295).toNat:Int)=x % 4294967296:=by
 obtain⟨n,rfl⟩:=Int.eq_ofNat_of_zero_le h0
 have hn:n<18446744073709551616:=by omega
 have e:(BitVec.ofInt u64.bits (n:Int) &&& BitVec.ofInt u64.bits 4294967295).toNat=n % 4294967296:=by
  rw[BitVec.toNat_and];have e1:(BitVec.ofInt u64.bits (n:Int)).toNat=n:=by
   rw[BitVec.toNat_ofInt];show ((n:Int) % ((2 ^ 64:Nat):Int)).toNat=n
   omega
  have e2:(BitVec.ofInt u64.bits 4294967295).toNat=2 ^ 32-1:=by decide
  rw[e1,e2,Nat.and_two_pow_sub_one_eq_mod]
 rw[e,FO _ (by omega) (by omega)]
 omega
def RI (x:Int) (h0:0<=x):x.fdiv (2 ^ min 32 u64.bits)=x / 4294967296:=by
 have e:(2:Int) ^ min 32 u64.bits=4294967296:=by decide
 rw[e,Int.fdiv_eq_ediv_of_nonneg _ (by omega)]
def aP6 {x y:Int} (x0:0<=x) (x1:x<18446744073709551616) (y0:0<=y) (y1:y<=64):aG prog 187 [.v (.int .u64 x),.v (.int .u64 y)]=some (.eH [.v (.int .u64 (x * y / 18446744073709551616)),.v (.int .u64 (u64.wrap (x * y)))]):=by
 have a1:=aAI x0 x1
 have a2:=aAI y0 (by omega)
 have s1:=RI x x0
 have s2:=RI y y0
 have hy:y % 4294967296=y:=by omega
 have hy1:y / 4294967296=0:=by omega
 rw[hy] at a2;rw[hy1] at s2;obtain⟨p,hp⟩:∃p,p=x % 4294967296:=⟨_,rfl⟩
 obtain⟨r,hr⟩:∃r,r=x / 4294967296:=⟨_,rfl⟩
 have hx:x=r * 4294967296+p:=by omega
 have p0:0<=p/\p<4294967296:=by omega
 have r0:0<=r/\r<4294967296:=by omega
 rw[<- hp] at a1;rw[<- hr] at s1;have py:0<=p * y/\p * y<=4294967296 * 64:=⟨Int.mul_nonneg p0.1 y0,Int.mul_le_mul (by omega) y1 y0 (by omega)⟩
 have ry:0<=r * y/\r * y<=4294967295 * 64:=⟨Int.mul_nonneg r0.1 y0,Int.mul_le_mul (by omega) y1 y0 (by omega)⟩
 obtain⟨A,hA⟩:∃A,A=p * y:=⟨_,rfl⟩
 obtain⟨B,hB⟩:∃B,B=r * y:=⟨_,rfl⟩
 have hxy:x * y=B * 4294967296+A:=by rw[hx,Int.add_mul,Int.mul_right_comm,<- hA,<- hB]
 rw[<- hA] at py;rw[<- hB] at ry;have w1:u64.wrap A=A:=FO _ (by omega) (by omega)
 have w2:u64.wrap B=B:=FO _ (by omega) (by omega)
 have s3:=RI A (by omega)
 obtain⟨C,hC⟩:∃C,C=B+A / 4294967296:=⟨_,rfl⟩
 have w3:u64.wrap (B+A / 4294967296)=C:=by rw[FO _ (by omega) (by omega),hC]
 have a3:=aAI (x:=C) (by omega) (by omega)
 have s4:=RI C (by omega)
 have s5:=RI (C % 4294967296) (by omega)
 have w4:u64.wrap (C % 4294967296)=C % 4294967296:=FO _ (by omega) (by omega)
 have w5:u64.wrap 0=0:=rfl
 have z5:C % 4294967296 / 4294967296=0:=by omega
 have w6:u64.wrap (C / 4294967296)=C / 4294967296:=FO _ (by omega) (by omega)
 have LK:x * y / 18446744073709551616=C / 4294967296:=by rw[hxy,hC];omega
 rw[LK];rw[cL func187 rfl rfl];simp only[Z8,seval,a1,a2,s1,s2,<- hA,<- hB,w1,w2,s3,w3,a3,s4,Int.mul_zero,w5,Int.add_zero,w4,s5,z5,Int.zero_add,w6];exact dN rfl rfl rfl (by simp only[E8,seval]<;>rfl) (by simp only[E8,seval]<;>rfl)
def aP7 (n:Int):aG prog 152 [.v (.int .u64 n)]=some (.v (.bool (decide (1<=n) && decide (n<=64)))):=by
 rw[cL func152 rfl rfl];by_cases h:1<=n
 all_goals
  simp only[Z8,seval,h,decide_true,decide_false,Bool.true_and,Bool.false_and];exact bT rfl (by simp only[E8,seval,h,decide_true,decide_false,Bool.true_and,Bool.false_and]<;>rfl) (.v _)
def aH1 (n:Int):KC 152 [.v (.int .u64 n)] (.v (.bool (decide (1<=n) && decide (n<=64)))):=fun _ _=>bE (cP (.v _)) (aP7 n) (.v _)
def c95 {e p:Int} (e0:0<=e) (e1:e<18446744073709551616):aG prog 95 [.v (.int .u64 e),.v (.int .u64 p)]=some (.eH [.v (.int .u64 (Mt e p).1),.v (.int .i64 (Mt e p).2)]):=by
 unfold Mt;by_cases h:1<=p/\p<=64
 ·have h1:(decide (1<=p) && decide (p<=64))=true:=by simp[h]
  rw[if_pos h];have k187:=kx (aP6 e0 e1 (y:=p) (by omega) h.2) (bB (.v _) (.v _)) (.eH _ (bB (.v _) (.v _)))
  have c153:aG prog 153 [.v (.int .u64 e),.v (.int .u64 p)]=some (.eH [.v (.int .u64 (AG e p).1),.v (.int .i64 (AG e p).2)]):=by
   rw[cL func153 rfl rfl];have ht:Int.tdiv 18446744073709551615 p=18446744073709551615 / p:=Int.tdiv_eq_ediv_of_nonneg (by omega)
   have hd:(18446744073709551615 / p<e)↔18446744073709551615<e * p:=Int.ediv_lt_iff_lt_mul (by omega)
   have hm:0<=e * p:=Int.mul_nonneg e0 (by omega)
   have hq:=Int.ediv_le_self p (show (0:Int)<=18446744073709551615 by omega)
   have hq0:=Int.ediv_nonneg (show (0:Int)<=18446744073709551615 by omega) (show 0<=p by omega)
   have hw:u64.wrap (18446744073709551615 / p)=18446744073709551615 / p:=FO _ hq0 (by omega)
   have hp0:p≠0:=by omega
   unfold AG;rw[ht,hw];by_cases g:e * p / 18446744073709551616=0
   ·rw[if_neg (fun k=>by have:=hd.1 k.2;omega)]
    simp only[Z8,seval,k187,dR,bt g];exact dN rfl rfl rfl (by simp only[E8,seval]<;>rfl) (by simp only[E8,seval]<;>rfl)
   ·rw[if_pos ⟨hp0,hd.2 (by omega)⟩]
    simp only[Z8,seval,k187,dR,bf g];exact dN rfl rfl rfl (by simp only[E8,seval]<;>rfl) (by simp only[E8,seval]<;>rfl)
  have k153:=kx c153 (bB (.v _) (.v _)) (.eH _ (bB (.v _) (.v _)))
  rw[cL func95 rfl rfl];simp only[Z8,seval,aH1,h1,k153,dR];exact dN rfl rfl rfl (by simp only[E8,seval]<;>rfl) (by simp only[E8,seval]<;>rfl)
 ·have h1:(decide (1<=p) && decide (p<=64))=false:=by
   rw[Bool.eq_false_iff];intro k;simp at k;exact h k
  rw[if_neg h];rw[cL func95 rfl rfl];simp only[Z8,seval,aH1,h1];exact dN rfl rfl rfl (by simp only[E8,seval]<;>rfl) (by simp only[E8,seval]<;>rfl)
def k95 {e p:Int} (h:Rg e):KC 95 [.v (.int .u64 e),.v (.int .u64 p)] (.eH [.v (.int .u64 (Mt e p).1),.v (.int .i64 (Mt e p).2)]):=fun _ _=>bE (bB (.v _) (.v _)) (c95 h.1 h.2) (.eH _ (bB (.v _) (.v _)))
def c94 {s:aL} (h:1<=s.cFg.jS/\s.cFg.jS<=64) (x:Int):aG prog 94 [.v (.int .u64 x),.v (.int .u64 s.cFg.jS)]=some (.eH [.v (.int .u64 (wL s x)),.v (.int .i64 0)]):=by
 have h1:(decide (1<=s.cFg.jS) && decide (s.cFg.jS<=64))=true:=by simp[h]
 have h0:(s.cFg.jS=0)=False:=eq_false (by omega)
 rw[cL func94 rfl rfl];simp only[Z8,seval,aH1,h1,h0];exact dN rfl rfl rfl (by simp only[E8,seval,wL]<;>rfl) (by simp only[E8,seval,wL]<;>rfl)
def k94 {s:aL} (h:1<=s.cFg.jS/\s.cFg.jS<=64) (x:Int):KC 94 [.v (.int .u64 x),.v (.int .u64 s.cFg.jS)] (.eH [.v (.int .u64 (wL s x)),.v (.int .i64 0)]):=fun _ _=>bE (bB (.v _) (.v _)) (c94 h x) (.eH _ (bB (.v _) (.v _)))
def aEg (o:Option (List cC)) (hn:((ol o).length:Int)<1000000) (r:cC):∃x,aG prog 250 [ov gX o,.agg (bC r)]=some x/\∃b:Bool,x=.v (.bool b):=by
 rw[cL func250 rfl (by cases o<;>rfl)]
 simp only[Z8,seval];refine cA (fun m st=>∃k:Nat,(st.env 0=ov gX o/\st.env 3=.ptr 3 0 0/\st.heap 3 0=some (.cells (bC r))/\st.env 5=.v (.int .i64 k))/\(∀j:Nat,j<k->¬(gx cO (ol o) (j:Int)=r))/\k<=(ol o).length/\m=(ol o).length-k)
  (fun e st=>(e=.ret/\∃k:Nat,k<(ol o).length/\(gx cO (ol o) (k:Int)=r)/\(∀j:Nat,j<k->¬(gx cO (ol o) (j:Int)=r))/\st.env 4=.v (.bool true))\/(e=.exit 0/\(∀j:Nat,j<(ol o).length->¬(gx cO (ol o) (j:Int)=r))/\st.env 0=ov gX o/\st.env 3=.ptr 3 0 0/\st.heap 3 0=some (.cells (bC r)))) ((ol o).length) ?step ?start ?rest
 case step =>
  rintro m st ⟨k,hI,hj,hk,hm⟩
  by_cases aW:(k:Int)<(ol o).length
  ·have q0:(0:Int)<=k:=by omega
   have hw:=wk (k:=k) (by omega)
   by_cases hh:gx cO (ol o) (k:Int)=r
   ·apply oT (.ret)
    ·simp only[Z8,seval,hI,aW,q0,hh];rfl
    ·exact .inl ⟨rfl,k,by omega,hh,hj,by simp only[E8,seval]⟩
   ·apply oN ((ol o).length-(k+1))
    ·simp only[Z8,seval,hI,aW,q0,hh,hw];rfl
    ·exact⟨k+1,by simp only[E8,seval,hI],fun j h=>(Nat.lt_succ_iff_lt_or_eq.1 h).elim (hj j) fun e=>by subst e;exact hh,by omega,rfl⟩
  ·apply oT (.exit 0)
   ·simp only[Z8,seval,hI,aW];rfl
   ·exact .inr ⟨rfl,fun j h=>hj j (by omega),by simp only[E8,seval,hI]⟩
 case start=>exact⟨0,by simp only[E8,seval]<;>rfl,fun j h=>by omega,by omega,by omega⟩
 case rest =>
  rintro e st (⟨rfl,k,hk,hh,hj,h⟩|⟨rfl,hj,hI⟩)
  ·simp only[Z8,seval];exact⟨_,bT rfl (by simp only[E8,seval,h]<;>rfl) (by first|exact .v _|simp only[jE,h]),_,rfl⟩
  ·simp only[Z8,seval];exact⟨_,bT rfl,_,rfl⟩
def P1 (l:List Table) (c:dL):-1<=BB l c/\BB l c<l.length:=YS _ _
def aP9 {s:aL} {v:SV} (hs:SD s v):∃x,aG prog 239 [.agg (aA s)]=some x/\∃o:Option (List Int),x=ov bF o/\((ol o).length:Int)<1000000:=by
 have XL:=hs.fT
 rw[cL func239 rfl rfl];have r1:=P1 (ol v.T) s.aI.eI
 by_cases g1:BB (ol v.T) s.aI.eI<0
 ·simp only[Z8,seval,hs.tables,YT _ hs.nT XL,g1];exact⟨_,bT rfl,none,rfl,by simp[ol]⟩
 have q0:0<=BB (ol v.T) s.aI.eI:=by omega
 obtain⟨b,hb,hl⟩:=hs.tB _ (nC (z:=dM) q0 r1.2)
 simp only[Z8,seval,hs.tables,YT _ hs.nT XL,g1,q0,r1,hb];exact⟨_,bT rfl (by simp only[E8,seval,hb]<;>rfl) (dZ b),b,rfl,hl⟩
def aQa (a b:Claim) (ha:Flat a.eM) (hb:Flat b.eM):∃x,aG prog 234 [.agg (gU a),.agg (gU b)]=some x/\∃c:Bool,x=.v (.bool c):=by
 rw[cL func234 rfl rfl];by_cases g1:a.target=b.target
 ·by_cases g2:a.source=b.source
  ·by_cases g3:a.root=b.root
   all_goals
    have g4:¬a.source<b.source:=by omega
    have g5:¬b.source<a.source:=by omega
    simp only[Z8,seval,bt g1,bt g2,g3,g4,g5];exact⟨_,bT rfl,_,rfl⟩
  ·by_cases g4:a.source<b.source
   all_goals
    by_cases g5:b.source<a.source
    all_goals
     by_cases g6:b.target<a.target
     all_goals
      by_cases g7:a.target<b.target
      all_goals
       simp only[Z8,seval,bt g1,bf g2,g4,g5,g6,g7];exact⟨_,bT rfl,_,rfl⟩
 ·by_cases g4:a.source<b.source
  all_goals
   by_cases g5:b.source<a.source
   all_goals
    by_cases g6:b.target<a.target
    all_goals
     by_cases g7:a.target<b.target
     all_goals
      simp only[Z8,seval,bf g1,g4,g5,g6,g7];exact⟨_,bT rfl,_,rfl⟩
def aQb {s:aL} {v:SV} (hs:SD s v):∃x,aG prog 209 [.agg (aA s)]=some x/\∃r:cC,x=.agg (bC r):=by
 rw[cL func209 rfl rfl];have r1:=cS v.ns s.aI.eI.root
 by_cases g1:0<=aC v.ns s.aI.eI.root
 ·by_cases g2:(nd v.ns (aC v.ns s.aI.eI.root)).status=1
  ·simp only[Z8,seval,hs.tree,lY _ _ hs.nn,g1,r1,bt g2];exact⟨_,fM rfl (by simp only[E8,seval]<;>rfl) (by simp only[Z8,seval]<;>rfl) (by simp only[jE,and_self]),_,rfl⟩
  ·simp only[Z8,seval,hs.tree,lY _ _ hs.nn,g1,r1,bf g2];exact⟨_,fM rfl (by simp only[E8,seval]<;>rfl) (by simp only[Z8,seval]<;>rfl) (by simp only[jE,and_self]),_,rfl⟩
 ·simp only[Z8,seval,hs.tree,lY _ _ hs.nn,g1];exact⟨_,fM rfl (by simp only[E8,seval]<;>rfl) (by simp only[Z8,seval]<;>rfl) (by simp only[jE,and_self]),_,rfl⟩
def aQc (c:Config) (hc:Flat c.iF) (x:Int):∃r,aG prog 240 [.agg (bX c),.v (.int .u64 x)]=some r/\∃a e:Int,r=.eH [.v (.int .u64 a),.v (.int .i64 e)]:=by
 rw[cL func240 rfl rfl];by_cases g1:c.jS<1
 ·simp only[Z8,seval,g1];exact⟨_,dN rfl rfl rfl (by simp only[E8,seval]<;>rfl) (by simp only[E8,seval]<;>rfl),_,_,rfl⟩
 by_cases g2:64<c.jS
 ·simp only[Z8,seval,g1,g2];exact⟨_,dN rfl rfl rfl (by simp only[E8,seval]<;>rfl) (by simp only[E8,seval]<;>rfl),_,_,rfl⟩
 by_cases g3:100<c.Js
 ·simp only[Z8,seval,g1,g2,g3];exact⟨_,dN rfl rfl rfl (by simp only[E8,seval]<;>rfl) (by simp only[E8,seval]<;>rfl),_,_,rfl⟩
 by_cases g4:4611686018427387904<x
 ·simp only[Z8,seval,g1,g2,g3,g4];exact⟨_,dN rfl rfl rfl (by simp only[E8,seval]<;>rfl) (by simp only[E8,seval]<;>rfl),_,_,rfl⟩
 have g5:(c.jS=0)=False:=eq_false (by omega)
 simp only[Z8,seval,g1,g2,g3,g4,g5];exact⟨_,dN rfl rfl rfl (by simp only[E8,seval]<;>rfl) (by simp only[E8,seval]<;>rfl),_,_,rfl⟩
def aH2 (o:Option (List cC)) (r:cC):Bool:=if h:((ol o).length:Int)<1000000 then Classical.choose (Classical.choose_spec (aEg o h r)).2 else false
def aQd (o:Option (List cC)) (hn:((ol o).length:Int)<1000000) (r:cC) (st:St) (d:Option Nat):bH (aG prog) 250 [ov gX o,.agg (bC r)] st d=some { dst:=d,val:=.v (.bool (aH2 o r))}:=by
 have h:=(Classical.choose_spec (aEg o hn r)).1
 rw[Classical.choose_spec (Classical.choose_spec (aEg o hn r)).2] at h;rw[show aH2 o r=Classical.choose (Classical.choose_spec (aEg o hn r)).2 from dif_pos hn];exact bE (bB (Jt o) (rH r)) h (.v _)
def aEh (l:List Int) (x:Int) (L:List Int):Prop:=(l.Pairwise (· < ·)->L.Pairwise (· < ·))/\∀y∈L,y=x\/y∈l
def H4 {l:List Int} {x:Int} {k:Nat} (h1:∀j:Nat,j<k->gx (0:Int) l (j:Int)<x) (h2:k<l.length->x<gx (0:Int) l (k:Int)):aEh l x (l.take k++[x]++l.drop k):=by
 have hg:∀(j:Nat) (h:j<l.length),gx (0:Int) l (j:Int)=l[j]:=fun j h=>by simp[gx,h]
 refine⟨fun hs=>?_,fun y hy=>?_⟩
 ·have lo:∀a∈l.take k,a<x:=fun a ha=>by
   obtain⟨j,hj,rfl⟩:=mem_take_iff_getElem.1 ha
   have:=h1 j (by omega)
   rwa [hg j (by omega)] at this
  have hi:∀b∈l.drop k,x<b:=fun b hb=>by
   obtain⟨j,hj,rfl⟩:=mem_drop_iff_getElem.1 hb
   have kl:k<l.length:=by omega
   have:=h2 kl
   rw[hg k kl] at this;rcases Nat.eq_zero_or_pos j with e|e
   ·subst e;exact this
   ·have:=pairwise_iff_getElem.1 hs k (k+j) kl (by omega) (by omega);omega
  refine pairwise_append.2 ⟨pairwise_append.2 ⟨hs.sublist (take_sublist ..),pairwise_singleton ..,fun a ha b hb=>?_⟩,hs.sublist (drop_sublist ..),fun a ha b hb=>?_⟩
  ·rw[mem_singleton.1 hb];exact lo a ha
  ·rcases mem_append.1 ha with ha|ha
   ·have:=lo a ha;have:=hi b hb;omega
   ·rw[mem_singleton.1 ha];exact hi b hb
 ·rcases mem_append.1 hy with hy|hy
  ·rcases mem_append.1 hy with hy|hy
   ·exact .inr (mem_of_mem_take hy)
   ·exact .inl (mem_singleton.1 hy)
  ·exact .inr (mem_of_mem_drop hy)
def aQe (o:Option (List Int)) (hn:((ol o).length:Int)<999999) (x:Int):∃r,aG prog 235 [ov aM o,.v (.int .i64 x)]=some r/\(r=ov aM o\/∃L:List Int,r=.uniq 3 1 L.length (aM L)/\L.length=(ol o).length+1/\aEh (ol o) x L):=by
 rw[cG func235 rfl (by cases o<;>rfl)]
 simp only[ZG,seval,BK];refine kZ (fun m st=>∃k:Nat,(st.env 0=ov aM o/\st.env 1=.v (.int .i64 x)/\st.env 5=.v (.int .i64 k))/\(∀j:Nat,j<k->gx (0:Int) (ol o) (j:Int)<x)/\k<=(ol o).length/\m=(ol o).length-k)
  (fun e st=>e=.exit 0/\∃k:Nat,(st.env 0=ov aM o/\st.env 1=.v (.int .i64 x)/\st.env 5=.v (.int .i64 k))/\(∀j:Nat,j<k->gx (0:Int) (ol o) (j:Int)<x)/\(k<(ol o).length->x<=gx (0:Int) (ol o) (k:Int))/\k<=(ol o).length) (ol o).length ?step ?start ?rest
 case step =>
  rintro m st ⟨k,hI,hj,hk,hm⟩
  by_cases aW:(k:Int)<(ol o).length
  ·have q0:(0:Int)<=k:=by omega
   have hw:=wk (k:=k) (by omega)
   by_cases h1:gx (0:Int) (ol o) (k:Int)<x
   ·apply Dr ((ol o).length-(k+1))
    ·simp only[ZG,seval,BK,hI,aW,q0,h1,hw];rfl
    ·exact⟨k+1,by simp only[E8,seval,hI],fun j h=>(Nat.lt_succ_iff_lt_or_eq.1 h).elim (hj j) fun e=>by subst e;exact h1,by omega,rfl⟩
   ·apply IY (.exit 0)
    ·simp only[ZG,seval,BK,hI,aW,q0,h1];rfl
    ·exact⟨rfl,k,by simp only[E8,seval,hI],hj,fun _=>by omega,hk⟩
  ·apply IY (.exit 0)
   ·simp only[ZG,seval,BK,hI,aW];rfl
   ·exact⟨rfl,k,by simp only[E8,seval,hI],hj,fun h=>absurd (by omega) aW,hk⟩
 case start=>exact⟨0,by simp only[E8,seval]<;>rfl,fun j h=>by omega,by omega,by omega⟩
 case rest =>
  rintro e st ⟨rfl,k,hI,hj1,hj2,hk⟩
  have e1:ol (o.map (·.take k))=(ol o).take k:=by cases o<;>simp[ol]
  have e2:ol (o.map (·.drop k))=(ol o).drop k:=by cases o<;>simp[ol]
  have n1:((((ol o).take k).length:Nat):Int)<1000000:=by rw[length_take];omega
  have n2:((((ol o).drop k).length:Nat):Int)<1000000:=by rw[length_drop];omega
  have n3:((((ol o).take k++[x]).length:Nat):Int)<1000000:=by rw[length_append,length_take];simp;omega
  have q0:(0:Int)<=k:=by omega
  have q1:(k:Int)<=((ol o).length:Int):=by omega
  by_cases aW:(k:Int)<(ol o).length
  ·by_cases h2:gx (0:Int) (ol o) (k:Int)=x
   ·simp only[ZG,seval,BK,hI,aW,q0,bt h2];exact⟨_,bT rfl (by simp only[E8,seval,hI]<;>rfl) (bQ o),.inl rfl⟩
   ·simp only[ZG,seval,BK,Ct,Cu,and_self,hI,aW,q0,q1,bf h2,Int.toNat_natCast,e1,e2,Rn _ n1,He _ _ _ _ n1,LM _ _ _ _ n3 n2];refine⟨_,uK rfl (by simp only[E8,seval]<;>rfl) (by simp only[E8,seval]<;>rfl) (gG _),.inr ⟨_,rfl,by simp;omega,H4 hj1 (fun h=>by have:=hj2 h;omega)⟩⟩
  ·simp only[ZG,seval,BK,Ct,Cu,and_self,hI,aW,q0,q1,Int.toNat_natCast,e1,e2,Rn _ n1,He _ _ _ _ n1,LM _ _ _ _ n3 n2];refine⟨_,uK rfl (by simp only[E8,seval]<;>rfl) (by simp only[E8,seval]<;>rfl) (gG _),.inr ⟨_,rfl,by simp;omega,H4 hj1 (fun h=>absurd (by omega) aW)⟩⟩
def aQf (o:Option (List Int)) (hn:((ol o).length:Int)<1000000) (a:Int):aG prog 49 [ov aM o,.v (.int .i64 a)]=some (.v (.bool (decide (a∈ol o)))):=by
 cases o with
 | none=>rw[show ol (none:Option (List Int))=[] from rfl];simp only[not_mem_nil,decide_false];exact aLp a
 | some l=>exact c49 l a hn
def aH3 (o:Option (List Int)) (hn:((ol o).length:Int)<1000000) (a:Int):KC 49 [ov aM o,.v (.int .i64 a)] (.v (.bool (decide (a∈ol o)))):=fun _ _=>bE (bB (bQ o) (.v _)) (aQf o hn a) (.v _)
def aQg (t:vT) (L:Option (List kN)) (Q:Option (List Int)) (hL:t.dS=ov dE L) (hQ:t.gA=ov aM Q) (nL:((ol L).length:Int)<1000000) (nQ:((ol Q).length:Int)<1000000)
 (B:Option (List Int)) (nB:((ol B).length:Int)<1000000) (R:Option (List cC)) (nR:((ol R).length:Int)<1000000) :
 ∃r,aG prog 248 [.agg (eQ t),ov bF B,ov gX R]=some r/\∃a:Int,r=.v (.int .u64 a):=by
 rw[cL func248 rfl (by cases B<;>cases R<;>rfl)]
 simp only[Z8,seval];refine cA (fun m st=>∃(k:Nat) (a:Int),(st.env 1=ov bF B/\st.env 2=ov gX R/\st.env 3=.ptr 3 0 0/\st.heap 3 0=some (.cells (eQ t))/\st.env 7=.v (.int .u64 a)/\st.env 8=.v (.int .i64 k))/\k<=(ol B).length/\m=(ol B).length-k)
  (fun e st=>e=.exit 0/\∃a:Int,st.env 7=.v (.int .u64 a)) (ol B).length ?step ?start ?rest
 case step =>
  rintro m st ⟨k,a,hI,hk,hm⟩
  by_cases aW:(k:Int)<(ol B).length
  ·have q0:(0:Int)<=k:=by omega
   have hw:=wk (k:=k) (by omega)
   by_cases h1:(k:Int)<(ol L).length
   ·cases h2:(gx pN (ol L) (k:Int)).has
    ·apply oN ((ol B).length-(k+1))
     ·simp only[Z8,seval,hI,aW,q0,hL,hQ,h1,h2,hw];rfl
     ·exact⟨k+1,_,by simp only[E8,seval,hI]<;>rfl,by omega,rfl⟩
    ·by_cases h3:(k:Int)∈ol Q
     ·apply oN ((ol B).length-(k+1))
      ·simp only[Z8,seval,hI,aW,q0,hL,hQ,h1,h2,aH3 Q nQ,h3,decide_true,hw];rfl
      ·exact⟨k+1,_,by simp only[E8,seval,hI]<;>rfl,by omega,rfl⟩
     ·cases h4:aH2 R (gx pN (ol L) (k:Int)).root
      all_goals
       refine pP (st':=?_) ?_ ((ol B).length-(k+1)) (by omega) ?_
       rotate_left
       ·simp only[Z8,seval,hI,aW,q0,hL,hQ,h1,h2,aH3 Q nQ,h3,decide_false,aQd R nR,h4,hw];rfl
       ·exact⟨k+1,_,by simp only[E8,seval,hI]<;>rfl,by omega,rfl⟩
   ·apply oT (.exit 0)
    ·simp only[Z8,seval,hI,aW,q0,hL,h1];rfl
    ·exact⟨rfl,a,by simp only[E8,seval,hI]⟩
  ·apply oT (.exit 0)
   ·simp only[Z8,seval,hI,aW];rfl
   ·exact⟨rfl,a,by simp only[E8,seval,hI]⟩
 case start=>exact⟨0,0,by simp only[E8,seval]<;>rfl,by omega,by omega⟩
 case rest =>
  rintro e st ⟨rfl,a,h⟩
  simp only[Z8,seval,h];exact⟨_,bT rfl (by simp only[E8,seval,h]<;>rfl) (by first|exact .v _|simp only[jE,h]),_,rfl⟩
def aQh (ns:List Node) (hn:(ns.length:Int)<1000000) (l:List Int) (hl:l.length=ns.length) (r:cC) (a:Int):∃x,aG prog 243 [.agg (cH ⟨ns⟩),.sl l.length (bF l),.agg (bC r),.v (.int .u64 a)]=some x/\∃m:List Int,x=.uniq 23 1 m.length (bF m)/\m.length=ns.length:=by
 have Iv:(l.length:Int)<1000000:=by omega
 have rr:=cS ns r
 rw[cL func243 rfl rfl];by_cases g1:0<=aC ns r
 case neg =>
  simp only[Z8,seval,Hb _ Iv,lY _ _ hn,g1];exact⟨_,uK rfl (by simp only[E8,seval]<;>rfl) (by simp only[E8,seval]<;>rfl) (iG _),l,rfl,hl⟩
 by_cases g2:(nd ns (aC ns r)).status=2
 ·simp only[Z8,seval,Hb _ Iv,lY _ _ hn,g1,rr,bt g2];exact⟨_,uK rfl (by simp only[E8,seval]<;>rfl) (by simp only[E8,seval]<;>rfl) (iG _),l,rfl,hl⟩
 by_cases g3:r=cO
 ·subst g3;simp only[Z8,seval,Hb _ Iv,lY _ _ hn,g1,rr,bf g2];exact⟨_,uK rfl (by simp only[E8,seval]<;>rfl) (by simp only[E8,seval]<;>rfl) (iG _),l,rfl,hl⟩
 have q1:aC ns r<(l.length:Int):=by omega
 have q2:(aC ns r).toNat<l.length:=by omega
 have q3:(aC ns r).toNat+1<=l.length:=by omega
 have hy:=P2 g1 q1
 have zM:∀z:Int,dP (bF l) (aC ns r).toNat [.v (.int .u64 z)] ((aC ns r).toNat+1)=bF (l.set (aC ns r).toNat z):=fun z=>by
  have:=aAJ l (aC ns r) z q2
  simpa using this
 have ld:=aAK (T:=23) (n:=l.length) (k:=1) g1 q1 YZ (by decide) (by decide)
 rw[Nat.mul_one] at ld;simp only[Z8,seval,Hb _ Iv,lY ns r hn,g1,rr,bf g2,g3,q1,q2,q3,hy,zM,ld,Nat.mul_one];exact⟨_,uK rfl (by simp only[E8,seval]<;>rfl) (by simp only[E8,seval]<;>rfl) (iG _),_,by rw[length_set],by rw[length_set];exact hl⟩
def aEi (r:cC):gX [r]=bC r:=by simp[gX]
def aAL (r:cC):jN (some (.row 27 32 1 (bC r)))=some (.sl 1 (gX [r])):=by rw[<- aEi];exact xJ 1 [r]
def aL3 (t:vT) (B:Option (List Int)) (r:cC):Int:=if h:∃a:Int,aG prog 248 [.agg (eQ t),ov bF B,ov gX (some [r])]=some (.v (.int .u64 a)) then Classical.choose h else 0
def aL4 (t:vT) (L:Option (List kN)) (Q:Option (List Int)) (hL:t.dS=ov dE L) (hQ:t.gA=ov aM Q) (nL:((ol L).length:Int)<1000000) (nQ:((ol Q).length:Int)<1000000)
 (B:Option (List Int)) (nB:((ol B).length:Int)<1000000) (r:cC) (s g:Nat) (st:St) (d:Option Nat) (hh:st.heap s g=some (.row 27 32 1 (bC r))) :
 bH (aG prog) 248 [.agg (eQ t),ov bF B,.own s g] st d=some { dst:=d,val:=.v (.int .u64 (aL3 t B r))}:=by
 obtain⟨x,hx,a,rfl⟩:=aQg t L Q hL hQ nL nQ B nB (some [r]) (by simp[ol])
 have he:∃a:Int,aG prog 248 [.agg (eQ t),ov bF B,ov gX (some [r])]=some (.v (.int .u64 a)):=⟨a,hx⟩
 have hf:Flat (.agg (eQ t)):=(Qy t).2 ⟨by rw[hL];exact pM L,by rw[hQ];exact bQ Q⟩
 rw[show aL3 t B r=Classical.choose he from dif_pos he];rw[jY,map_cons,map_cons,map_cons,map_nil,eC hf,eC (dZ B),wN,hh,aAL,bK,bK,bK,fY];exact Wy (Classical.choose_spec he)
def aQi (ns:List Node) (hn:(ns.length:Int)<1000000) (h0:0<ns.length) (t:vT) (L:Option (List kN)) (Q:Option (List Int)) (hL:t.dS=ov dE L) (hQ:t.gA=ov aM Q) (nL:((ol L).length:Int)<1000000) (nQ:((ol Q).length:Int)<1000000)
 (B:Option (List Int)) (nB:((ol B).length:Int)<1000000) :
 ∃x,aG prog 241 [.agg (cH ⟨ns⟩),.agg (eQ t),ov bF B]=some x/\∃m:List Int,x=.uniq 23 1 m.length (bF m)/\m.length=ns.length:=by
 have kw:=fun r g=>aL4 t L Q hL hQ nL nQ B nB r 33 g
 rw[cL func241 rfl (by cases B<;>rfl)]
 simp only[Z8,seval];refine cA (fun m st=>∃k:Nat,(st.env 3=.ptr 3 0 0/\st.heap 3 0=some (.cells (cH ⟨ns⟩))/\st.env 4=.ptr 4 0 0/\st.heap 4 0=some (.cells (eQ t))/\st.env 2=ov bF B/\st.env 8=.v (.int .i64 k))/\((k=0/\st.env 7=.v (.slice none 0 0))\/∃(l:List Int) (g:Nat),st.env 7=.own 38 g/\g<st.aQ 38/\st.heap 38 g=some (.row 23 1 l.length (bF l))/\l.length=k)/\k<=ns.length/\m=ns.length-k)
  (fun e st=>e=.exit 0/\∃(l:List Int) (g:Nat),st.env 7=.own 38 g/\st.heap 38 g=some (.row 23 1 l.length (bF l))/\l.length=ns.length) ns.length ?step ?start ?rest
 case step =>
  rintro m st ⟨k,hI,h7,hk,hm⟩
  by_cases aW:(k:Int)<ns.length
  ·have q0:(0:Int)<=k:=by omega
   have hw:=wk (k:=k) (by omega)
   by_cases h1:(nd ns k).status=2
   ·rcases h7 with ⟨rC,h7⟩|⟨l,g,h7,hg,Ik,hl⟩
    ·apply oN (ns.length-(k+1))
     ·simp only[Z8,seval,hI,h7,aW,q0,bt h1,hw];rfl
     ·exact⟨k+1,by simp only[E8,seval,hI],.inr ⟨[0],st.aQ 38,by simp only[E8,seval]<;>rfl,by simp only[E8,seval]<;>omega,by simp only[E8,seval]<;>rfl,by simp;omega⟩,by omega,rfl⟩
    ·have nl:(l.length:Int)<1000000:=by omega
     apply oN (ns.length-(k+1))
     ·simp only[Z8,seval,hI,h7,Ik,aW,q0,bt h1,hw,xK _ _ _ _ nl];rfl
     ·exact⟨k+1,by simp only[E8,seval,hI],.inr ⟨_,st.aQ 38,by simp only[E8,seval]<;>rfl,by simp only[E8,seval]<;>omega,by simp only[E8,seval]<;>rfl,by rw[length_append];simp;omega⟩,by omega,rfl⟩
   ·rcases h7 with ⟨rC,h7⟩|⟨l,g,h7,hg,Ik,hl⟩
    ·apply oN (ns.length-(k+1))
     ·simp only[Z8,seval,hI,h7,aW,q0,bf h1,kw (nd ns k).block.root,hw];rfl
     ·exact⟨k+1,by simp only[E8,seval,hI],.inr ⟨[_],st.aQ 38,by simp only[E8,seval]<;>rfl,by simp only[E8,seval]<;>omega,by simp only[E8,seval]<;>rfl,by simp;omega⟩,by omega,rfl⟩
    ·have nl:(l.length:Int)<1000000:=by omega
     apply oN (ns.length-(k+1))
     ·simp only[Z8,seval,hI,h7,Ik,aW,q0,bf h1,kw (nd ns k).block.root,hw,xK _ _ _ _ nl];rfl
     ·exact⟨k+1,by simp only[E8,seval,hI],.inr ⟨_,st.aQ 38,by simp only[E8,seval]<;>rfl,by simp only[E8,seval]<;>omega,by simp only[E8,seval]<;>rfl,by rw[length_append];simp;omega⟩,by omega,rfl⟩
  ·have Cn:k=ns.length:=by omega
   rcases h7 with ⟨rC,h7⟩|⟨l,g,h7,hg,Ik,hl⟩
   ·omega
   ·apply oT (.exit 0)
    ·simp only[Z8,seval,hI,aW];rfl
    ·exact⟨rfl,l,g,by simp only[E8,seval,h7],by simp only[E8,seval,Ik],by omega⟩
 case start=>exact⟨0,by simp only[E8,seval]<;>rfl,.inl ⟨rfl,by simp only[E8,seval]⟩,by omega,by omega⟩
 case rest =>
  rintro e st ⟨rfl,l,g,h7,Ik,hl⟩
  simp only[Z8,seval,h7];exact⟨_,uK rfl (by simp only[E8,seval,h7]<;>rfl) (by simp only[E8,seval,Ik]<;>rfl) (iG _),l,rfl,hl⟩
def aQj (ns:List Node) (hu:fK ns) (hn:(ns.length:Int)<1000000) (h0:0<ns.length) (l:List Int) (hl:l.length=ns.length) :
 ∃x,aG prog 242 [.agg (cH ⟨ns⟩),.sl l.length (bF l)]=some x/\∃m:List Int,x=.uniq 23 1 m.length (bF m)/\m.length=ns.length:=by
 rw[cL func242 rfl rfl];simp only[Z8,seval];refine cA (fun m st=>∃k:Nat,(st.env 2=.ptr 2 0 0/\st.heap 2 0=some (.cells (cH ⟨ns⟩))/\st.env 1=.sl l.length (bF l)/\st.env 6=.v (.int .i64 k))/\((k=0/\st.env 5=.v (.slice none 0 0))\/∃(l:List Int) (g:Nat),st.env 5=.own 38 g/\g<st.aQ 38/\st.heap 38 g=some (.row 23 1 l.length (bF l))/\l.length=k)/\k<=ns.length/\m=ns.length-k)
  (fun e st=>e=.exit 0/\∃(l:List Int) (g:Nat),st.env 5=.own 38 g/\st.heap 38 g=some (.row 23 1 l.length (bF l))/\l.length=ns.length) ns.length ?step ?start ?rest
 case step =>
  rintro m st ⟨k,hI,h5,hk,hm⟩
  by_cases aW:(k:Int)<ns.length
  ·have q0:(0:Int)<=k:=by omega
   have hw:=wk (k:=k) (by omega)
   have kd:=k64 ns hu hn k (YF hu q0 aW ns.length aW)
   have hrg:=KY ns k
   have hdl:=Zc ns k ns.length
   obtain⟨D,hD⟩:∃D,As ns k ns.length=D:=⟨_,rfl⟩
   rw[hD] at kd hrg hdl;simp only[Z8,seval,hI,aW,q0,kd];refine HZ (fun mm st'=>∃(j:Nat) (a:Int),(st'.env 2=.ptr 2 0 0/\st'.heap 2 0=some (.cells (cH ⟨ns⟩))/\st'.env 1=.sl l.length (bF l)/\st'.env 6=.v (.int .i64 k)/\st'.env 5=st.env 5/\st'.aQ 38=st.aQ 38/\(∀g,st'.heap 38 g=st.heap 38 g)/\st'.env 7=.v (.int .u64 a)/\st'.env 8=.own 19 (st.aQ 19)/\st'.heap 19 (st.aQ 19)=some (.row 3 1 D.length (aM D))/\st'.env 9=.v (.int .i64 j))/\j<=D.length/\mm=D.length-j)
    (fun e st'=>e=.exit 2/\∃a:Int,(st'.env 2=.ptr 2 0 0/\st'.heap 2 0=some (.cells (cH ⟨ns⟩))/\st'.env 1=.sl l.length (bF l)/\st'.env 6=.v (.int .i64 k)/\st'.env 5=st.env 5/\st'.aQ 38=st.aQ 38/\(∀g,st'.heap 38 g=st.heap 38 g)/\st'.env 7=.v (.int .u64 a))) D.length ?RJ ?BL ?BM
   case RJ =>
    rintro mm st' ⟨j,a,hJ,hj,H5⟩
    by_cases P3:(j:Int)<D.length
    ·have p0:(0:Int)<=j:=by omega
     have hw2:=wk (k:=j) (by omega)
     obtain⟨hjt,hje⟩:=yR p0 P3
     have hx:=hrg _ (getElem_mem hjt)
     rw[<- hje] at hx;have x0:=hx.1
     have x1:it D j<(l.length:Int):=by omega
     have gi:=oI p0 P3
     apply oN (D.length-(j+1))
     ·simp only[Z8,seval,hJ,P3,p0,x0,x1,gi,hw2];rfl
     ·exact⟨j+1,u64.wrap (a+gx (0:Int) l (it D j)),by simp only[E8,seval,hJ,implies_true,and_self],by omega,rfl⟩
    ·apply oT (.exit 2)
     ·simp only[Z8,seval,hJ,P3];rfl
     ·exact⟨rfl,a,by simp only[E8,seval,hJ,implies_true,and_self]⟩
   case BL=>exact⟨0,0,by simp only[E8,seval,hI,implies_true,and_self]<;>rfl,by omega,by omega⟩
   case BM =>
    rintro e st' ⟨rfl,a,hJ⟩
    obtain⟨j2,j2',j1,j6,j5,jc,jh,j7⟩:=hJ
    rcases h5 with ⟨rC,h5⟩|⟨l',g,h5,hg,Bz,Iv⟩
    ·rw[h5] at j5;refine YE (st':=?s3) ?h3 (ns.length-(k+1)) (by omega) ?q3
     case h3 =>
      simp only[Z8,seval,j2,j2',j1,j6,j5,jc,j7,hw];rfl
     case q3=>exact⟨k+1,by simp only[E8,seval,j2,j2',j1],.inr ⟨[a],st.aQ 38,by simp only[E8,seval,jc]<;>rfl,by simp only[E8,seval,jc]<;>omega,by simp only[E8,seval,jc]<;>rfl,by simp;omega⟩,by omega,rfl⟩
    ·rw[h5] at j5;have nl:(l'.length:Int)<1000000:=by omega
     have jhh:=jh g
     rw[Bz] at jhh;refine YE (st':=?s4) ?h4 (ns.length-(k+1)) (by omega) ?q4
     case h4 =>
      simp only[Z8,seval,j2,j2',j1,j6,j5,jc,jhh,j7,hw,xK _ _ _ _ nl];rfl
     case q4=>exact⟨k+1,by simp only[E8,seval,j2,j2',j1],.inr ⟨l'++[a],st.aQ 38,by simp only[E8,seval,jc]<;>rfl,by simp only[E8,seval,jc]<;>omega,by simp only[E8,seval,jc]<;>rfl,by rw[length_append];simp;omega⟩,by omega,rfl⟩
  ·have Cn:k=ns.length:=by omega
   rcases h5 with ⟨rC,h5⟩|⟨l,g,h5,hg,Bz,hl⟩
   ·omega
   ·apply oT (.exit 0)
    ·simp only[Z8,seval,hI,aW];rfl
    ·exact⟨rfl,l,g,by simp only[E8,seval,h5],by simp only[E8,seval,Bz],by omega⟩
 case start=>exact⟨0,by simp only[E8,seval]<;>rfl,.inl ⟨rfl,by simp only[E8,seval]⟩,by omega,by omega⟩
 case rest =>
  rintro e st ⟨rfl,l,g,h5,Bz,hl⟩
  simp only[Z8,seval,h5];exact⟨_,uK rfl (by simp only[E8,seval,h5]<;>rfl) (by simp only[E8,seval,Bz]<;>rfl) (iG _),l,rfl,hl⟩
def aQk {s:aL} {v:SV} {q:Int} (h:GI s v q):∃x,aG prog 223 [.agg (aA s)]=some x/\∃m:List Int,x=.uniq 23 1 m.length (bF m)/\m.length=v.ns.length:=by
 have hf:=h.sd.flat
 have hn:=h.sd.nn
 obtain⟨r1,e1,o,rfl,ho⟩:=aP9 h.sd
 have k239:=kx e1 (cP hf) (dZ o)
 obtain⟨r2,e2,a,c,rfl,_⟩:=aLR o ho
 have O3:=kx e2 (cP (dZ o)) (.eH _ (bB (.v _) (.v _)))
 have hcb:Flat s.cFg.iF:=h.sd.fl.1
 obtain⟨r3,e3,a3,c3,rfl⟩:=aQc s.cFg hcb a
 have k240:=kx e3 (bB ((wH _).2 hcb) (.v _)) (.eH _ (bB (.v _) (.v _)))
 obtain⟨r4,e4,m1,rfl,hm1⟩:=aQi v.ns hn h.pos s.fP v.L v.Q h.sd.dS h.sd.gA h.sd.nL h.sd.nQ o ho
 have hfv:Flat (.agg (eQ s.fP)):=(Qy _).2 ⟨h.sd.fl.2.1,h.sd.fl.2.2.1⟩
 have k241:∀(st:St),bH (aG prog) 241 [.agg (cH ⟨v.ns⟩),.agg (eQ s.fP),ov bF o] st (some 28)=_:=fun st=>jM (st:=st) (d:=28) (mM (lL _) hfv (dZ o)) e4
 obtain⟨r5,e5,m2,rfl,hm2⟩:=aQh v.ns hn m1 hm1 s.dV a3
 have k243:∀(st:St) (g:Nat),st.heap 28 g=some (.row 23 1 m1.length (bF m1))->bH (aG prog) 243 [.agg (cH ⟨v.ns⟩),.own 28 g,.agg (bC s.dV),.v (.int .u64 a3)] st (some 37)=some { dst:=some 37,val:=.own 37 (st.aQ 37),new:=some (37,[.row 23 1 m2.length (bF m2)])}:=by
  intro st g hh;rw[jY,map_cons,map_cons,map_cons,map_cons,map_nil,Lo,wN,hh,vA,Us,Oq,bK,bK,bK,bK,fY];exact aAN e5 (HW m2)
 obtain⟨r6,e6,m3,rfl,hm3⟩:=aQj v.ns h.up hn h.pos m2 hm2
 have k242:∀(st:St) (g:Nat),st.heap 37 g=some (.row 23 1 m2.length (bF m2))->bH (aG prog) 242 [.agg (cH ⟨v.ns⟩),.own 37 g] st (some 38)=some { dst:=some 38,val:=.own 38 (st.aQ 38),new:=some (38,[.row 23 1 m3.length (bF m3)])}:=by
  intro st g hh;rw[jY,map_cons,map_cons,map_nil,Lo,wN,hh,vA,bK,bK,fY];exact aAN e6 (HW m3)
 rw[cL func223 rfl rfl];simp only[Z8,seval,k239,O3,dR,k240,h.sd.tree,k241,k243,k242];exact⟨_,uK rfl (by simp only[E8,seval]<;>rfl) (by simp only[E8,seval]<;>rfl) (iG _),m3,rfl,hm3⟩
def FP (s:aL) (v:SV) (i:Int):dL:=if 0<=i/\i<v.ns.length then (if wL s (nd v.ns i).block.slot<wL s s.now then (nd v.ns i).block.dW.pj else (nd v.ns i).block.eI) else gM
def aQl {s:aL} {v:SV} (hs:SD s v) (hp:s.cFg.jS≠0) (i:Int):aG prog 252 [.agg (aA s),.v (.int .i64 i)]=some (.agg (bG (FP s v i))):=by
 have hf:=hs.flat
 rw[cL func252 rfl rfl];refine iA ?_
 by_cases g1:0<=i
 case neg =>
  have hv:FP s v i=gM:=if_neg (fun h=>g1 h.1)
  simp only[Z8,seval,BA hs,g1,Bool.false_and];exact⟨_,fM rfl (by simp only[E8,seval]<;>rfl) (by simp only[Z8,seval]<;>rfl) (by simp only[jE,and_self]),by rw[hv]⟩
 by_cases g2:i<(v.ns.length:Int)
 case neg =>
  have hv:FP s v i=gM:=if_neg (fun h=>g2 h.2)
  simp only[Z8,seval,BA hs,g1,g2,Bool.and_false];exact⟨_,fM rfl (by simp only[E8,seval]<;>rfl) (by simp only[Z8,seval]<;>rfl) (by simp only[jE,and_self]),by rw[hv]⟩
 by_cases g3:wL s (nd v.ns i).block.slot<wL s s.now
 ·have hv:FP s v i=(nd v.ns i).block.dW.pj:=by unfold FP;rw[if_pos ⟨g1,g2⟩,if_pos g3]
  simp only[Z8,seval,BA hs,g1,g2,hs.tree,Oo s hp hf,g3];exact⟨_,fM rfl (by simp only[E8,seval]<;>rfl) (by simp only[Z8,seval]<;>rfl) (by simp only[jE,and_self]),by rw[hv]⟩
 ·have hv:FP s v i=(nd v.ns i).block.eI:=by unfold FP;rw[if_pos ⟨g1,g2⟩,if_neg g3]
  simp only[Z8,seval,BA hs,g1,g2,hs.tree,Oo s hp hf,g3];exact⟨_,fM rfl (by simp only[E8,seval]<;>rfl) (by simp only[Z8,seval]<;>rfl) (by simp only[jE,and_self]),by rw[hv]⟩
def aEj {s:aL} {v:SV} (hs:SD s v) (hp:s.cFg.jS≠0) (i:Int):KC 252 [.agg (aA s),.v (.int .i64 i)] (.agg (bG (FP s v i))):=fun _ _=>bE (bB hs.flat (.v _)) (aQl hs hp i) (.agg _ (bR _))
def aL5 {s:aL} {v:SV} (hs:SD s v) (hp:s.cFg.jS≠0) (i:Int):∃r,aG prog 249 [.agg (aA s),.v (.int .i64 i)]=some r/\∃b:Bool,r=.v (.bool b):=by
 have hf:=hs.flat
 rw[cL func249 rfl rfl];by_cases g1:0<=i
 case neg =>
  simp only[Z8,seval,BA hs,g1,Bool.false_and];exact⟨_,bT rfl,_,rfl⟩
 by_cases g2:i<(v.ns.length:Int)
 case neg =>
  simp only[Z8,seval,BA hs,g1,g2,Bool.and_false];exact⟨_,bT rfl,_,rfl⟩
 by_cases g3:(nd v.ns i).status=2
 ·simp only[Z8,seval,BA hs,g1,g2,hs.tree,bt g3];exact⟨_,bT rfl,_,rfl⟩
 by_cases g4:s.aI.eI.aE=0
 ·simp only[Z8,seval,BA hs,g1,g2,hs.tree,bf g3,aEj hs hp,bt g4];exact⟨_,bT rfl,_,rfl⟩
 by_cases g5:(FP s v i).aE=s.aI.eI.aE
 ·simp only[Z8,seval,BA hs,g1,g2,hs.tree,bf g3,aEj hs hp,bf g4,bt g5];exact⟨_,bT rfl,_,rfl⟩
 by_cases g6:wL s s.now<=(FP s v i).aE
 ·simp only[Z8,seval,BA hs,g1,g2,hs.tree,bf g3,aEj hs hp,bf g4,bf g5,Oo s hp hf,g6];exact⟨_,bT rfl,_,rfl⟩
 ·simp only[Z8,seval,BA hs,g1,g2,hs.tree,bf g3,aEj hs hp,bf g4,bf g5,Oo s hp hf,g6];exact⟨_,bT rfl,_,rfl⟩
def aH4 (ns:List Node) (i x:Int):∀k:Nat,x∈Wz ns i k->(0<=x/\x<k)/\(nd ns x).up=i:=by
 intro k;induction k with
 | zero=>intro h;simp[Wz] at h
 | succ k ih =>
   intro h;unfold Wz at h;split at h
   ·rename_i hc;rcases mem_append.1 h with h|h
    ·have:=ih h;omega
    ·have hx:=mem_singleton.1 h
     subst hx;exact⟨by omega,hc⟩
   ·have:=ih h;omega
def LN {ns:List Node} (hu:fK ns) (hr:(nd ns 0).up=-1) {i x:Int} (h:x∈xV ns i):i<x/\0<=x/\x<ns.length:=by
 unfold xV at h;split at h
 ·simp at h
 ·rename_i hi;obtain⟨⟨x0,x1⟩,zM⟩:=aH4 ns i x _ h
  by_cases hx:x=0
  ·subst hx;rw[hr] at zM;omega
  ·have:=(hu x (by omega) x1).2;omega
def aL6 {s:aL} {v:SV} (hs:SD s v) (hu:fK v.ns) (hr:(nd v.ns 0).up=-1) (hp:s.cFg.jS≠0):∀(n:Nat) (i:Int),((v.ns.length:Int)-i).toNat<=n->∃b:Bool,aG prog 244 [.agg (aA s),.v (.int .i64 i)]=some (.v (.bool b)):=by
 have base:∀(i:Int),xV v.ns i=[]->∃b:Bool,aG prog 244 [.agg (aA s),.v (.int .i64 i)]=some (.v (.bool b)):=by
  intro i hc;obtain⟨r,hr9,b,rfl⟩:=aL5 hs hp i
  have aAO:=kx hr9 (bB hs.flat (.v _)) (.v _)
  have kc:=fun st d=>aGv v.ns hu hr hs.nn i hc st d
  suffices h:∃r,aG prog 244 [.agg (aA s),.v (.int .i64 i)]=some r/\∃b:Bool,r=.v (.bool b) by
   obtain⟨r,h,b,rfl⟩:=h;exact⟨b,h⟩
  rw[cL func244 rfl rfl];cases b
  ·simp only[Z8,seval,aAO,hs.tree,kc];refine cA (fun m st=>st.env 5=.v (.slice none 0 0)/\st.env 6=.v (.int .i64 0)/\m=0) (fun e st=>e=.exit 0) 0 ?step ?start ?rest
   case step =>
    rintro m st ⟨h5,h6,_⟩
    apply oT (.exit 0)
    ·simp only[Z8,seval,h5,h6,Int.lt_irrefl];rfl
    ·exact rfl
   case start=>exact⟨by simp only[E8,seval]<;>rfl,by simp only[E8,seval]<;>rfl,rfl⟩
   case rest =>
    rintro e st rfl
    simp only[Z8,seval];exact⟨_,bT rfl,_,rfl⟩
  ·simp only[Z8,seval,aAO];exact⟨_,bT rfl,_,rfl⟩
 intro n;induction n with
 | zero =>
   intro i hi;exact base i (QD hu hr (by omega))
 | succ n ih =>
   intro i hi;by_cases hc:xV v.ns i=[]
   ·exact base i hc
   obtain⟨r,hr9,b,rfl⟩:=aL5 hs hp i
   have aAO:=kx hr9 (bB hs.flat (.v _)) (.v _)
   have kc:=fun st d=>aLy v.ns hu hr hs.nn i hc st d
   have hB:∀x:Int,∃b:Bool,x∈xV v.ns i->aG prog 244 [.agg (aA s),.v (.int .i64 x)]=some (.v (.bool b)):=by
    intro x;by_cases hx:x∈xV v.ns i
    ·have:=LN hu hr hx
     obtain⟨b,hb⟩:=ih x (by omega)
     exact⟨b,fun _=>hb⟩
    ·exact⟨false,fun h=>absurd h hx⟩
   obtain⟨B,hB⟩:∃B:Int->Bool,∀x,x∈xV v.ns i->aG prog 244 [.agg (aA s),.v (.int .i64 x)]=some (.v (.bool (B x))):=⟨fun x=>Classical.choose (hB x),fun x=>Classical.choose_spec (hB x)⟩
   have hgt:∀x∈xV v.ns i,i<x/\0<=x/\x<v.ns.length:=fun x hx=>LN hu hr hx
   have hin:((xV v.ns i).length:Int)<1000000:=by
    have h1:(xV v.ns i).length<=v.ns.length:=by
     unfold xV;split
     ·simp
     ·exact Zd v.ns i v.ns.length
    have:=hs.nn;omega
   obtain⟨l,el⟩:∃l,xV v.ns i=l:=⟨_,rfl⟩
   rw[el] at kc hB hin;suffices h:∃r,aG prog 244 [.agg (aA s),.v (.int .i64 i)]=some r/\∃b:Bool,r=.v (.bool b) by
    obtain⟨r,h,b,rfl⟩:=h;exact⟨b,h⟩
   rw[cL func244 rfl rfl];cases b
   case true =>
    simp only[Z8,seval,aAO];exact⟨_,bT rfl,_,rfl⟩
   simp only[Z8,seval,aAO,hs.tree,kc];refine cA (fun m st=>∃k:Nat,(st.env 2=.ptr 2 0 0/\st.heap 2 0=some (.cells (aA s))/\st.env 5=.own 13 0/\st.heap 13 0=some (.row 3 1 l.length (aM l))/\st.env 6=.v (.int .i64 k))/\(∀j:Nat,j<k->¬(B (it l (j:Int))=true))/\k<=l.length/\m=l.length-k)
    (fun e st=>(e=.ret/\∃k:Nat,k<l.length/\(B (it l (k:Int))=true)/\(∀j:Nat,j<k->¬(B (it l (j:Int))=true))/\st.env 4=.v (.bool true))\/(e=.exit 0/\(∀j:Nat,j<l.length->¬(B (it l (j:Int))=true))/\st.env 2=.ptr 2 0 0/\st.heap 2 0=some (.cells (aA s))/\st.env 5=.own 13 0/\st.heap 13 0=some (.row 3 1 l.length (aM l)))) (l.length) ?step ?start ?rest
   case step =>
    rintro m st ⟨k,hI,hj,hk,hm⟩
    by_cases aW:(k:Int)<l.length
    ·have q0:(0:Int)<=k:=by omega
     have hw:=wk (k:=k) (by omega)
     have gi:=oI q0 aW
     have hm2:it l (k:Int)∈l:=by obtain⟨h1,h2⟩:=yR q0 aW;rw[h2];exact getElem_mem h1
     have kb:=kx (hB _ hm2) (bB hs.flat (.v _)) (.v _)
     by_cases hh:B (it l (k:Int))=true
     ·apply oT (.ret)
      ·simp only[Z8,seval,hI,aW,q0,kb,gi,hh];rfl
      ·exact .inl ⟨rfl,k,by omega,hh,hj,by simp only[E8,seval,kb,gi]⟩
     ·have hn:B (it l (k:Int))=false:=by simpa using hh
      apply oN (l.length-(k+1))
      ·simp only[Z8,seval,hI,aW,q0,kb,gi,hn,hw];rfl
      ·exact⟨k+1,by simp only[E8,seval,hI],fun j h=>(Nat.lt_succ_iff_lt_or_eq.1 h).elim (hj j) fun e=>by subst e;exact hh,by omega,rfl⟩
    ·apply oT (.exit 0)
     ·simp only[Z8,seval,hI,aW,aW];rfl
     ·exact .inr ⟨rfl,fun j h=>hj j (by omega),by simp only[E8,seval,hI]⟩
   case start=>exact⟨0,by simp only[E8,seval]<;>rfl,fun j h=>by omega,by omega,by omega⟩
   case rest =>
    rintro e st (⟨rfl,k,hk,hh,hj,h⟩|⟨rfl,hj,hI⟩)
    ·simp only[Z8,seval];exact⟨_,bT rfl (by simp only[E8,seval,h]<;>rfl) (by first|exact .v _|simp only[jE,h]),_,rfl⟩
    ·simp only[Z8,seval];exact⟨_,bT rfl,_,rfl⟩
def aQo {s:aL} {v:SV} {q:Int} (h:GI s v q):∃x,aG prog 224 [.agg (aA s)]=some x/\∃m:List Bool,x=.uniq 4 1 m.length (nG m)/\m.length=v.ns.length:=by
 have hn:=h.sd.nn
 have h0:=h.pos
 obtain⟨B,hB⟩:∃B:Int->Bool,∀x,aG prog 244 [.agg (aA s),.v (.int .i64 x)]=some (.v (.bool (B x))):=⟨fun x=>Classical.choose (aL6 h.sd h.up h.Ww h.sp _ x (Nat.le_refl _)),fun x=>Classical.choose_spec (aL6 h.sd h.up h.Ww h.sp _ x (Nat.le_refl _))⟩
 have kb:∀(x:Int) (st:St) (d:Option Nat),bH (aG prog) 244 [.agg (aA s),.v (.int .i64 x)] st d=some { dst:=d,val:=.v (.bool (B x))}:=fun x=>kx (hB x) (bB h.sd.flat (.v _)) (.v _)
 rw[cL func224 rfl rfl];simp only[Z8,seval];refine cA (fun m st=>∃k:Nat,(st.env 1=.ptr 1 0 0/\st.heap 1 0=some (.cells (aA s))/\st.env 4=.v (.int .i64 k))/\((k=0/\st.env 3=.v (.slice none 0 0))\/∃(l:List Bool) (g:Nat),st.env 3=.own 18 g/\g<st.aQ 18/\st.heap 18 g=some (.row 4 1 l.length (nG l))/\l.length=k)/\k<=v.ns.length/\m=v.ns.length-k)
  (fun e st=>e=.exit 0/\∃(l:List Bool) (g:Nat),st.env 3=.own 18 g/\st.heap 18 g=some (.row 4 1 l.length (nG l))/\l.length=v.ns.length) v.ns.length ?step ?start ?rest
 case step =>
  rintro m st ⟨k,hI,h5,hk,hm⟩
  by_cases aW:(k:Int)<v.ns.length
  ·have q0:(0:Int)<=k:=by omega
   have hw:=wk (k:=k) (by omega)
   rcases h5 with ⟨rC,h5⟩|⟨l',g,h5,hg,Bz,Iv⟩
   ·apply oN (v.ns.length-(k+1))
    ·simp only[Z8,seval,hI,h5,aW,q0,h.sd.tree,kb,hw];rfl
    ·exact⟨k+1,by simp only[E8,seval,hI],.inr ⟨[B k],st.aQ 18,by simp only[E8,seval]<;>rfl,by simp only[E8,seval]<;>omega,by simp only[E8,seval]<;>rfl,by simp;omega⟩,by omega,rfl⟩
   ·have nl:(l'.length:Int)<1000000:=by omega
    apply oN (v.ns.length-(k+1))
    ·simp only[Z8,seval,hI,h5,Bz,aW,q0,h.sd.tree,kb,hw,RK _ _ _ _ nl];rfl
    ·exact⟨k+1,by simp only[E8,seval,hI],.inr ⟨l'++[B k],st.aQ 18,by simp only[E8,seval]<;>rfl,by simp only[E8,seval]<;>omega,by simp only[E8,seval]<;>rfl,by rw[length_append];simp;omega⟩,by omega,rfl⟩
  ·have Cn:k=v.ns.length:=by omega
   rcases h5 with ⟨rC,h5⟩|⟨l,g,h5,hg,Bz,hl⟩
   ·omega
   ·apply oT (.exit 0)
    ·simp only[Z8,seval,hI,aW,h.sd.tree];rfl
    ·exact⟨rfl,l,g,by simp only[E8,seval,h5],by simp only[E8,seval,Bz],by omega⟩
 case start=>exact⟨0,by simp only[E8,seval]<;>rfl,.inl ⟨rfl,by simp only[E8,seval]⟩,by omega,by omega⟩
 case rest =>
  rintro e st ⟨rfl,l,g,h5,Bz,hl⟩
  simp only[Z8,seval,h5];exact⟨_,uK rfl (by simp only[E8,seval,h5]<;>rfl) (by simp only[E8,seval,Bz]<;>rfl) (Xc _),l,rfl,hl⟩
def wO {x:AV} (h:Flat x):jI x=[]:=by
 have one:∀c,Flat c->iB c=[]:=fun c hc=>by cases hc<;>rfl
 cases h with
 | agg cs h =>
   simp only[jI];rw[flatMap_eq_nil_iff];exact fun c hc=>one c (h c hc)
 | _=>rfl
def ZF {args:List AV} (h:∀x∈args,Flat x):args.flatMap jI=[]:=flatMap_eq_nil_iff.2 fun x hx=>wO (h x hx)
def RL {call:Nat->List AV->Option AV} {g:Nat} {args:List AV} {st:St} {d:Option Nat} (h:∀x∈args,Flat x):fJ call g args st d=bH call g args st d:=by
 unfold fJ;rw[ZF h]
def Ju {call:Nat->List AV->Option AV} {g:Nat} {args:List AV} {r:AV} {st:St} {d:Option Nat} (hf:∀x∈args,Flat x) (h:call g args=some r) (hr:Flat r):fJ call g args st d=some { dst:=d,val:=r }:=by
 rw[RL hf];exact bE hf h hr
def Ov (call:Nat->List AV->Option AV) (g:Nat) (xs:Option (List AV)) (s k:Nat) (st:St) (d:Option Nat):Option qZ :=
 cT xs fun xs=>cT (call g xs) fun r=>Gr r st d s k
def Ro {call:Nat->List AV->Option AV} {g:Nat} {args:List AV} {st:St} {d:Option Nat} {s k:Nat} (hk:args.flatMap jI=[(s,k)]) (he:∀x∈args,E3 x):fJ call g args st d=Ov call g (cK (args.map (fS st))) s k st d:=by
 unfold fJ Ov;rw[hk];simp only
 rw[if_pos he];cases cK (args.map (fS st))<;>rfl
def RM {call:Nat->List AV->Option AV} {g:Nat} {xs:List AV} {r:AV} {s k:Nat} {st:St} {d:Option Nat} (h:call g xs=some r) (hr:Flat r):Ov call g (some xs) s k st d=some { dst:=d,val:=r,dP:=some (s,k,none)}:=by
 unfold Ov Gr;simp only[cF,h,if_pos hr]
def aEk {call:Nat->List AV->Option AV} {g:Nat} {xs:List AV} {e sz n:Nat} {cs:List AV} {s k:Nat} {st:St} {d:Nat} (h:call g xs=some (.uniq e sz n cs)) (hm:∀c∈cs,iE c):Ov call g (some xs) s k st (some d)=some { dst:=some d,val:=.own d (st.aQ d),dP:=some (s,k,none),new:=some (d,[.row e sz n cs])}:=by
 have hnf:¬Flat (.uniq e sz n cs):=by intro h;cases h
 unfold Ov Gr;simp only[cF,h,if_neg hnf,if_pos hm]
def aAP {call:Nat->List AV->Option AV} {g:Nat} {args:List AV} {e sz n:Nat} {cs:List AV} {st:St} {d:Nat} (hf:∀x∈args,Flat x) (h:call g args=some (.uniq e sz n cs)):fJ call g args st (some d)=some { dst:=some d,val:=.own d (st.aQ d),new:=some (d,[.row e sz n cs])}:=by
 have hnf:¬Flat (.uniq e sz n cs):=by intro h;cases h
 rw[RL hf];unfold bH;rw[if_pos hf,h];simp only[cF];unfold iZ;rw[if_neg hnf];rfl
def Ut {st:St} {a g:Nat} {L:List Int} (hh:st.heap a g=some (.row 3 1 L.length (aM L))):fS st (.own a g)=some (ov aM (some L)):=by
 rw[wN,hh];exact kE L.length L
def aL7 (o:Option (List Int)) (hn:((ol o).length:Int)<999999) (x:Int) :
 ((∀(st:St) (d:Nat),fJ (aG prog) 235 [ov aM o,.v (.int .i64 x)] st (some d)=some { dst:=some d,val:=ov aM o }) /\
  ∀(st:St) (d a g:Nat) (L:List Int),o=some L->st.heap a g=some (.row 3 1 L.length (aM L))->fJ (aG prog) 235 [.own a g,.v (.int .i64 x)] st (some d)=some { dst:=some d,val:=ov aM (some L),dP:=some (a,g,none)}) \/
 ∃M:List Int,(M.length=(ol o).length+1/\aEh (ol o) x M)/\(∀(st:St) (d:Nat),fJ (aG prog) 235 [ov aM o,.v (.int .i64 x)] st (some d)=some { dst:=some d,val:=.own d (st.aQ d),new:=some (d,[.row 3 1 M.length (aM M)])}) /\
  ∀(st:St) (d a g:Nat) (L:List Int),o=some L->st.heap a g=some (.row 3 1 L.length (aM L))->fJ (aG prog) 235 [.own a g,.v (.int .i64 x)] st (some d)=some { dst:=some d,val:=.own d (st.aQ d),dP:=some (a,g,none),new:=some (d,[.row 3 1 M.length (aM M)])}:=by
 have one:∀(st:St) (d a g:Nat) (L:List Int),o=some L->st.heap a g=some (.row 3 1 L.length (aM L))->fJ (aG prog) 235 [.own a g,.v (.int .i64 x)] st (some d)=Ov (aG prog) 235 (some [ov aM o,.v (.int .i64 x)]) a g st (some d):=by
  rintro st d a g L rfl hh
  rw[Ro (s:=a) (k:=g) rfl (by intro y hy;simp only[mem_cons,not_mem_nil,or_false] at hy;rcases hy with rfl|rfl;exact .inr (.inl ⟨a,g,rfl⟩);exact .inl (.v _)),
   map_cons,map_cons,map_nil,Ut hh,Oq,bK,bK,fY]
  rfl
 obtain⟨r,hr,h⟩:=aQe o hn x
 rcases h with rfl|⟨M,rfl,hM⟩
 ·refine .inl ⟨fun st d=>Ju (bB (bQ o) (.v _)) hr (bQ o),fun st d a g L ho hh=>?_⟩
  rw[one st d a g L ho hh];subst ho;exact RM hr (bQ _)
 ·refine .inr ⟨M,hM,fun st d=>aAP (bB (bQ o) (.v _)) hr,fun st d a g L ho hh=>?_⟩
  rw[one st d a g L ho hh];exact aEk hr (P4 M)
def aL8 (x:gB) (V W:Option (List Int)) (hV:x.first.eM=ov aM V) (hW:x.second.eM=ov aM W) (nV:((ol V).length:Int)<99999) (nW:((ol W).length:Int)<99999) :
 ∃r,aG prog 221 [.agg (cD x)]=some r/\∃o:Option (List Int),(((ol o).length:Int)<=(ol V).length/\∀y∈ol o,y∈ol V)/\(r=ov aM o\/∃L,o=some L/\r=.uniq 3 1 L.length (aM L)):=by
 have f1:Flat x.first.eM:=by rw[hV];exact bQ V
 have f2:Flat x.second.eM:=by rw[hW];exact bQ W
 rw[cL func221 rfl rfl];simp only[Z8,seval];refine cA (fun m st=>∃k:Nat,(st.env 1=.ptr 1 0 0/\st.heap 1 0=some (.cells (cD x))/\st.env 4=.v (.int .i64 k))/\(∃o:Option (List Int),((ol o).length<=k/\∀y∈ol o,y∈ol V)/\(st.env 3=ov aM o\/∃g L,o=some L/\st.env 3=.own 30 g/\g<st.aQ 30/\st.heap 30 g=some (.row 3 1 L.length (aM L))))/\k<=(ol V).length/\m=(ol V).length-k)
  (fun e st=>e=.exit 0/\∃o:Option (List Int),((ol o).length<=(ol V).length/\∀y∈ol o,y∈ol V)/\(st.env 3=ov aM o\/∃g L,o=some L/\st.env 3=.own 30 g/\st.heap 30 g=some (.row 3 1 L.length (aM L)))) (ol V).length ?step ?start ?rest
 case step =>
  rintro m st ⟨k,hI,⟨o,⟨ho,hoV⟩,h3⟩,hk,hm⟩
  by_cases aW:(k:Int)<(ol V).length
  ·have q0:(0:Int)<=k:=by omega
   have hw:=wk (k:=k) (by omega)
   have aAQ:=aH3 W (by omega) (gx (0:Int) (ol V) (k:Int))
   by_cases h1:gx (0:Int) (ol V) (k:Int)∈ol W
   ·have HU:=eq_true h1
    rcases aL7 o (by omega) (gx (0:Int) (ol V) (k:Int)) with ⟨ea,eb⟩|⟨M,⟨hM,hMi⟩,ea,eb⟩
    ·rcases h3 with h3|⟨g,L,hL,h3,hg,hh⟩
     ·apply oN ((ol V).length-(k+1))
      ·simp only[Z8,seval,hI,h3,aW,q0,hV,hW,aAQ,HU,ea,hw];rfl
      ·exact⟨k+1,by simp only[E8,seval,hI],⟨o,⟨by omega,hoV⟩,.inl (by simp only[E8,seval])⟩,by omega,rfl⟩
     ·have eb':=fun st d a g=>eb st d a g L hL
      have ho':(ol (some L)).length<=k:=by rw[<- hL];exact ho
      apply oN ((ol V).length-(k+1))
      ·simp only[Z8,seval,hI,h3,hh,aW,q0,hV,hW,aAQ,HU,eb',hw];rfl
      ·exact⟨k+1,by simp only[E8,seval,hI],⟨some L,⟨by omega,by rw[<- hL];exact hoV⟩,.inl (by simp only[E8,seval])⟩,by omega,rfl⟩
    ·have hMV:∀y∈M,y∈ol V:=fun y hy=>(hMi.2 y hy).elim (fun e=>by rw[e];exact nC q0 aW) (hoV y)
     rcases h3 with h3|⟨g,L,hL,h3,hg,hh⟩
     ·apply oN ((ol V).length-(k+1))
      ·simp only[Z8,seval,hI,h3,aW,q0,hV,hW,aAQ,HU,ea,hw];rfl
      ·exact⟨k+1,by simp only[E8,seval,hI],⟨some M,⟨by show M.length<=_;omega,hMV⟩,.inr ⟨_,M,rfl,by simp only[E8,seval]<;>rfl,by simp only[E8,seval]<;>omega,by simp only[E8,seval]<;>rfl⟩⟩,by omega,rfl⟩
     ·have eb':=fun st d a g=>eb st d a g L hL
      have vQ:(g=st.aQ 30)=False:=eq_false (by omega)
      apply oN ((ol V).length-(k+1))
      ·simp only[Z8,seval,hI,h3,hh,vQ,aW,q0,hV,hW,aAQ,HU,eb',hw];rfl
      ·exact⟨k+1,by simp only[E8,seval,hI],⟨some M,⟨by show M.length<=_;omega,hMV⟩,.inr ⟨_,M,rfl,by simp only[E8,seval]<;>rfl,by simp only[E8,seval]<;>omega,by simp only[E8,seval]<;>rfl⟩⟩,by omega,rfl⟩
   ·have HU:=eq_false h1
    have h3':st.env 3=ov aM o\/∃g L,o=some L/\st.env 3=.own 30 g/\g<st.aQ 30/\st.heap 30 g=some (.row 3 1 L.length (aM L)):=h3
    apply oN ((ol V).length-(k+1))
    ·simp only[Z8,seval,hI,aW,q0,hV,hW,aAQ,HU,hw];rfl
    ·exact⟨k+1,by simp only[E8,seval,hI],⟨o,⟨by omega,hoV⟩,by simpa only[E8,seval] using h3'⟩,by omega,rfl⟩
  ·have h3':st.env 3=ov aM o\/∃g L,o=some L/\st.env 3=.own 30 g/\st.heap 30 g=some (.row 3 1 L.length (aM L)):=h3.imp id fun ⟨g,L,a,b,_,c⟩=>⟨g,L,a,b,c⟩
   apply oT (.exit 0)
   ·simp only[Z8,seval,hI,aW,hV];rfl
   ·exact⟨rfl,o,⟨by omega,hoV⟩,by simpa only[E8,seval] using h3'⟩
 case start=>exact⟨0,by simp only[E8,seval]<;>rfl,⟨none,⟨by simp[ol],fun y hy=>by cases hy⟩,.inl (by simp only[E8,seval]<;>rfl)⟩,by omega,by omega⟩
 case rest =>
  rintro e st ⟨rfl,o,⟨ho,hoV⟩,h3⟩
  rcases h3 with h3|⟨g,L,hL,h3,hh⟩
  ·simp only[Z8,seval,h3];exact⟨_,bT rfl (by simp only[E8,seval,h3]<;>rfl) (bQ o),o,⟨by omega,hoV⟩,.inl rfl⟩
  ·simp only[Z8,seval,h3];exact⟨_,uK rfl (by simp only[E8,seval,h3]<;>rfl) (by simp only[E8,seval,hh]<;>rfl) (gG _),o,⟨by omega,hoV⟩,.inr ⟨L,hL,rfl⟩⟩
def aL9 {o:Option (List Int)} {L:List Int} (h:(ol o).length<=L.length):i64.wrap ((L.length:Int)-((ol o).length:Int))≠0->L≠[]:=by
 rintro hn rfl
 have h0:(ol o).length=0:=by simpa using h
 rw[h0] at hn;exact hn (by decide)
def ZH (l V L:List Int):Prop:=(l.Pairwise (· < ·)->L.Pairwise (· < ·))/\∀y∈L,y∈l\/y∈V
def ZH.ins {l V L M:List Int} (h:ZH l V L) {x:Int} (g:aEh L x M) (hx:x∈V):ZH l V M:=⟨fun p=>g.1 (h.1 p),fun y hy=>(g.2 y hy).elim (fun e=>.inr (by rw[e];exact hx)) (h.2 y)⟩
def aQq (o V:Option (List Int)) (no:((ol o).length:Int)<900000) (nV:((ol V).length:Int)<99999) :
 ∃r,aG prog 220 [ov aM o,ov aM V]=some r/\∃(L:List Int) (n:Int),r=.eH [ov aM (some L),.v (.int .i64 n)]/\L.length<=(ol o).length+(ol V).length/\(n≠0->L≠[])/\ZH (ol o) (ol V) L:=by
 rw[cL func220 rfl (by cases o<;>cases V<;>rfl)]
 have no':((ol o).length:Int)<1000000:=by omega
 simp only[Z8,seval,Rn _ no'];refine cA (fun m st=>∃k:Nat,(st.env 0=ov aM o/\st.env 1=ov aM V/\st.env 7=.v (.int .i64 k))/\(∃L:List Int,((ol o).length<=L.length/\L.length<=(ol o).length+k/\ZH (ol o) (ol V) L)/\(st.env 6=ov aM (some L)\/(∃g,st.env 6=.own 21 g/\g<st.aQ 21/\st.heap 21 g=some (.row 3 1 L.length (aM L)))\/(st.env 6=.own 9 0/\st.heap 9 0=some (.row 3 1 L.length (aM L)))))/\k<=(ol V).length/\m=(ol V).length-k)
  (fun e st=>e=.exit 0/\(st.env 0=ov aM o)/\∃L:List Int,((ol o).length<=L.length/\L.length<=(ol o).length+(ol V).length/\ZH (ol o) (ol V) L)/\(st.env 6=ov aM (some L)\/∃a g,st.env 6=.own a g/\st.heap a g=some (.row 3 1 L.length (aM L)))) (ol V).length ?step ?start ?rest
 case step =>
  rintro m st ⟨k,hI,⟨L,hL,h3⟩,hk,hm⟩
  by_cases aW:(k:Int)<(ol V).length
  ·have q0:(0:Int)<=k:=by omega
   have hw:=wk (k:=k) (by omega)
   rcases aL7 (some L) (by show (L.length:Int)<_;omega) (gx (0:Int) (ol V) (k:Int)) with ⟨ea,eb⟩|⟨M,⟨hM,hMi⟩,ea,eb⟩
   ·rcases h3 with h3|⟨g,h3,hg,hh⟩|⟨h3,hh⟩
    ·apply oN ((ol V).length-(k+1))
     ·simp only[Z8,seval,hI,h3,aW,q0,ea,hw];rfl
     ·exact⟨k+1,by simp only[E8,seval,hI],⟨L,⟨hL.1,by omega,hL.2.2⟩,.inl (by simp only[E8,seval])⟩,by omega,rfl⟩
    ·have eb':=fun st d a g=>eb st d a g L rfl
     apply oN ((ol V).length-(k+1))
     ·simp only[Z8,seval,hI,h3,hh,aW,q0,eb',hw];rfl
     ·exact⟨k+1,by simp only[E8,seval,hI],⟨L,⟨hL.1,by omega,hL.2.2⟩,.inl (by simp only[E8,seval])⟩,by omega,rfl⟩
    ·have eb':=fun st d a g=>eb st d a g L rfl
     apply oN ((ol V).length-(k+1))
     ·simp only[Z8,seval,hI,h3,hh,aW,q0,eb',hw];rfl
     ·exact⟨k+1,by simp only[E8,seval,hI],⟨L,⟨hL.1,by omega,hL.2.2⟩,.inl (by simp only[E8,seval])⟩,by omega,rfl⟩
   ·have hM':M.length=L.length+1:=hM
    have hMP:ZH (ol o) (ol V) M:=hL.2.2.ins hMi (nC q0 aW)
    rcases h3 with h3|⟨g,h3,hg,hh⟩|⟨h3,hh⟩
    ·apply oN ((ol V).length-(k+1))
     ·simp only[Z8,seval,hI,h3,aW,q0,ea,hw];rfl
     ·exact⟨k+1,by simp only[E8,seval,hI],⟨M,⟨by omega,by omega,hMP⟩,.inr (.inl ⟨_,by simp only[E8,seval]<;>rfl,by simp only[E8,seval]<;>omega,by simp only[E8,seval]<;>rfl⟩)⟩,by omega,rfl⟩
    ·have eb':=fun st d a g=>eb st d a g L rfl
     have vQ:(g=st.aQ 21)=False:=eq_false (by omega)
     apply oN ((ol V).length-(k+1))
     ·simp only[Z8,seval,hI,h3,hh,vQ,aW,q0,eb',hw];rfl
     ·exact⟨k+1,by simp only[E8,seval,hI],⟨M,⟨by omega,by omega,hMP⟩,.inr (.inl ⟨_,by simp only[E8,seval]<;>rfl,by simp only[E8,seval]<;>omega,by simp only[E8,seval]<;>rfl⟩)⟩,by omega,rfl⟩
    ·have eb':=fun st d a g=>eb st d a g L rfl
     apply oN ((ol V).length-(k+1))
     ·simp only[Z8,seval,hI,h3,hh,aW,q0,eb',hw];rfl
     ·exact⟨k+1,by simp only[E8,seval,hI],⟨M,⟨by omega,by omega,hMP⟩,.inr (.inl ⟨_,by simp only[E8,seval]<;>rfl,by simp only[E8,seval]<;>omega,by simp only[E8,seval]<;>rfl⟩)⟩,by omega,rfl⟩
  ·have h3':st.env 6=ov aM (some L)\/∃a g,st.env 6=.own a g/\st.heap a g=some (.row 3 1 L.length (aM L)):=by
    rcases h3 with h3|⟨g,h3,hg,hh⟩|⟨h3,hh⟩
    ·exact .inl h3
    ·exact .inr ⟨21,g,h3,hh⟩
    ·exact .inr ⟨9,0,h3,hh⟩
   apply oT (.exit 0)
   ·simp only[Z8,seval,hI,aW];rfl
   ·exact⟨rfl,by simp only[E8,seval,hI],L,⟨hL.1,by omega,hL.2.2⟩,by simpa only[E8,seval] using h3'⟩
 case start=>exact⟨0,by simp only[E8,seval]<;>rfl,⟨ol o,⟨by omega,by omega,fun h=>h,fun y hy=>.inl hy⟩,.inr (.inr ⟨by simp only[E8,seval],by simp only[E8,seval]⟩)⟩,by omega,by omega⟩
 case rest =>
  rintro e st ⟨rfl,h0,L,hL,h3⟩
  rcases h3 with h3|⟨a,g,h3,hh⟩
  ·simp only[Z8,seval,h3,h0];exact⟨_,dN rfl rfl rfl (by simp only[E8,seval,h3,Hf]<;>rfl) (by simp only[E8,seval,h3,Hf]<;>rfl),L,_,rfl,hL.2.1,aL9 hL.1,hL.2.2⟩
  ·simp only[Z8,seval,h3,hh,h0];exact⟨_,dN rfl rfl rfl (by simp only[E8,seval,h3,hh,kE]<;>rfl) (by simp only[E8,seval,h3,hh,kE]<;>rfl),L,_,rfl,hL.2.1,aL9 hL.1,hL.2.2⟩
def aQs (x:gB) (V W:Option (List Int)) (hV:x.first.eM=ov aM V) (hW:x.second.eM=ov aM W) (nV:((ol V).length:Int)<99999) (nW:((ol W).length:Int)<99999) (n:Int) :
 ∃r,aG prog 219 [.agg (cD x),.v (.int .i64 n)]=some r/\∃e:Int,r=.v (.int .i64 e)/\e≠21/\(e=0->Lk (ol V) n=0):=by
 have f1:Flat x.first.eM:=by rw[hV];exact bQ V
 have f2:Flat x.second.eM:=by rw[hW];exact bQ W
 have fx:Flat (.agg (cD x)):=(nM x).2 ⟨f1,f2⟩
 have kV:=kx (c40 V (by omega) n) (bB (bQ V) (.v _)) (.v _)
 have kW:=kx (c40 W (by omega) n) (bB (bQ W) (.v _)) (.v _)
 obtain⟨ev,Ow⟩:∃e,Lk (ol V) n=e:=⟨_,rfl⟩
 obtain⟨ew,hew⟩:∃e,Lk (ol W) n=e:=⟨_,rfl⟩
 rw[Ow] at kV;rw[hew] at kW;obtain⟨r1,Z1,c,rfl⟩:=aQa x.first x.second f1 f2
 have aAS:=kx Z1 (bB ((Ay _).2 f1) ((Ay _).2 f2)) (.v _)
 obtain⟨r2,hr2,o,⟨ho,_⟩,hro⟩:=aL8 x V W hV hW nV nW
 rw[cL func219 rfl rfl];by_cases g1:ev=0
 case neg =>
  simp only[Z8,seval,hV,hW,kV,bf g1];exact⟨_,bT rfl,_,rfl,by rw[<- Ow];exact YV _ _,fun h=>Ow.trans h⟩
 by_cases g2:ew=0
 case neg =>
  simp only[Z8,seval,hV,hW,kV,kW,bt g1,bf g2];exact⟨_,bT rfl,_,rfl,by rw[<- hew];exact YV _ _,fun _=>Ow.trans g1⟩
 by_cases g3:x.first.target<x.first.source
 ·simp only[Z8,seval,hV,hW,kV,kW,bt g1,bt g2,g3];exact⟨_,bT rfl,_,rfl,by decide,fun _=>Ow.trans g1⟩
 by_cases g4:x.second.target<x.second.source
 ·simp only[Z8,seval,hV,hW,kV,kW,bt g1,bt g2,g3,g4];exact⟨_,bT rfl,_,rfl,by decide,fun _=>Ow.trans g1⟩
 cases c
 ·simp only[Z8,seval,hV,hW,kV,kW,bt g1,bt g2,g3,g4,aAS];exact⟨_,bT rfl,_,rfl,by decide,fun _=>Ow.trans g1⟩
 rcases hro with rfl|⟨L,hL,rfl⟩
 ·have BN:=kx hr2 (cP fx) (bQ o)
  by_cases g5:((ol o).length:Int)=0
  ·simp only[Z8,seval,hV,hW,kV,kW,bt g1,bt g2,g3,g4,aAS,BN,bt g5];exact⟨_,bT rfl,_,rfl,by decide,fun _=>Ow.trans g1⟩
  ·simp only[Z8,seval,hV,hW,kV,kW,bt g1,bt g2,g3,g4,aAS,BN,bf g5];exact⟨_,bT rfl,_,rfl,by decide,fun _=>Ow.trans g1⟩
 ·have BN:∀(st:St) (d:Nat),bH (aG prog) 221 [.agg (cD x)] st (some d)=_:=fun st d=>jM (st:=st) (d:=d) (cP fx) hr2
  by_cases g5:(L.length:Int)=0
  ·simp only[Z8,seval,hV,hW,kV,kW,bt g1,bt g2,g3,g4,aAS,BN,bt g5];exact⟨_,bT rfl,_,rfl,by decide,fun _=>Ow.trans g1⟩
  ·simp only[Z8,seval,hV,hW,kV,kW,bt g1,bt g2,g3,g4,aAS,BN,bf g5];exact⟨_,bT rfl,_,rfl,by decide,fun _=>Ow.trans g1⟩
def aQu {s:aL} {v:SV} {q:Int} (h:GI s v q) (r:RG s v) (x:gB) (V W:Option (List Int)) (hV:x.first.eM=ov aM V) (hW:x.second.eM=ov aM W) (nV:((ol V).length:Int)<=1000) (nW:((ol W).length:Int)<=1000) (hq:q+1000<=900000) :
 ∃r,aG prog 205 [.agg (aA s),.agg (cD x)]=some r/\StN s v (q+1000) r:=by
 have hf:=h.sd.flat
 have pH:=h.sd.fl
 have hz:=Ln
 have f1:Flat x.first.eM:=by rw[hV];exact bQ V
 have f2:Flat x.second.eM:=by rw[hW];exact bQ W
 have fx:Flat (.agg (cD x)):=(nM x).2 ⟨f1,f2⟩
 obtain⟨r1,Z1,e1,rfl,he1,hv1⟩:=aQs x V W hV hW (by omega) (by omega) (ol v.B).length
 have aAT:=kx Z1 (bB fx (.v _)) (.v _)
 obtain⟨r2,hr2,o,⟨ho,hoV⟩,hro⟩:=aL8 x V W hV hW (by omega) (by omega)
 have nq:=h.nQ
 obtain⟨r3,hr3,L,n,rfl,hL,BO,hLP⟩:=aQq v.Q o (by omega) (by omega)
 have fr:Flat (.eH [ov aM (some L),.v (.int .i64 n)]):=.eH _ (bB (bQ _) (.v _))
 have k220:∀(st:St) (d:Option Nat),fJ (aG prog) 220 [ov aM v.Q,ov aM o] st d=_:=fun st d=>Ju (st:=st) (d:=d) (bB (bQ _) (bQ _)) hr3 fr
 rw[cL func205 rfl rfl];by_cases g1:e1=0
 case neg =>
  simp only[Z8,seval,Rc h.sd,aAT,bf g1];exact⟨_,by apply dN;rfl;all_goals simp only[aJ,bY,Z8,seval,hz]<;>rfl,gC,e1,rfl,hz,he1,fun h=>absurd h g1⟩
 have hQ:((ol (some L)).length:Int)<=q+1000:=by show (L.length:Int)<=_;omega
 have h':GI { s with fP:={ s.fP with gA:=ov aM (some L)} } { v with Q:=some L } (q+1000) :=
  ⟨⟨h.sd.iF,h.sd.dS,rfl,h.sd.early,h.sd.bN,h.sd.tree,h.sd.tables,h.sd.eV,h.sd.tB,h.sd.nB,h.sd.nL,by show ((ol (some L)).length:Int)<1000000;omega,h.sd.nE,h.sd.nO,h.sd.nT,h.sd.nn⟩,h.up,h.Ww,h.pos,h.nl,h.PK,h.jS,h.JB,h.nB,h.nO,h.LJ,h.nE,h.PL,h.nT,h.PM,hQ,hq,h.eI⟩
 have hVS:L≠[]->VS { s with fP:={ s.fP with gA:=ov aM (some L)} } { v with Q:=some L }:=fun h0=>r.vs.gA (some L) (ov aM (some L)) h0 (hLP.1 (r.vs.aL1)) fun y hy=>(hLP.2 y hy).elim (r.vs.aHZ y) fun hy=>(YW (hv1 g1)).2 y (hoV y hy)
 have P5:=h'.sd.flat
 rcases hro with rfl|⟨M,hM,rfl⟩
 ·have BN:=kx hr2 (cP fx) (bQ o)
  by_cases g2:n=0
  ·simp only[Z8,seval,Rc h.sd,aAT,bt g1,h.sd.gA,BN,k220,dR,bt g2];exact⟨_,by apply dN;rfl;all_goals simp only[aJ,bY,Z8,seval,hz]<;>rfl,gC,9,rfl,hz,by decide,fun h=>by cases h⟩
  ·simp only[Z8,seval,Rc h.sd,aAT,bt g1,h.sd.gA,BN,k220,dR,bf g2];exact⟨_,by apply dN;rfl;all_goals simp only[aJ,bY,Z8,seval,P5]<;>rfl,_,0,rfl,P5,by decide,fun _=>⟨_,h',⟨⟨r.now,r.j,r.f,r.nd,r.or,r.rt,r.fe,r.ds,r.tb,⟨fun e=>BO g2 (by injection e),r.ne.e,r.ne.o,r.ne.t,r.ne.ea,r.ne.tb⟩,hVS (BO g2)⟩,r.op⟩,rfl,rfl⟩⟩
 ·have BN:∀(st:St) (d:Nat),bH (aG prog) 221 [.agg (cD x)] st (some d)=_:=fun st d=>jM (st:=st) (d:=d) (cP fx) hr2
  have k220':∀(st:St) (a g:Nat) (d:Option Nat),st.heap a g=some (.row 3 1 M.length (aM M))->fJ (aG prog) 220 [ov aM v.Q,.own a g] st d=some { dst:=d,val:=.eH [ov aM (some L),.v (.int .i64 n)],dP:=some (a,g,none)}:=by
   intro st a g d hh;rw[Ro (s:=a) (k:=g) (by rw[flatMap_cons,wO (bQ v.Q)];rfl) (by intro y hy;simp only[mem_cons,not_mem_nil,or_false] at hy;rcases hy with rfl|rfl;exact .inl (bQ _);exact .inr (.inl ⟨a,g,rfl⟩)),
    map_cons,map_cons,map_nil,Hf,Ut hh,bK,bK,fY,<- hM]
   exact RM hr3 fr
  by_cases g2:n=0
  ·simp only[Z8,seval,Rc h.sd,aAT,bt g1,h.sd.gA,BN,k220',dR,bt g2];exact⟨_,by apply dN;rfl;all_goals simp only[aJ,bY,Z8,seval,hz]<;>rfl,gC,9,rfl,hz,by decide,fun h=>by cases h⟩
  ·simp only[Z8,seval,Rc h.sd,aAT,bt g1,h.sd.gA,BN,k220',dR,bf g2];exact⟨_,by apply dN;rfl;all_goals simp only[aJ,bY,Z8,seval,P5]<;>rfl,_,0,rfl,P5,by decide,fun _=>⟨_,h',⟨⟨r.now,r.j,r.f,r.nd,r.or,r.rt,r.fe,r.ds,r.tb,⟨fun e=>BO g2 (by injection e),r.ne.e,r.ne.o,r.ne.t,r.ne.ea,r.ne.tb⟩,hVS (BO g2)⟩,r.op⟩,rfl,rfl⟩⟩
end Go.Ab.Tryz
