/-
  Part 16 of the proof: an evaluator of programs, its soundness, and what functions of this program compute.
-/
import Derived.Test.YtmcjkemalibacaaGreatK15
import Derived.Test.YtmcjkemalibacaaGreatK11
import Derived.Test.YtmcjkemalibacaaGreatK13
import Derived.Test.YtmcjkemalibacaaGreatK10
import Derived.Test.YtmcjkemalibacaaGreatK14
import Derived.Test.YtmcjkemalibacaaGreatK12
set_option linter.all false
set_option maxRecDepth 20000
set_option maxHeartbeats 40000000
namespace Go.Ab.Tryz
open Classical Go.Proofs Go.Ab
structure SB (a r:List Node):Prop where
 TC:r.map (·.block)=a.map (·.block)
 up:r.map (·.up)=a.map (·.up)
theorem SB.refl (a:List Node):SB a a:=⟨rfl,rfl⟩
theorem SB.trans {a b c:List Node} (h:SB a b) (g:SB b c):SB a c:=⟨g.TC.trans h.TC,g.up.trans h.up⟩
theorem SB.len {a r:List Node} (h:SB a r):r.length=a.length:=by have:=congrArg List.length h.TC;simpa using this
theorem SB.block {a r:List Node} (h:SB a r) {j:Int} (j1:j.toNat<a.length):(nd r j).block=(nd a j).block:=by
 have h2:j.toNat<r.length:=by rw[h.len];exact j1
 have:=congrArg (fun l:List Block=>l[j.toNat]?) h.TC
 simpa [nd,j1,h2] using this
theorem SB.upE {a r:List Node} (h:SB a r) {j:Int} (j1:j.toNat<a.length):(nd r j).up=(nd a j).up:=by
 have h2:j.toNat<r.length:=by rw[h.len];exact j1
 have:=congrArg (fun l:List Int=>l[j.toNat]?) h.up
 simpa [nd,j1,h2] using this
theorem FW (l:List Node) (x:cN):aN l x=match (l.map (·.block)).findIdx? (fun b=>decide (b.root=x)) with
 | some k=>(k:Int)
 | none=>-1:=by
 unfold aN;rw[List.findIdx?_map];rfl
theorem SB.aN {a r:List Node} (h:SB a r) (x:cN):aN r x=aN a x:=by rw[FW,FW,h.TC]
theorem X3 (ns:List Node) (i to:Int):SB ns (setAt ns i to):=by
 have key:∀ {β:Type} (f:Node→β),(∀n s,f (Xo n s)=f n)→(setAt ns i to).map f=ns.map f:=by
  intro β f hf;unfold setAt;rw[List.map_set];apply List.ext_getElem (by simp)
  intro j h1 h2;rw[List.getElem_set];split
  ·rename_i e;have h3:j<ns.length:=by simpa using h2
   subst e;simp[hf,nd,h3]
  ·rfl
 exact⟨key _ fun _ _=>rfl,key _ fun _ _=>rfl⟩
theorem IB {to never:Int}:∀(l:List Int) (ns r:List Node),FC to never l ns=some r→SB ns r
 | [],ns,r,h=>by simp only[FC,Option.some.injEq] at h;rw[h];exact SB.refl _
 | i :: l,ns,r,h=>by
   simp only[FC] at h;split at h
   ·cases h
   ·exact (X3 ns i to).trans (IB l _ _ h)
def OH (ns:List Node) (x:AV):Prop:=(∃e:Int,e≠0∧x=.eG [.agg [.v (.slice none 0 0)],.v (.int .i64 e)])∨∃r,SB ns r∧x=.eG [.agg (cJ ⟨r⟩),.v (.int .i64 0)]
theorem OH.err (ns:List Node) {e:Int} (h:e≠0):OH ns (CH e):=.inl ⟨e,h,rfl⟩
theorem aHf (ns:List Node) (i:Int):OH ns (O4 ns i):=by
 unfold O4;split
 ·unfold stA;split
  ·exact .err _ (by decide)
  ·rename_i r hr;exact .inr ⟨r,IB _ _ _ hr,rfl⟩
 ·exact .err _ (by decide)
theorem X4 (ns:List Node) (i:Int):OH ns (O5 ns i):=by
 unfold O5;split
 ·unfold stA;split
  ·exact .err _ (by decide)
  ·rename_i r hr;exact .inr ⟨r,IB _ _ _ hr,rfl⟩
 ·exact .err _ (by decide)
theorem OH.of {a b:List Node} (h:SB a b) {x:AV} (g:OH b x):OH a x:=g.imp id fun ⟨r,h1,h2⟩=>⟨r,h.trans h1,h2⟩
theorem aHg (ns:List Node) (i:Int) (v:gV) (l:List Int):OH ns (UO ns i v l):=by
 unfold UO;split
 ·exact .err _ (by decide)
 split
 ·exact aHf ns i
 split
 ·unfold R9;split
  ·exact .err _ (by decide)
  split
  ·split
   ·exact .err _ (by decide)
   ·rename_i r hr;exact .of (IB _ _ _ hr) (X4 _ _)
  ·exact X4 _ _
 split
 ·exact .inr ⟨ns,SB.refl ns,rfl⟩
 ·exact .err _ (by decide)
theorem GI.tree {s:aL} {v:SV} {q:Int} (h:GI s v q) {r:List Node} (hs:SB v.ns r):GI { s with tree:=⟨.sl r.length (bZ r)⟩} { v with ns:=r } q:=by
 have hl:=hs.len
 have hp:=h.pos
 refine⟨⟨h.sd.iP,h.sd.eB,h.sd.gW,h.sd.early,h.sd.bN,rfl,h.sd.tables,h.sd.eV,h.sd.tB,h.sd.nB,h.sd.nL,h.sd.nQ,h.sd.nE,h.sd.nO,h.sd.nT,by rw[hl];exact h.sd.nn⟩,fun i i0 i1=>?_, ?_,by show 0<r.length;omega,by rw[hl];exact h.nl,h.UY,h.jL,h.NF,h.nB,h.nO,h.NG,h.nE,h.TL,h.nT,h.TM,h.nQ,h.S7, ?_⟩
 ·have i1:i<(r.length:Int):=i1
  show 0≤(nd r i).up∧(nd r i).up<i
  rw[hs.upE (by omega)];exact h.up i i0 (by omega)
 ·show (nd r 0).up=-1
  rw[hs.upE (by show (0:Nat)<_;omega)];exact h.Xi
 ·show 0≤aN r s.aU.gD.root
  rw[hs.aN];exact h.gD
theorem RG.tree {s:aL} {v:SV} (h:RG s v) {r:List Node} (hs:SB v.ns r) (x:Gb):RG { s with tree:=x } { v with ns:=r } :=
 ⟨h.now,h.j,h.f,fun n hn=>by
  have:n.block∈r.map (·.block):=List.mem_map.2 ⟨n,hn,rfl⟩
  rw[hs.TC] at this;obtain⟨a,ha,e⟩:=List.mem_map.1 this
  rw[← e];exact h.nd a ha,h.or,fun n hn=>by
  have:n.block∈r.map (·.block):=List.mem_map.2 ⟨n,hn,rfl⟩
  rw[hs.TC] at this;obtain⟨a,ha,e⟩:=List.mem_map.1 this
  rw[← e];exact h.rt a ha,h.fe,by
  have e:=congrArg (List.map fun b:Block=>b.root) hs.TC
  rw[List.map_map,List.map_map] at e;show (r.map ((fun b:Block=>b.root) ∘ fun n=>n.block)).Nodup
  rw[e];exact h.ds,h.tb,⟨h.ne.q,h.ne.e,h.ne.o,h.ne.t,h.ne.ea,h.ne.tb⟩⟩
structure TQ (Q:List Request) (tag:Int):Prop where
 pos:1≤tag
 all:∀r∈Q,1≤r.tagged.tag∧r.tagged.tag<tag∧r.due=0
 asc:Q.Pairwise fun a b=>a.tagged.tag<b.tagged.tag
structure TR (R:List Request) (tag:Int):Prop where
 all:∀r∈R,r.tagged.tag<tag
 asc:R.Pairwise fun a b=>¬xB b a
def VQ (ns:List Node) (l:List Request):Prop:=∀r∈l,0≤aN ns r.block
theorem TQ.sub {P Q:List Request} {tag:Int} (h:TQ Q tag) (s:P.Sublist Q):TQ P tag:=⟨h.pos,fun r hr=>h.all r (s.subset hr),h.asc.sublist s⟩
theorem TR.sub {P Q:List Request} {tag:Int} (h:TR Q tag) (s:P.Sublist Q):TR P tag:=⟨fun r hr=>h.all r (s.subset hr),h.asc.sublist s⟩
theorem TR.mono {Q:List Request} {t t':Int} (h:TR Q t) (l:t≤t'):TR Q t':=⟨fun r hr=>by have:=h.all r hr;omega,h.asc⟩
theorem VQ.sub {ns:List Node} {P Q:List Request} (h:VQ ns Q) (s:P.Sublist Q):VQ ns P:=fun r hr=>h r (s.subset hr)
theorem TQ.app {Q:List Request} {tag:Int} (h:TQ Q tag) (b:cN) (n:Int):TQ (Q++[⟨⟨tag⟩,b,n,0⟩]) (tag+1):=by
 refine⟨by have:=h.pos;omega,fun r hr=>?_,List.pairwise_append.2 ⟨h.asc,List.pairwise_singleton ..,fun a ha b hb=>?_⟩⟩
 ·rcases List.mem_append.1 hr with hr|hr
  ·obtain⟨h1,h2,h3⟩:=h.all r hr;exact⟨h1,by omega,h3⟩
  ·rw[List.mem_singleton] at hr;subst hr;exact⟨h.pos,by show tag<tag+1;omega,rfl⟩
 ·rw[List.mem_singleton] at hb;subst hb;exact (h.all a ha).2.1
theorem VQ.app {ns:List Node} {Q:List Request} (h:VQ ns Q) {x:Request} (hx:0≤aN ns x.block):VQ ns (Q++[x]):=fun r hr=>by
 rcases List.mem_append.1 hr with hr|hr
 ·exact h r hr
 ·rw[List.mem_singleton] at hr;subst hr;exact hx
theorem aM1 {x:Int} (h1:1≤x) (h2:x≤1000000):IntKind.u64.wrap (x+1)=x+1:=wrap_u64 _ (by omega) (by omega)
theorem Oo (ns:List Node) (now:Int):∀(l:List Request) (a:(Option (List Request) × Int) × List Request),TQ (ol a.1.1) a.1.2→VQ ns (ol a.1.1)→a.1.2+l.length≤1000000 →
 TQ (ol (zZ ns now a l).1.1) (zZ ns now a l).1.2∧VQ ns (ol (zZ ns now a l).1.1)∧a.1.2≤(zZ ns now a l).1.2∧(zZ ns now a l).1.2≤a.1.2+l.length∧(zZ ns now a l).2=a.2++l.filter fun r=>decide (now<r.due)
 | [],a,h,hi,hb=>⟨h,hi,by show a.1.2≤a.1.2;omega,by show a.1.2≤a.1.2+((0:Nat):Int);omega,(List.append_nil _).symm⟩
 | r :: l,a,h,hi,hb=>by
   have hp:=h.pos
   rw[List.length_cons] at hb;have hw:=aM1 hp (by omega)
   have e0:zZ ns now a (r :: l)=zZ ns now (Mc ns now a r) l:=rfl
   rw[e0,List.length_cons];by_cases g1:now<r.due
   ·have e1:Mc ns now a r=(a.1,a.2++[r]):=if_pos g1
    rw[e1];obtain⟨h1,h2,h3,h4,h5⟩:=Oo ns now l (a.1,a.2++[r]) h hi (by dsimp only;omega)
    refine⟨h1,h2,h3,by dsimp only at h4;omega, ?_⟩
    rw[h5,List.filter_cons,if_pos (decide_eq_true g1)];simp
   ·rw[List.filter_cons,if_neg (by simpa using g1)]
    by_cases g2:zY ns r.block
    ·have e1:Mc ns now a r=((some (ol a.1.1++[⟨⟨a.1.2⟩,r.block,r.tries,0⟩]),IntKind.u64.wrap (a.1.2+1)),a.2):=(if_neg g1).trans (if_pos g2)
     rw[e1,hw];obtain⟨h1,h2,h3,h4,h5⟩:=Oo ns now l ((some (ol a.1.1++[(⟨⟨a.1.2⟩,r.block,r.tries,0⟩:Request)]),a.1.2+1),a.2) (h.app _ _) (hi.app g2.1) (by dsimp only;omega)
     exact⟨h1,h2,by dsimp only at h3;omega,by dsimp only at h4;omega,h5⟩
    ·have e1:Mc ns now a r=a:=(if_neg g1).trans (if_neg g2)
     rw[e1];obtain⟨h1,h2,h3,h4,h5⟩:=Oo ns now l a h hi (by omega)
     exact⟨h1,h2,h3,by omega,h5⟩
theorem IC (ns:List Node):∀(l:List cN) (a:Option (List Request) × Int),TQ (ol a.1) a.2→VQ ns (ol a.1)→a.2+l.length≤1000000 →
 TQ (ol (Nh ns a l).1) (Nh ns a l).2∧VQ ns (ol (Nh ns a l).1)∧a.2≤(Nh ns a l).2∧(Nh ns a l).2≤a.2+l.length
 | [],a,h,hi,hb=>⟨h,hi,by show a.2≤a.2;omega,by show a.2≤a.2+((0:Nat):Int);omega⟩
 | r :: l,a,h,hi,hb=>by
   have hp:=h.pos
   rw[List.length_cons] at hb;have hw:=aM1 hp (by omega)
   have e0:Nh ns a (r :: l)=Nh ns (p4 ns a r) l:=rfl
   rw[e0,List.length_cons];by_cases g2:zY ns r
   ·have e1:p4 ns a r=(some (ol a.1++[⟨⟨a.2⟩,r,0,0⟩]),IntKind.u64.wrap (a.2+1)):=if_pos g2
    rw[e1,hw];obtain⟨h1,h2,h3,h4⟩:=IC ns l (some (ol a.1++[(⟨⟨a.2⟩,r,0,0⟩:Request)]),a.2+1) (h.app _ _) (hi.app g2.1) (by dsimp only;omega)
    exact⟨h1,h2,by dsimp only at h3;omega,by dsimp only at h4;omega⟩
   ·have e1:p4 ns a r=a:=if_neg g2
    rw[e1];obtain⟨h1,h2,h3,h4⟩:=IC ns l a h hi (by omega)
    exact⟨h1,h2,h3,by omega⟩
theorem p7 (ns:List Node) (now:Int):∀(l:List Request) (a:(Option (List Request) × Int) × List Request),a.1.1≠some []→(zZ ns now a l).1.1≠some []
 | [],a,h=>h
 | r :: l,a,h=>by
   have e0:zZ ns now a (r :: l)=zZ ns now (Mc ns now a r) l:=rfl
   rw[e0];refine p7 ns now l _ ?_
   unfold Mc;split
   ·exact h
   split
   ·simp
   ·exact h
theorem X5 (ns:List Node):∀(l:List cN) (a:Option (List Request) × Int),a.1≠some []→(Nh ns a l).1≠some []
 | [],a,h=>h
 | r :: l,a,h=>by
   have e0:Nh ns a (r :: l)=Nh ns (p4 ns a r) l:=rfl
   rw[e0];refine X5 ns l _ ?_
   unfold p4;split
   ·simp
   ·exact h
noncomputable def ID:List Request→Request→List Request→List Request
 | [],x,B=>x :: B
 | y :: A,x,B=>if xB x y then ID A x (y :: B) else (y :: A).reverse++x :: B
theorem FX:∀(A:List Request) (x:Request) (B:List Request),Co A.length (A.reverse++x :: B)=ID A x B
 | [],x,B=>rfl
 | y :: A,x,B=>by
   have e1:gx cY ((y :: A).reverse++x :: B) ((A.length+1:Nat):Int)=x:=by
    unfold gx;rw[Int.toNat_natCast,List.reverse_cons,List.append_assoc,List.getD_eq_getElem?_getD,List.getElem?_append_right (by simp),List.length_reverse]
    simp
   have e2:gx cY ((y :: A).reverse++x :: B) (A.length:Int)=y:=by
    unfold gx;rw[Int.toNat_natCast,List.reverse_cons,List.append_assoc,List.getD_eq_getElem?_getD,List.getElem?_append_right (by simp),List.length_reverse]
    simp
   have e3:(((y :: A).reverse++x :: B).set (A.length+1) y).set A.length x=A.reverse++x :: y :: B:=by
    rw[List.reverse_cons,List.append_assoc,List.set_append_right _ _ (by simp),List.length_reverse,List.set_append_right _ _ (by simp),List.length_reverse]
    simp
   rw[List.length_cons];have e0:∀l,Co (A.length+1) l=if xB (gx cY l ((A.length+1:Nat):Int)) (gx cY l (A.length:Int)) then Co A.length ((l.set (A.length+1) (gx cY l (A.length:Int))).set A.length (gx cY l ((A.length+1:Nat):Int))) else l:=fun l=>rfl
   rw[e0,e1,e2,e3];unfold ID;split
   ·exact FX A x (y :: B)
   ·rfl
theorem Yt {r:Request}:∀(A:List Request) (x:Request) (B:List Request),r∈ID A x B↔r∈A∨r=x∨r∈B
 | [],x,B=>by simp[ID]
 | y :: A,x,B=>by
   unfold ID;split
   ·rw[Yt A x (y :: B)];simp only[List.mem_cons];constructor
    ·rintro (h|h|h|h)
     ·exact .inl (.inr h)
     ·exact .inr (.inl h)
     ·exact .inl (.inl h)
     ·exact .inr (.inr h)
    ·rintro ((h|h)|h|h)
     ·exact .inr (.inr (.inl h))
     ·exact .inl h
     ·exact .inr (.inl h)
     ·exact .inr (.inr (.inr h))
   ·simp[or_assoc,or_left_comm]
theorem Tx {a b:Request} (h:xB a b):¬xB b a:=by unfold xB at *;omega
theorem X6 {a b c:Request} (h1:¬xB b a) (h2:¬xB c b):¬xB c a:=by unfold xB at *;omega
theorem OI:∀(A:List Request) (x:Request) (B:List Request),(A.reverse++B).Pairwise (fun a b=>¬xB b a)→(∀b∈B,xB x b)→(ID A x B).Pairwise fun a b=>¬xB b a
 | [],x,B,h,hb=>List.pairwise_cons.2 ⟨fun b m=>Tx (hb b m),h⟩
 | y :: A,x,B,h,hb=>by
   unfold ID;have h0:=h
   rw[List.reverse_cons,List.append_assoc] at h;split
   ·rename_i g;exact OI A x (y :: B) h fun b m=>(List.mem_cons.1 m).elim (fun e=>by rw[e];exact g) (hb b)
   ·rename_i g;obtain⟨p1,p2,p3⟩:=List.pairwise_append.1 h0
    refine List.pairwise_append.2 ⟨p1,List.pairwise_cons.2 ⟨fun b m=>Tx (hb b m),p2⟩,fun a ha b m=>?_⟩
    rcases List.mem_cons.1 m with rfl|m
    ·rw[List.reverse_cons,List.mem_append,List.mem_singleton] at ha;rcases ha with ha|rfl
     ·have:=(List.pairwise_append.1 h).2.2 a ha y (by simp)
      exact X6 this g
     ·exact g
    ·exact p3 a ha b m
theorem X7 (R:List Request) (x:Request):Co R.length (R++[x])=ID R.reverse x []:=by
 have:=FX R.reverse x []
 rwa [List.reverse_reverse,List.length_reverse] at this
theorem TR.bub {R:List Request} {tag:Int} (h:TR R tag) {x:Request} (hx:x.tagged.tag<tag):TR (Co R.length (R++[x])) tag:=by
 rw[X7];refine⟨fun r hr=>?_,OI _ _ _ (by rw[List.reverse_reverse,List.append_nil];exact h.asc) (by simp)⟩
 rcases (Yt _ _ _).1 hr with hr|rfl|hr
 ·exact h.all r (List.mem_reverse.1 hr)
 ·exact hx
 ·cases hr
theorem VQ.bub {ns:List Node} {R:List Request} (h:VQ ns R) {x:Request} (hx:0≤aN ns x.block):VQ ns (Co R.length (R++[x])):=by
 rw[X7];intro r hr;rcases (Yt _ _ _).1 hr with hr|rfl|hr
 ·exact h r (List.mem_reverse.1 hr)
 ·exact hx
 ·cases hr
structure TI0 (t:State) (v:SV) (Q R:Option (List Request)) (q m:Int):Prop where
 td:TD t v Q R
 gi:GI t.store v q
 rg:RG t.store v
 cfg:∃b,Ht t.store.cFg b
 tq:TQ (ol Q) t.dA
 tr:TR (ol R) t.dA
 nt:t.dA≤1+m
 lq:((ol Q).length:Int)≤m
 lr:((ol R).length:Int)≤t.store.cFg.lK.oP
 mB:m≤100000
 qn:Q≠some []
 rn:R≠some []
structure TI (t:State) (v:SV) (Q R:Option (List Request)) (q m:Int):Prop extends TI0 t v Q R q m where
 P2:VQ v.ns (ol Q)
 P3:VQ v.ns (ol R)
theorem TI0.mono {t:State} {v:SV} {Q R:Option (List Request)} {q m q' m':Int} (h:TI0 t v Q R q m) (h1:q≤q') (h2:q'≤900000) (h3:m≤m') (h4:m'≤100000):TI0 t v Q R q' m' :=
 ⟨h.td,h.gi.mono h1 h2,h.rg,h.cfg,h.tq,h.tr,by have:=h.nt;omega,by have:=h.lq;omega,h.lr,h4,h.qn,h.rn⟩
theorem TI.mono {t:State} {v:SV} {Q R:Option (List Request)} {q m q' m':Int} (h:TI t v Q R q m) (h1:q≤q') (h2:q'≤900000) (h3:m≤m') (h4:m'≤100000):TI t v Q R q' m':=⟨h.toTI0.mono h1 h2 h3 h4,h.P2,h.P3⟩
theorem TI0.store {t:State} {v:SV} {Q R:Option (List Request)} {q m:Int} (h:TI0 t v Q R q m) {s':aL} {v':SV} {q':Int} (g:GI s' v' q') (r:RG s' v') (c:s'.cFg=t.store.cFg):TI0 { t with store:=s' } v' Q R q' m :=
 ⟨⟨g.sd,h.td.Gz,h.td.ret,h.td.nQ,h.td.nR⟩,g,r,by show ∃b,Ht s'.cFg b;rw[c];exact h.cfg,h.tq,h.tr,h.nt,h.lq,by show _≤s'.cFg.lK.oP;rw[c];exact h.lr,h.mB,h.qn,h.rn⟩
theorem TI.emit {t:State} {v:SV} {Q R:Option (List Request)} {q m:Int} (h:TI t v Q R q m) (b:Bool) (c:Command):TI { t with Lx:=b,last:=c } v Q R q m :=
 ⟨⟨⟨h.td.sd,h.td.Gz,h.td.ret,h.td.nQ,h.td.nR⟩,h.gi,h.rg,h.cfg,h.tq,h.tr,h.nt,h.lq,h.lr,h.mB,h.qn,h.rn⟩,h.P2,h.P3⟩
theorem TI.halt {t:State} {v:SV} {Q R:Option (List Request)} {q m:Int} (h:TI t v Q R q m) (b:Bool):TI { t with halted:=b } v Q R q m :=
 ⟨⟨⟨h.td.sd,h.td.Gz,h.td.ret,h.td.nQ,h.td.nR⟩,h.gi,h.rg,h.cfg,h.tq,h.tr,h.nt,h.lq,h.lr,h.mB,h.qn,h.rn⟩,h.P2,h.P3⟩
theorem TI.over {t:State} {v:SV} {Q R:Option (List Request)} {q m:Int} (h:TI t v Q R q m) (b:Bool):TI { t with overflow:=b } v Q R q m :=
 ⟨⟨⟨h.td.sd,h.td.Gz,h.td.ret,h.td.nQ,h.td.nR⟩,h.gi,h.rg,h.cfg,h.tq,h.tr,h.nt,h.lq,h.lr,h.mB,h.qn,h.rn⟩,h.P2,h.P3⟩
theorem TI0.aC9 {t:State} {v:SV} {Q R:Option (List Request)} {q m:Int} (h:TI0 t v Q R q m):t.store.cFg.lK.oP≤256:=by obtain⟨b,hb⟩:=h.cfg;exact hb.oP.2
theorem TI0.iP {t:State} {v:SV} {Q R:Option (List Request)} {q m:Int} (h:TI0 t v Q R q m):0<(ol v.B).length∧(ol v.B).length≤64:=by
 obtain⟨b,hb⟩:=h.cfg
 have e:=h.gi.sd.iP.symm.trans hb.iP
 have n:=hb.nb
 cases hB:v.B with
 | none=>rw[hB] at e;cases e
 | some l =>
   rw[hB] at e;have e:AV.sl l.length (bK l)=AV.sl b.length (bK b):=e
   injection e with e1 e2
   show 0<l.length∧l.length≤64
   omega
theorem TI0.drop {t:State} {v:SV} {Q R:Option (List Request)} {q m:Int} (h:TI0 t v Q R q m):TI (VM t v Q R) v (nz (pN v.ns (ol Q))) (nz (pN v.ns (ol R))) q m:=by
 have s1:(pN v.ns (ol Q)).Sublist (ol Q):=List.filter_sublist
 have s2:(pN v.ns (ol R)).Sublist (ol R):=List.filter_sublist
 have l1:=s1.length_le
 have l2:=s2.length_le
 have a1:=h.lq
 have a2:=h.lr
 refine⟨⟨h.td.drp,h.gi,h.rg,h.cfg, ?_, ?_,h.nt, ?_, ?_,h.mB,Yf _,Yf _⟩, ?_, ?_⟩
 ·rw[nF];exact h.tq.sub s1
 ·rw[nF];exact h.tr.sub s2
 ·rw[nF];omega
 ·rw[nF];show _≤t.store.cFg.lK.oP;omega
 ·rw[nF];intro r hr;exact of_decide_eq_true (List.mem_filter.1 hr).2
 ·rw[nF];intro r hr;exact of_decide_eq_true (List.mem_filter.1 hr).2
theorem TI.due {t:State} {v:SV} {Q R:Option (List Request)} {q m:Int} (h:TI t v Q R q m) (hm:m+256≤100000):TI (aC7 t v.ns Q R) v (IA t v.ns Q R).1.1 (nz (IA t v.ns Q R).2) q (m+256):=by
 have a1:=h.lq
 have a2:=h.lr
 have a3:=h.aC9
 have a4:=h.nt
 obtain⟨h1,h2,h3,h4,h5⟩:=Oo v.ns t.store.now (ol R) ((Q,t.dA),[]) h.tq h.P2 (by dsimp only;omega)
 have hl:=OC v.ns t.store.now (ol R) ((Q,t.dA),[])
 rw[List.nil_append] at h5;have e1:zZ v.ns t.store.now ((Q,t.dA),[]) (ol R)=IA t v.ns Q R:=rfl
 rw[e1] at h1 h2 h3 h4 h5 hl;dsimp only at h3 h4 hl
 have s2:(IA t v.ns Q R).2.Sublist (ol R):=by rw[h5];exact List.filter_sublist
 have l2:=s2.length_le
 have yF:=hl.1
 have:=h.mB
 refine⟨⟨⟨h.td.sd,rfl,rfl,by omega,by rw[nF];omega⟩,h.gi,h.rg,h.cfg,h1, ?_, ?_,by omega, ?_,hm,p7 v.ns t.store.now (ol R) ((Q,t.dA),[]) h.qn,Yf _⟩,h2, ?_⟩
 ·rw[nF];exact (h.tr.sub s2).mono h3
 ·show (IA t v.ns Q R).1.2≤_;omega
 ·rw[nF];show _≤t.store.cFg.lK.oP;omega
 ·rw[nF];exact h.P3.sub s2
theorem TI.open {t:State} {v:SV} {Q R:Option (List Request)} {q m:Int} (h:TI t v Q R q m) (L:List cN) (hL:(L.length:Int)≤100) (hm:m+256≤100000):TI (VN t (Nh v.ns (Q,t.dA) L)) v (Nh v.ns (Q,t.dA) L).1 R q (m+256):=by
 have a1:=h.lq
 have a4:=h.nt
 obtain⟨h1,h2,h3,h4⟩:=IC v.ns L (Q,t.dA) h.tq h.P2 (by dsimp only;omega)
 have hl:=p5 v.ns (Q,t.dA) L
 dsimp only at h3 h4 hl
 refine⟨⟨h.td.VN _ (by omega),h.gi,h.rg,h.cfg,h1,h.tr.mono h3, ?_,by omega,h.lr,hm,X5 v.ns L (Q,t.dA) h.qn,h.rn⟩,h2,h.P3⟩
 show (Nh v.ns (Q,t.dA) L).2≤_;omega
theorem TI.X8 {t:State} {v:SV} {Q R:Option (List Request)} {q m:Int} (h:TI t v Q R q m) {r:Request} (hr:r.tagged.tag<t.dA):∃R',TI (G7 t v.ns (ol R) r) v Q R' q m:=by
 unfold G7;split
 ·exact⟨R,h⟩
 split
 ·exact⟨R,h.over true⟩
 ·rename_i g1 g2;have g1:=Classical.not_not.1 g1
  have hl:(Co (ol R).length (ol R++[OG t r])).length=(ol R).length+1:=by rw[OF,List.length_append,List.length_cons,List.length_nil]
  have a3:=h.aC9
  refine⟨some (Co (ol R).length (ol R++[OG t r])),⟨⟨h.td.sd,h.td.Gz,rfl,h.td.nQ, ?_⟩,h.gi,h.rg,h.cfg,h.tq,h.tr.bub (x:=OG t r) hr,h.nt,h.lq, ?_,h.mB,h.qn,fun e=>by injection e with e;rw[e] at hl;simp at hl⟩,h.P2,h.P3.bub (x:=OG t r) g1.1⟩
  ·show ((Co (ol R).length (ol R++[OG t r])).length:Int)<_;omega
  ·show ((Co (ol R).length (ol R++[OG t r])).length:Int)≤t.store.cFg.lK.oP;omega
theorem TI.less {t:State} {v:SV} {Q R:Option (List Request)} {q m:Int} (h:TI t v Q R q m) (k:Nat):TI { t with iY:=ov aF (nz ((ol Q).take k++(ol Q).drop (k+1)))} v (nz ((ol Q).take k++(ol Q).drop (k+1))) R q m:=by
 have s:((ol Q).take k++(ol Q).drop (k+1)).Sublist (ol Q):=by rw[← List.eraseIdx_eq_take_drop_succ];exact List.eraseIdx_sublist ..
 have l1:=s.length_le
 have a1:=h.lq
 have:=h.td.nQ
 exact⟨⟨⟨h.td.sd,rfl,h.td.ret,by rw[nF];omega,h.td.nR⟩,h.gi,h.rg,h.cfg,by rw[nF];exact h.tq.sub s,h.tr,h.nt,by rw[nF];omega,h.lr,h.mB,Yf _,h.rn⟩,by rw[nF];exact h.P2.sub s,h.P3⟩
theorem TI.tree {t:State} {v:SV} {Q R:Option (List Request)} {q m:Int} (h:TI t v Q R q m) {r:List Node} (hs:SB v.ns r) (b:cN):TI { t with store:={ t.store with tree:=⟨.sl r.length (bZ r)⟩,eW:=b }} { v with ns:=r } Q R q m:=by
 have g:=(h.gi.tree hs).eW b
 have e:=(h.rg.tree hs ⟨.sl r.length (bZ r)⟩).eW b
 exact⟨h.toTI0.store g e rfl,fun x hx=>by show 0≤aN r x.block;rw[hs.aN];exact h.P2 x hx,fun x hx=>by show 0≤aN r x.block;rw[hs.aN];exact h.P3 x hx⟩
def OJ (Q:List Request) (tag:Int) (k:Nat):Prop:=(gx cY Q (k:Int)).tagged.tag=tag
theorem x27 {t:State} {v:SV} {Q R:Option (List Request)} (h:TD t v Q R) (w:gV):∃x,aB Tryz.prog 27 [.agg (aQ t),.agg (dL w)]=some x ∧
 (((∀j:Nat,j<(ol Q).length→¬OJ (ol Q) w.tagged.tag j)∧x=.eG [.agg (dF cY),.agg (aQ lZ),.v (.int .i64 23)]) ∨
  ∃k:Nat,k<(ol Q).length∧OJ (ol Q) w.tagged.tag k∧(∀j:Nat,j<k→¬OJ (ol Q) w.tagged.tag j)∧x=.eG [.agg (dF (gx cY (ol Q) (k:Int))),.agg (aQ { t with iY:=ov aF (nz ((ol Q).take k++(ol Q).drop (k+1)))}),.v (.int .i64 0)]):=by
 have pJ:=h.fl
 have nQ:=h.nQ
 have nQ1:((ol Q).length:Int)<1000000:=by omega
 have BX:Flat (.agg (aQ lZ)):=by simp only[dU,lZ,gA,mQ,Lv,Ey,Rl,and_self]
 rw[cG Tryz.func27 rfl aSo (by kernel_rfl) rfl]
 simp only[ZG,seval,Bool.false_and,Prod.mk.injEq,IE];refine jH (fun m st=>∃k:Nat,(st.env 2=.ptr 2 0 0∧st.heap 2 0=some (.cells (aQ t))∧st.env 3=.ptr 3 0 0∧st.heap 3 0=some (.cells (dL w))∧st.env 4=.ptr 4 0 0∧st.heap 4 0=some (.cells (dF cY))∧st.env 5=.ptr 5 0 0∧st.heap 5 0=some (.cells (aQ lZ))∧st.env 7=.v (.int .i64 k))∧(∀j:Nat,j<k→¬OJ (ol Q) w.tagged.tag j)∧k≤(ol Q).length∧m=(ol Q).length-k)
  (fun e st=>(e=.ret∧∃(k:Nat) (X:AV),(st.env 4=.ptr 4 0 0∧st.heap 4 0=some (.cells (dF (gx cY (ol Q) (k:Int))))∧st.env 5=.ptr 5 0 0∧st.heap 5 0=some (.cells (aQ { t with iY:=X }))∧st.env 6=.v (.int .i64 0))∧((X=.v (.slice none 0 0)∧(ol Q).take k++(ol Q).drop (k+1)=[])∨∃g,X=.own 42 g∧(ol Q).take k++(ol Q).drop (k+1)≠[]∧st.heap 42 g=some (.row 63 35 ((ol Q).take k++(ol Q).drop (k+1)).length (aF ((ol Q).take k++(ol Q).drop (k+1)))))∧k<(ol Q).length∧OJ (ol Q) w.tagged.tag k∧(∀j:Nat,j<k→¬OJ (ol Q) w.tagged.tag j)) ∨
   (e=.exit 0∧(st.env 4=.ptr 4 0 0∧st.heap 4 0=some (.cells (dF cY))∧st.env 5=.ptr 5 0 0∧st.heap 5 0=some (.cells (aQ lZ)))∧∀j:Nat,j<(ol Q).length→¬OJ (ol Q) w.tagged.tag j)) (ol Q).length ?step ?start ?rest
 case step =>
  rintro m st ⟨k,hI,hj,hk,hm⟩
  by_cases aY:(k:Int)<(ol Q).length
  case neg =>
   apply BZ (.exit 0)
   ·simp only[ZG,seval,Bool.false_and,Prod.mk.injEq,IE,hI,h.Gz,aY];rfl
   ·exact .inr ⟨rfl,by simp only[E8,seval,hI],fun j O6=>hj j (by omega)⟩
  have q0:(0:Int)≤k:=by omega
  have q2:(k:Int)≤((ol Q).length:Int):=by omega
  have q3:(0:Int)≤((k+1:Nat):Int):=by omega
  have q4:((k+1:Nat):Int)≤((ol Q).length:Int):=by omega
  have hw:IntKind.i64.wrap ((k:Int)+1)=((k+1:Nat):Int):=by rw[mT _ (by omega) (by omega)];omega
  have n1:((((ol Q).take k).length:Nat):Int)<1000000:=by rw[List.length_take];omega
  have n2:((((ol Q).drop (k+1)).length:Nat):Int)<1000000:=by rw[List.length_drop];omega
  have e1:ol (Q.map (·.take k))=(ol Q).take k:=by cases Q<;>simp[ol]
  have e2:ol (Q.map (·.drop (k+1)))=(ol Q).drop (k+1):=by cases Q<;>simp[ol]
  by_cases hh:OJ (ol Q) w.tagged.tag k
  ·have hh':(gx cY (ol Q) (k:Int)).tagged.tag=w.tagged.tag:=hh
   obtain⟨LL,CB⟩:∃LL,(ol Q).take k++(ol Q).drop (k+1)=LL:=⟨_,rfl⟩
   by_cases hz:LL=[]
   ·have hT:((ol Q).take k).length=0:=by have:=congrArg List.length CB;rw[hz,List.length_append] at this;simp only[List.length_nil] at this;omega
    have hD:((ol Q).drop (k+1)).length=0:=by have:=congrArg List.length CB;rw[hz,List.length_append] at this;simp only[List.length_nil] at this;omega
    apply BZ (.ret)
    ·simp only[ZG,seval,Bool.false_and,Prod.mk.injEq,IE,hI,h.Gz,aY,q0,q2,q3,q4,hw,bt hh',Int.toNat_natCast,iM,iN,Rw,Option.isSome_some,Option.map_some,Option.some.injEq,hT,hD,e1,e2];rfl
    ·exact .inl ⟨rfl,k,.v (.slice none 0 0),by simp only[E8,seval,hI]<;>rfl,.inl ⟨rfl,CB.trans hz⟩,by omega,hh,hj⟩
   have CO:(LL.length=0)=False:=eq_false fun h=>hz (List.length_eq_zero_iff.1 h)
   have n3:((LL.length:Nat):Int)<1000000:=by rw[← CB,List.length_append,List.length_take,List.length_drop];omega
   by_cases qC:k=0
   ·have hT:((ol Q).take k).length=0:=by rw[qC];rfl
    have hD:(ol Q).drop (k+1)=LL:=by rw[← CB,qC];rfl
    apply BZ (.ret)
    ·simp only[ZG,seval,Bool.false_and,Prod.mk.injEq,IE,hI,h.Gz,aY,q0,q2,q3,q4,hw,bt hh',Int.toNat_natCast,iM,iN,Rw,Option.isSome_some,Option.map_some,Option.some.injEq,hT,hD,CO,rG _ n3,e1,e2];rfl
    ·exact .inl ⟨rfl,k,_,by simp only[E8,seval,hI]<;>rfl,.inr ⟨_,rfl,by rw[CB];exact hz,by rw[CB];simp only[E8,seval]<;>rfl⟩,by omega,hh,hj⟩
   ·have hT:(((ol Q).take k).length=0)=False:=eq_false (by rw[List.length_take];omega)
    apply BZ (.ret)
    ·simp only[ZG,seval,Bool.false_and,Prod.mk.injEq,IE,hI,h.Gz,aY,q0,q2,q3,q4,hw,bt hh',Int.toNat_natCast,iM,iN,Rw,Option.isSome_some,Option.map_some,Option.some.injEq,hT,rG _ n1,Ty _ _ _ _ n1 n2,e1,e2];rfl
    ·exact .inl ⟨rfl,k,_,by simp only[E8,seval,hI]<;>rfl,.inr ⟨_,rfl,by rw[CB];exact hz,by simp only[E8,seval]<;>rfl⟩,by omega,hh,hj⟩
  ·have hh':¬(gx cY (ol Q) (k:Int)).tagged.tag=w.tagged.tag:=hh
   apply Au ((ol Q).length-(k+1))
   ·simp only[ZG,seval,Bool.false_and,Prod.mk.injEq,IE,hI,h.Gz,aY,q0,hw,bf hh'];rfl
   ·exact⟨k+1,by simp only[E8,seval,hI],fun j O6=>(Nat.lt_succ_iff_lt_or_eq.1 O6).elim (hj j) fun e=>by subst e;exact hh,by omega,rfl⟩
 case start=>exact⟨0,by simp only[E8,seval]<;>rfl,fun j hj=>by omega,by omega,by omega⟩
 case rest =>
  rintro e st (⟨rfl,k,X,hI,hX,hk,hh,hj⟩|⟨rfl,hI,hj⟩)
  ·rcases hX with ⟨rfl,hz⟩|⟨g,rfl,hz,hg⟩
   ·have hfz:Flat (.agg (aQ { t with iY:=.v (.slice none 0 0)})):=(uG _).2 ⟨pJ.1,pJ.2.1,pJ.2.2.1,pJ.2.2.2.1,pJ.2.2.2.2.1,pJ.2.2.2.2.2.1,pJ.2.2.2.2.2.2.1,.v _,pJ.2.2.2.2.2.2.2.2⟩
    simp only[ZG,seval,Bool.false_and,Prod.mk.injEq,IE,hI];exact⟨_,fM rfl (by simp only[bY,Z8,seval,hI]<;>rfl) (by simp only[bY,Z8,seval,hI]<;>rfl) (by simp only[bY,E8,seval,hI]<;>rfl) (eC (.agg _ (jQ _))) (eC hfz) (by simp only[Z8,seval]<;>rfl),.inr ⟨k,hk,hh,hj,by rw[hz,show nz ([]:List Request)=none from if_pos rfl];rfl⟩⟩
   ·simp only[ZG,seval,Bool.false_and,Prod.mk.injEq,IE,hI,hg];exact⟨_,fM rfl (by simp only[bY,Z8,seval,hI]<;>rfl) (by simp only[bY,Z8,seval,hI]<;>rfl) (by simp only[bY,E8,seval,hI]<;>rfl) (eC (.agg _ (jQ _))) (by simp only[Z8,seval,hI,hg,bS,vX,gJ,bP,pM,cW,dU,pJ]<;>rfl) (by simp only[Z8,seval]<;>rfl),.inr ⟨k,hk,hh,hj,by rw[show nz ((ol Q).take k++(ol Q).drop (k+1))=some _ from if_neg hz];rfl⟩⟩
  ·simp only[ZG,seval,Bool.false_and,Prod.mk.injEq,IE,hI];exact⟨_,by apply fM;rfl;all_goals simp only[aH,bY,Z8,seval,hI,BX]<;>rfl,.inl ⟨hj,rfl⟩⟩
theorem aSp (ns:List Node) (hu:gL ns) (hr:(nd ns 0).up=-1) (hn:(ns.length:Int)<1000000) (i:Int) (w:gV) (l:List Int) (hl:(l.length:Int)<1000000) (st:St) (a g:Nat) (d:Option Nat) (hh:st.heap a g=some (.row 3 1 l.length (aK l))) :
 fG (aB Tryz.prog) 222 [.agg (cJ ⟨ns⟩),.v (.int .i64 i),.agg (dL w),.own a g] st d=some { dst:=d,val:=UO ns i w l,dS:=some (a,g,none)}:=by
 rw[Ol (s:=a) (k:=g) (by rw[List.flatMap_cons,List.flatMap_cons,List.flatMap_cons,vU (lX _),vU (.v _),vU (.agg _ (jR w))];rfl) (by intro y hy;simp only[List.mem_cons,List.not_mem_nil,or_false] at hy;rcases hy with rfl|rfl|rfl|rfl;exact .inl (lX _);exact .inl (.v _);exact .inl (.agg _ (jR w));exact .inr (.inl ⟨a,g,rfl⟩)),
  List.map_cons,List.map_cons,List.map_cons,List.map_cons,List.map_nil,eC (lX _),eC (.v _),eC (.agg _ (jR w)),Rs hh,bO,bO,bO,bO,fR]
 exact NL (aQs ns hu hr hn i w l hl (.inl rfl)) (E6 ns i w l)
theorem aSq {t:State} {v:SV} {Q R:Option (List Request)} {q m:Int} (h:TI t v Q R q m) (w:gV) :
 ∃x,aB Tryz.prog 206 [.agg (aQ t),.agg (dL w)]=some x∧∃(t':State) (e:Int) (v':SV) (Q' R':Option (List Request)),x=.eG [.agg (aQ t'),.v (.int .i64 e)]∧TI t' v' Q' R' q m:=by
 have hf:=h.td.flat
 have pJ:=h.td.fl
 have fw:Flat (.agg (dL w)):=.agg _ (jR w)
 have BX:Flat (.agg (aQ lZ)):=by simp only[dU,lZ,gA,mQ,Lv,Ey,Rl,and_self]
 obtain⟨y,hy,⟨hj,rfl⟩|⟨k,hk,hh,hj,rfl⟩⟩:=x27 h.td w
 ·have k27:=kx hy (bE hf fw) (.eG _ (lM (.agg _ (jQ _)) BX (.v _)))
  rw[cL Tryz.func206 rfl aFU rfl];simp only[Z8,seval,k27,dE];exact⟨_,by apply dN;rfl;all_goals simp only[aH,bY,Z8,seval,hf]<;>rfl,t,23,v,Q,R,rfl,h⟩
 obtain⟨r,er⟩:∃r,gx cY (ol Q) (k:Int)=r:=⟨_,rfl⟩
 obtain⟨t1,et⟩:∃t1,({ t with iY:=ov aF (nz ((ol Q).take k++(ol Q).drop (k+1)))}:State)=t1:=⟨_,rfl⟩
 have hr:r.tagged.tag<t.dA:=by rw[← er];exact (h.tq.all _ (oO (by omega) (by omega))).2.1
 have h1:=h.less k
 rw[et] at h1;rw[er,et] at hy;have nt1:t1.dA=t.dA:=by rw[← et]
 have hf1:=h1.td.flat
 have OK:=h1.td.fl
 have k27:=kx hy (bE hf fw) (.eG _ (lM (.agg _ (jQ _)) hf1 (.v _)))
 have hn:=h1.gi.sd.nn
 rw[cL Tryz.func206 rfl aFU rfl];by_cases g3:w.kind=3
 ·obtain⟨R',hR'⟩:=h1.X8 (r:=r) (by rw[nt1];exact hr)
  have ff:=hR'.td.flat
  have k72:=kx (c72 h1.td r) (bE hf1 (.agg _ (jQ _))) ff
  simp only[Z8,seval,k27,dE,bt g3,k72];exact⟨_,by apply dN;rfl;all_goals simp only[aH,bY,Z8,seval,ff]<;>rfl,_,0,v,_,R',rfl,hR'⟩
 by_cases g4:w.kind=4
 ·obtain⟨R',hR'⟩:=h1.X8 (r:=r) (by rw[nt1];exact hr)
  have ff:=hR'.td.flat
  have k72:=kx (c72 h1.td r) (bE hf1 (.agg _ (jQ _))) ff
  simp only[Z8,seval,k27,dE,bf g3,bt g4,k72];exact⟨_,by apply dN;rfl;all_goals simp only[aH,bY,Z8,seval,ff]<;>rfl,_,0,v,_,R',rfl,hR'⟩
 have FY:∀(st:St) (a g:Nat) (d:Option Nat),st.heap a g=some (.row 3 1 2 (aK [aN v.ns t1.store.aU.gD.root,aN v.ns t1.store.aU.fin.root]))→_:=fun st a g d hh=>aSp v.ns h1.gi.up h1.gi.Xi hn (aN v.ns r.block) w [aN v.ns t1.store.aU.gD.root,aN v.ns t1.store.aU.fin.root] (by show ((2:Nat):Int)<_;omega) st a g d hh
 rcases aHg v.ns (aN v.ns r.block) w [aN v.ns t1.store.aU.gD.root,aN v.ns t1.store.aU.fin.root] with ⟨e,he,ej⟩|⟨Yc,hs,ej⟩
 ·rw[ej] at FY
  have hH:=h.halt true
  have fH:=hH.td.flat
  simp only[Z8,seval,k27,dE,bf g3,bf g4,Es,h1.gi.sd.tree,mS _ _ hn,FY,bf he];exact⟨_,by apply dN;rfl;all_goals simp only[aH,bY,Z8,seval,fH]<;>rfl,_,21,v,Q,R,rfl,hH⟩
 rw[ej] at FY
 have Gk:(Yc.length:Int)<1000000:=by rw[hs.len];exact hn
 have fr:=eQ Yc t1.store.eW
 by_cases b0:0≤aN Yc t1.store.eW
 case neg =>
  have T:=h1.tree hs t1.store.eW
  have ft:=T.td.flat
  simp only[Z8,seval,k27,dE,bf g3,bf g4,Es,h1.gi.sd.tree,mS _ _ hn,mS _ _ Gk,FY,b0];exact⟨_,by apply dN;rfl;all_goals simp only[aH,bY,Z8,seval,ft]<;>rfl,_,0,_,_,R,rfl,T⟩
 by_cases b1:(nd Yc (aN Yc t1.store.eW)).status=2
 case neg =>
  have T:=h1.tree hs t1.store.eW
  have ft:=T.td.flat
  simp only[Z8,seval,k27,dE,bf g3,bf g4,Es,h1.gi.sd.tree,mS _ _ hn,mS _ _ Gk,FY,b0,fr.2,bf b1];exact⟨_,by apply dN;rfl;all_goals simp only[aH,bY,Z8,seval,ft]<;>rfl,_,0,_,_,R,rfl,T⟩
 have T:=h1.tree hs dV
 have ft:=T.td.flat
 simp only[Z8,seval,k27,dE,bf g3,bf g4,Es,h1.gi.sd.tree,mS _ _ hn,mS _ _ Gk,FY,b0,fr.2,bt b1];exact⟨_,by apply dN;rfl;all_goals simp only[aH,bY,Z8,seval,ft]<;>rfl,_,0,_,_,R,rfl,T⟩
def aSs (s:aL) (v:SV) (q:Int) (r:AV):Prop:=∃(s':aL) (R:Option (List cN)) (e:Int),r=.eG [.agg (aA s'),ov gZ R,.v (.int .i64 e)]∧Flat (.agg (aA s'))∧((ol R).length:Int)≤70∧e≠21∧(e=0→∃v',GI s' v' q∧RG s' v'∧s'.cFg=s.cFg)
theorem aSt {s:aL} {v:SV} {q:Int} (h:GI s v q) (r:RG s v) (b:Block) (rb:RB b∧Pr b.root):∃r,aB Tryz.prog 203 [.agg (aA s),.agg (aP b)]=some r∧aSs s v q r:=by
 have hf:=h.sd.flat
 have pJ:=h.sd.fl
 have hz:=Jo
 have VR:=k52 h.sd h.up h.sp
 have nO:=h.nO
 have NG:=h.NG
 have nn':=h.sd.nO
 rw[cL Tryz.func203 rfl aM4 rfl];by_cases g1:Ku s v b=10
 ·by_cases g2:s.cFg.lK.wU≤((ol v.O).length:Int)
  ·simp only[Z8,seval,VR,bt g1,h.sd.bN,g2];exact⟨_,by apply fM;rfl;all_goals simp only[aH,bY,Z8,seval,hz]<;>rfl,gA,none,11,rfl,hz,by simp[ol],by decide,fun h=>by cases h⟩
  ·have hw:=h.VA (some (ol v.O++[{ b with Fb:=false }])) (by show (((ol v.O++[{ b with Fb:=false }]).length:Nat):Int)≤s.cFg.lK.wU;rw[List.length_append,List.length_cons,List.length_nil];omega)
   have hwr:=r.VA (some (ol v.O++[{ b with Fb:=false }])) (ov aG (some (ol v.O++[{ b with Fb:=false }]))) (fun c hc=>(List.mem_append.1 hc).elim (r.or c) fun e=>by rw[List.mem_singleton] at e;subst e;exact⟨⟨rb.1.sl,rb.1.j,rb.1.f,rb.1.pj,rb.1.pf⟩,rb.2⟩) (by simp)
   simp only[Z8,seval,VR,bt g1,h.sd.bN,g2,iV _ nn',FZ _ _ _ _ nn'];exact⟨_,by apply fM;rfl;all_goals simp only[aH,bY,Z8,seval,bS,gJ,bP,uM,cW,dU,pJ]<;>rfl,_,none,0,rfl,hw.sd.flat,by simp[ol],by decide,fun _=>⟨_,hw,hwr,rfl⟩⟩
 by_cases g2:Ku s v b=0
 case neg =>
  simp only[Z8,seval,VR,bf g1,bf g2];exact⟨_,by apply fM;rfl;all_goals simp only[aH,bY,Z8,seval,hz]<;>rfl,gA,none,_,rfl,hz,by simp[ol],aGP _ _ _,fun h=>absurd h g2⟩
 have p8:=aMT h g2
 have aDa:=h.ins g2
 have aDb:=r.ins rb g2
 have hcf:=Bo s v b
 have hO1:=VC s v b
 cases g3:b.Fb
 · -- not timely
  have hG:GI (tC s v b) (lL s v b) q:=aDa
  have oS:RG (tC s v b) (lL s v b):=aDb
  have hC:((tC s v b)).cFg=s.cFg:=hcf.1
  have pU:=NC hG.sd
  simp only[Z8,seval,VR,bf g1,bt g2,p8,g3,pU];refine Oq (a:=Br) (G4 s v q) (HW (by omega) (m:=(ol (lL s v b).O).length) ⟨(tC s v b),lL s v b,_,[b.root],66,0, ?start,.inl ⟨rfl,rfl⟩,.inl rfl,hG,oS,hC,by simp;omega,rfl⟩) ?rest
  case start =>
   rw[tE hG.sd];simp only[E8,seval,gZ,List.flatMap_cons,List.flatMap_nil,List.append_nil]<;>rfl
  case rest =>
   rintro e st ⟨rfl,S0,w,X,R,a,g,hI,ha,hX,hG,oS,hC,hR⟩
   have X9:(a=4)=False:=eq_false ha
   have aHi:=hG.sd.fl
   have hfo:=hG.sd.bN
   rcases hX with rfl|⟨g',L,hL,rfl,LR⟩
   ·rw[tE hG.sd] at hI;have Tw:=hG.sd.flat
    simp only[Z8,seval,hI];exact⟨_,by apply fM;rfl;all_goals simp only[aH,bY,Z8,seval,hI,X9,Tw,wJ]<;>rfl,S0,some R,0,rfl,Tw,by simp only[ol,Option.getD_some];omega,by decide,fun _=>⟨w,hG,oS,hC⟩⟩
   ·have hex:=fun st' hh=>zU (O:=L) (a:=91) (g:=g') hG.sd st' hh
    have OK:mU S0 (ov aG (some L))=S0:=by rw[← hL];exact tE hG.sd
    rw[OK] at hex;simp only[Z8,seval,hI];exact⟨_,by apply fM;rfl;all_goals simp only[aH,bY,Z8,seval,hI,X9,LR,hex,wJ]<;>rfl,S0,some R,0,rfl,hG.sd.flat,by simp only[ol,Option.getD_some];omega,by decide,fun _=>⟨w,hG,oS,hC⟩⟩
 by_cases g4:b.slot=s.now
 case neg =>
  have hG:GI (tC s v b) (lL s v b) q:=aDa
  have oS:RG (tC s v b) (lL s v b):=aDb
  have hC:((tC s v b)).cFg=s.cFg:=hcf.1
  have pU:=NC hG.sd
  simp only[Z8,seval,VR,bf g1,bt g2,p8,g3,bf g4,pU];refine Oq (a:=Br) (G4 s v q) (HW (by omega) (m:=(ol (lL s v b).O).length) ⟨(tC s v b),lL s v b,_,[b.root],66,0, ?start,.inl ⟨rfl,rfl⟩,.inl rfl,hG,oS,hC,by simp;omega,rfl⟩) ?rest
  case start =>
   rw[tE hG.sd];simp only[E8,seval,gZ,List.flatMap_cons,List.flatMap_nil,List.append_nil]<;>rfl
  case rest =>
   rintro e st ⟨rfl,S0,w,X,R,a,g,hI,ha,hX,hG,oS,hC,hR⟩
   have X9:(a=4)=False:=eq_false ha
   have aHi:=hG.sd.fl
   have hfo:=hG.sd.bN
   rcases hX with rfl|⟨g',L,hL,rfl,LR⟩
   ·rw[tE hG.sd] at hI;have Tw:=hG.sd.flat
    simp only[Z8,seval,hI];exact⟨_,by apply fM;rfl;all_goals simp only[aH,bY,Z8,seval,hI,X9,Tw,wJ]<;>rfl,S0,some R,0,rfl,Tw,by simp only[ol,Option.getD_some];omega,by decide,fun _=>⟨w,hG,oS,hC⟩⟩
   ·have hex:=fun st' hh=>zU (O:=L) (a:=91) (g:=g') hG.sd st' hh
    have OK:mU S0 (ov aG (some L))=S0:=by rw[← hL];exact tE hG.sd
    rw[OK] at hex;simp only[Z8,seval,hI];exact⟨_,by apply fM;rfl;all_goals simp only[aH,bY,Z8,seval,hI,X9,LR,hex,wJ]<;>rfl,S0,some R,0,rfl,hG.sd.flat,by simp only[ol,Option.getD_some];omega,by decide,fun _=>⟨w,hG,oS,hC⟩⟩
 by_cases g5:s.eW=dV
 case neg =>
  have hG:GI (tC s v b) (lL s v b) q:=aDa
  have oS:RG (tC s v b) (lL s v b):=aDb
  have hC:((tC s v b)).cFg=s.cFg:=hcf.1
  have pU:=NC hG.sd
  simp only[Z8,seval,VR,bf g1,bt g2,p8,g3,bt g4,g5,pU];refine Oq (a:=Br) (G4 s v q) (HW (by omega) (m:=(ol (lL s v b).O).length) ⟨(tC s v b),lL s v b,_,[b.root],66,0, ?start,.inl ⟨rfl,rfl⟩,.inl rfl,hG,oS,hC,by simp;omega,rfl⟩) ?rest
  case start =>
   rw[tE hG.sd];simp only[E8,seval,gZ,List.flatMap_cons,List.flatMap_nil,List.append_nil]<;>rfl
  case rest =>
   rintro e st ⟨rfl,S0,w,X,R,a,g,hI,ha,hX,hG,oS,hC,hR⟩
   have X9:(a=4)=False:=eq_false ha
   have aHi:=hG.sd.fl
   have hfo:=hG.sd.bN
   rcases hX with rfl|⟨g',L,hL,rfl,LR⟩
   ·rw[tE hG.sd] at hI;have Tw:=hG.sd.flat
    simp only[Z8,seval,hI];exact⟨_,by apply fM;rfl;all_goals simp only[aH,bY,Z8,seval,hI,X9,Tw,wJ]<;>rfl,S0,some R,0,rfl,Tw,by simp only[ol,Option.getD_some];omega,by decide,fun _=>⟨w,hG,oS,hC⟩⟩
   ·have hex:=fun st' hh=>zU (O:=L) (a:=91) (g:=g') hG.sd st' hh
    have OK:mU S0 (ov aG (some L))=S0:=by rw[← hL];exact tE hG.sd
    rw[OK] at hex;simp only[Z8,seval,hI];exact⟨_,by apply fM;rfl;all_goals simp only[aH,bY,Z8,seval,hI,X9,LR,hex,wJ]<;>rfl,S0,some R,0,rfl,hG.sd.flat,by simp only[ol,Option.getD_some];omega,by decide,fun _=>⟨w,hG,oS,hC⟩⟩
 have hG:GI { tC s v b with eW:=b.root } (lL s v b) q:=aDa.eW b.root
 have oS:RG { tC s v b with eW:=b.root } (lL s v b):=aDb.eW b.root
 have hC:({ tC s v b with eW:=b.root }).cFg=s.cFg:=hcf.1
 have pU:=NC hG.sd
 simp only[Z8,seval,VR,bf g1,bt g2,p8,g3,bt g4,g5,pU];refine Oq (a:=Br) (G4 s v q) (HW (by omega) (m:=(ol (lL s v b).O).length) ⟨{ tC s v b with eW:=b.root },lL s v b,_,[b.root],66,0, ?start,.inl ⟨rfl,rfl⟩,.inl rfl,hG,oS,hC,by simp;omega,rfl⟩) ?rest
 case start =>
  rw[tE hG.sd];simp only[E8,seval,gZ,List.flatMap_cons,List.flatMap_nil,List.append_nil]<;>rfl
 case rest =>
  rintro e st ⟨rfl,S0,w,X,R,a,g,hI,ha,hX,hG,oS,hC,hR⟩
  have X9:(a=4)=False:=eq_false ha
  have aHi:=hG.sd.fl
  have hfo:=hG.sd.bN
  rcases hX with rfl|⟨g',L,hL,rfl,LR⟩
  ·rw[tE hG.sd] at hI;have Tw:=hG.sd.flat
   simp only[Z8,seval,hI];exact⟨_,by apply fM;rfl;all_goals simp only[aH,bY,Z8,seval,hI,X9,Tw,wJ]<;>rfl,S0,some R,0,rfl,Tw,by simp only[ol,Option.getD_some];omega,by decide,fun _=>⟨w,hG,oS,hC⟩⟩
  ·have hex:=fun st' hh=>zU (O:=L) (a:=91) (g:=g') hG.sd st' hh
   have OK:mU S0 (ov aG (some L))=S0:=by rw[← hL];exact tE hG.sd
   rw[OK] at hex;simp only[Z8,seval,hI];exact⟨_,by apply fM;rfl;all_goals simp only[aH,bY,Z8,seval,hI,X9,LR,hex,wJ]<;>rfl,S0,some R,0,rfl,hG.sd.flat,by simp only[ol,Option.getD_some];omega,by decide,fun _=>⟨w,hG,oS,hC⟩⟩
def PfR (q m:Int) (r:AV):Prop:=∃(t':State) (e:Int),r=.eG [.agg (aQ t'),.v (.int .i64 e)]∧Flat (.agg (aQ t'))∧(e=0∨e=21→∃v' Q' R',TI t' v' Q' R' (q+1000) (m+256))
theorem OL {t:State} (h:Flat (.agg (aQ t))) {s':aL} (hs:Flat (.agg (aA s'))):Flat (.agg (aQ { t with store:=s' })):=by
 obtain⟨_,_,_,_,_,_,_,h8,h9⟩:=(uG t).1 h
 obtain⟨h1,h2,h3,h4,h5,h6,h7⟩:=(wT s').1 hs
 exact (uG _).2 ⟨h1,h2,h3,h4,h5,h6,h7,h8,h9⟩
theorem aSu {t:State} {v:SV} {Q R:Option (List Request)} {q m:Int} (h:TI t v Q R q m) (x:xM) (hx:pK x) (hp:x.kind=2→Pr x.block.root) (hq:q+1000≤900000) (hm:m+256≤100000) :
 ∃r,aB Tryz.prog 185 [.agg (aQ t),.agg (lA x)]=some r∧PfR q m r:=by
 have hf:=h.td.flat
 have ZM:=h.gi.sd.flat
 have TK:=hx.flat
 have aDc:=hx.fl
 have up:∀ {t':State} {v':SV} {Q' R':Option (List Request)} {q' m':Int},TI t' v' Q' R' q' m'→q'≤q+1000→m'≤m+256→∃v' Q' R',TI t' v' Q' R' (q+1000) (m+256):=fun g a b=>⟨_,_,_,g.mono a hq b hm⟩
 have nt:=h.nt
 have mB:=h.mB
 have lq:=h.lq
 have lr:=h.lr
 have rB:=h.aC9
 rw[cL Tryz.func185 rfl aM5 rfl];by_cases k1:x.kind=1
 ·obtain⟨y,hy,s',e,rfl,TO,ne,ho⟩:=aR9 h.gi h.rg
  have k202:=kx hy (cU ZM) (.eG _ (bE TO (.v _)))
  have ft:=OL hf TO
  by_cases e0:e=0
  ·obtain⟨v',g,r,c⟩:=ho e0
   have T0:=h.toTI0.store g r c
   have T1:=T0.drop
   have T2:=T1.due hm
   have k36:=kx (c36 T0.td) (cU ft) T1.td.flat
   have k74:=kx (c74 T1.td (by have:=T1.lq;have:=T1.lr;have:=T1.aC9;omega)) (cU T1.td.flat) T2.td.flat
   have ft2:=T2.td.flat
   simp only[Z8,seval,bt k1,k202,dE,bt e0,k36,k74];exact⟨_,by apply dN;rfl;all_goals simp only[aH,bY,Z8,seval,ft2]<;>rfl,_,e,rfl,ft2,fun _=>up T2 (by omega) (by omega)⟩
  ·simp only[Z8,seval,bt k1,k202,dE,bf e0];exact⟨_,by apply dN;rfl;all_goals simp only[aH,bY,Z8,seval,ft]<;>rfl,_,e,rfl,ft,fun h=>absurd h (by omega)⟩
 by_cases k2:x.kind=2
 ·obtain⟨y,hy,s',L,e,rfl,TO,nL,ne,ho⟩:=aSt h.gi h.rg x.block ⟨hx.rb,hp k2⟩
  have k203:=kx hy (bE ZM (qL _)) (.eG _ (lM TO (Hr L) (.v _)))
  have ft:=OL hf TO
  by_cases e0:e=0
  ·obtain⟨v',g,r,c⟩:=ho e0
   have T0:=h.toTI0.store g r c
   have T1:=T0.drop
   have T2:=T1.open (ol L) (by omega) hm
   have k36:=kx (c36 T0.td) (cU ft) T1.td.flat
   have k32:∀(st:St) (d:Option Nat),fG (aB Tryz.prog) 32 _ st d=_:=fun st d=>Hs (bE T1.td.flat (Hr L)) (c32 T1.td L (by have:=T1.lq;omega)) T2.td.flat
   have ft2:=T2.td.flat
   simp only[Z8,seval,bf k1,bt k2,k203,dE,bt e0,k36,k32];exact⟨_,by apply dN;rfl;all_goals simp only[aH,bY,Z8,seval,ft2]<;>rfl,_,e,rfl,ft2,fun _=>up T2 (by omega) (by omega)⟩
  ·simp only[Z8,seval,bf k1,bt k2,k203,dE,bf e0];exact⟨_,by apply dN;rfl;all_goals simp only[aH,bY,Z8,seval,ft]<;>rfl,_,e,rfl,ft,fun h=>absurd h (by omega)⟩
 by_cases k3:x.kind=3
 ·obtain⟨V,hV,nV⟩:=hx.Gp
  obtain⟨y,hy,s',e,rfl,TO,ne,ho⟩:=aRm h.gi h.rg x.Gp V hV (by omega)
  have k204:=kx hy (bE ZM ((zP _).2 aDc.1)) (.eG _ (bE TO (.v _)))
  have ft:=OL hf TO
  have fin:e=0∨e=21→∃v' Q' R',TI { t with store:=s' } v' Q' R' (q+1000) (m+256):=fun he=>by
   obtain⟨v',g,r,c,en⟩:=ho (by omega)
   exact up ⟨h.toTI0.store g r c,by rw[en];exact h.P2,by rw[en];exact h.P3⟩ (by omega) (by omega)
  simp only[Z8,seval,bf k1,bf k2,bt k3,k204,dE];exact⟨_,by apply dN;rfl;all_goals simp only[aH,bY,Z8,seval,ft]<;>rfl,_,e,rfl,ft,fin⟩
 by_cases k4:x.kind=4
 ·obtain⟨V,hV,nV⟩:=hx.c1
  obtain⟨W,hW,nW⟩:=hx.c2
  obtain⟨y,hy,s',e,rfl,TO,ne,ho⟩:=aRl h.gi h.rg x.pB V W hV hW nV nW hq
  have k205:=kx hy (bE ZM ((nC _).2 ⟨aDc.2.1,aDc.2.2.1⟩)) (.eG _ (bE TO (.v _)))
  have ft:=OL hf TO
  have fin:e=0∨e=21→∃v' Q' R',TI { t with store:=s' } v' Q' R' (q+1000) (m+256):=fun he=>by
   obtain⟨v',g,r,c,en⟩:=ho (by omega)
   exact up ⟨h.toTI0.store g r c,by rw[en];exact h.P2,by rw[en];exact h.P3⟩ (by omega) (by omega)
  simp only[Z8,seval,bf k1,bf k2,bf k3,bt k4,k205,dE];exact⟨_,by apply dN;rfl;all_goals simp only[aH,bY,Z8,seval,ft]<;>rfl,_,e,rfl,ft,fin⟩
 by_cases k5:x.kind=5
 ·have nT:=h.gi.nT
  have TM:=h.gi.TM
  obtain⟨y,hy,s',e,rfl,TO,ne,ho⟩:=aLx h.gi.sd (by omega) x.table hx.W0
  have aDd:=kx hy (bE ZM ((iG _).2 aDc.2.2.2)) (.eG _ (bE TO (.v _)))
  have ft:=OL hf TO
  have fin:e=0∨e=21→∃v' Q' R',TI { t with store:=s' } v' Q' R' (q+1000) (m+256):=fun he=>by
   obtain⟨o',rfl,nl,tb,sub,ne1,ne2⟩:=ho (by omega)
   have g:GI { t.store with tables:=ov aI o' } { v with T:=o' } q :=
    ⟨⟨h.gi.sd.iP,h.gi.sd.eB,h.gi.sd.gW,h.gi.sd.early,h.gi.sd.bN,h.gi.sd.tree,rfl,h.gi.sd.eV,tb,h.gi.sd.nB,h.gi.sd.nL,h.gi.sd.nQ,h.gi.sd.nE,h.gi.sd.nO,by show ((ol o').length:Int)<_;omega,h.gi.sd.nn⟩,h.gi.up,h.gi.Xi,h.gi.pos,h.gi.nl,h.gi.UY,h.gi.jL,h.gi.NF,h.gi.nB,h.gi.nO,h.gi.NG,h.gi.nE,h.gi.TL,by show ((ol o').length:Int)≤t.store.cFg.lK.qF;omega,h.gi.TM,h.gi.nQ,h.gi.S7,h.gi.gD⟩
   have r:RG { t.store with tables:=ov aI o' } { v with T:=o' }:=⟨h.rg.now,h.rg.j,h.rg.f,h.rg.nd,h.rg.or,h.rg.rt,h.rg.fe,h.rg.ds,by obtain⟨tb,h1,h2⟩:=h.rg.tb;exact⟨tb,sub h1,h2⟩,⟨h.rg.ne.q,h.rg.ne.e,h.rg.ne.o,ne1,h.rg.ne.ea,fun x hx=>(ne2 x hx).elim (h.rg.ne.tb x) fun ⟨B,h1,h2⟩=>⟨B,h1,fun e=>by have h3:=h.iP.1;rw[e] at h2;simp at h2;omega⟩⟩⟩
   exact up ⟨h.toTI0.store g r rfl,h.P2,h.P3⟩ (by omega) (by omega)
  simp only[Z8,seval,bf k1,bf k2,bf k3,bf k4,bt k5,aDd,dE];exact⟨_,by apply dN;rfl;all_goals simp only[aH,bY,Z8,seval,ft]<;>rfl,_,e,rfl,ft,fin⟩
 by_cases k6:x.kind=6
 ·obtain⟨y,hy,t',e,v',Q',R',rfl,g⟩:=aSq h x.verdict
  have k206:=kx hy (bE hf (.agg _ (jR _))) (.eG _ (bE g.td.flat (.v _)))
  have ft:=g.td.flat
  simp only[Z8,seval,bf k1,bf k2,bf k3,bf k4,bf k5,bt k6,k206,dE];exact⟨_,by apply dN;rfl;all_goals simp only[aH,bY,Z8,seval,ft]<;>rfl,_,e,rfl,ft,fun _=>up g (by omega) (by omega)⟩
 simp only[Z8,seval,bf k1,bf k2,bf k3,bf k4,bf k5,bf k6];exact⟨_,by apply dN;rfl;all_goals simp only[aH,bY,Z8,seval,hf]<;>rfl,t,2,rfl,hf,fun h=>absurd h (by omega)⟩
theorem aSw {t:State} {v:SV} {Q R:Option (List Request)} {q m:Int} (h:TI t v Q R q m) (x:xM) (hx:pK x) (hp:x.kind=2→Pr x.block.root) (hq:q+1000≤900000) (hm:m+256≤100000) :
 ∃r,aB Tryz.prog 147 [.agg (aQ t),.agg (lA x)]=some r∧∃(t':State) (y:AV) (e:Int) (v':SV) (Q' R':Option (List Request)),r=.eG [.agg (aQ t'),y,.v (.int .i64 e)]∧Flat y∧TI t' v' Q' R' (q+1000) (m+256):=by
 have hf:=h.td.flat
 have TK:=hx.flat
 have h':=h.mono (q':=q+1000) (m':=m+256) (by omega) hq (by omega) hm
 obtain⟨y1,hy1,e1,rfl⟩:=aRG x hx
 have aDe:=kx hy1 (cU TK) (.v _)
 obtain⟨y2,hy2,t2,e2,rfl,ft2,ho⟩:=aSu h x hx hp hq hm
 have aHj:=kx hy2 (bE hf TK) (.eG _ (bE ft2 (.v _)))
 rw[cL Tryz.func147 rfl aM6 rfl];cases g0:t.halted
 case true =>
  simp only[Z8,seval,g0];exact⟨_,by apply fM;rfl;all_goals simp only[aH,bY,Z8,seval,hf]<;>rfl,t,_,22,v,Q,R,rfl,.v _,h'⟩
 by_cases g1:e1=0
 case neg =>
  simp only[Z8,seval,g0,aDe,bf g1];exact⟨_,by apply fM;rfl;all_goals simp only[aH,bY,Z8,seval,hf]<;>rfl,t,_,e1,v,Q,R,rfl,.v _,h'⟩
 by_cases g2:e2=21
 ·obtain⟨v',Q',R',T⟩:=ho (.inr g2)
  simp only[Z8,seval,g0,aDe,bt g1,aHj,dE,bt g2];exact⟨_,by apply fM;rfl;all_goals simp only[aH,bY,Z8,seval,ft2]<;>rfl,t2,_,e2,v',Q',R',rfl,.v _,T⟩
 by_cases g3:e2=0
 case neg =>
  simp only[Z8,seval,g0,aDe,bt g1,aHj,dE,bf g2,bf g3];exact⟨_,by apply fM;rfl;all_goals simp only[aH,bY,Z8,seval,hf]<;>rfl,t,_,e2,v,Q,R,rfl,.v _,h'⟩
 obtain⟨v',Q',R',T⟩:=ho (.inl g3)
 obtain⟨y3,hy3,b,c,y,rfl,fy⟩:=aMf t2 ft2 T.gi
 have T':=T.emit b c
 have ft3:=T'.td.flat
 have aHk:=kx hy3 (cU ft2) (.eG _ (bE ft3 fy))
 simp only[Z8,seval,g0,aDe,bt g1,aHj,dE,bf g2,bt g3,aHk];exact⟨_,fM rfl (by simp only[bY,Z8,seval]<;>rfl) (by simp only[bY,Z8,seval]<;>rfl) (by simp only[bY,E8,seval]<;>rfl) (eC ft3) (eC fy) (eC (.v _)),_,y,0,v',Q',R',rfl,fy,T'⟩
theorem xC (n:Int):(mkRoot n)[0]=IntKind.u8.wrap n:=by
 simp[mkRoot]
theorem Hx {n:Int} (h0:0≤n) (h1:n<256):IntKind.u8.wrap n=n:=by
 simp only[IntKind.wrap,IntKind.bits,IntKind.signed];simp
 omega
theorem aFV {n:Int} (h0:1≤n) (h1:n≤98):Pr (mkRoot n):=by
 refine⟨fun e=>?_,fun e=>?_⟩
 ·have e1:IntKind.u8.wrap n=dV[0]:=by rw[← xC,e]
  rw[Hx (by omega) (by omega),show dV[0]=0 from rfl] at e1
  omega
 ·have e1:IntKind.u8.wrap n=IntKind.u8.wrap 99:=by rw[← xC,← xC,e]
  rw[Hx (by omega) (by omega),Hx (by omega) (by omega)] at e1
  omega
theorem RG.new {c:Config} {b:List Int} (h:Ht c b):RG (yI c b) (Av c b):=by
 have hg:Pr c.cX:=by rw[h.gen];exact aFV (by omega) (by omega)
 have z:Rg 0:=o9
 refine⟨⟨by show (0:Int)≤0;omega,by show (0:Int)≤_;omega⟩,z,z,fun n hn=>?_,(fun o ho=>by cases ho),fun n hn=>?_,⟨by show (0:Int)≤0;omega, ?_⟩, ?_, ?_, ?_⟩
 ·rw[show n=⟨NO c,-1,1⟩ from List.mem_singleton.1 hn];exact⟨⟨z,z,z,z,z⟩,by show (0:Int)≤0;omega⟩
 ·rw[show n=⟨NO c,-1,1⟩ from List.mem_singleton.1 hn];exact hg
 ·show (0:Int)≤IntKind.u64.wrap (Int.tdiv 0 c.jL)
  rw[Int.zero_tdiv];decide
 ·show ([c.cX]:List cN).Nodup
  simp
 ·exact⟨⟨⟨0,c.cX⟩,ov bK (some b)⟩,List.mem_singleton.2 rfl,rfl⟩
 ·exact⟨nofun,nofun,nofun,by simp[Av],(fun a ha=>by cases ha),fun t ht=>⟨b,by rw[show t=⟨⟨0,c.cX⟩,ov bK (some b)⟩ from List.mem_singleton.1 ht],fun e=>by have:=h.nb.1;rw[e] at this;simp at this⟩⟩
def Y0 (c:Config) (b:List Int):State:={ lZ with store:=yI c b,dA:=1 }
theorem TI.new {c:Config} {b:List Int} (h:Ht c b):TI (Y0 c b) (Av c b) none none 0 0:=by
 have g:=GI.new h
 have r:=RG.new h
 have hr:=h.oP
 exact⟨⟨⟨g.sd,rfl,rfl,by show ((0:Nat):Int)<_;omega,by show ((0:Nat):Int)<_;omega⟩,g,r,⟨b,h⟩,⟨by show (1:Int)≤1;omega,(fun r hr=>by cases hr),List.Pairwise.nil⟩,⟨(fun r hr=>by cases hr),List.Pairwise.nil⟩,by show (1:Int)≤1+0;omega,by show ((0:Nat):Int)≤0;omega,by show ((0:Nat):Int)≤c.lK.oP;omega,by omega,nofun,nofun⟩,(fun r hr=>by cases hr),(fun r hr=>by cases hr)⟩
theorem aSx {c:Config} {b:List Int} (h:Ht c b):∃r,aB Tryz.prog 144 [.agg (bW c)]=some r∧∃(Lx:Bool) (last:Command) (y:AV),r=.eG [.agg (aQ { Y0 c b with Lx:=Lx,last:=last }),y,.v (.int .i64 0)]∧Flat y:=by
 have T:=TI.new h
 have fc:Flat (.agg (bW c)):=(yU c).2 (by rw[h.iP];exact dY _)
 have fs:=T.gi.sd.flat
 have aHl:=kx (aMj h) (cU fc) (.eG _ (bE fs (.v _)))
 obtain⟨y3,hy3,s,l,y,rfl,fy⟩:=aMf (Y0 c b) T.td.flat T.gi
 have ft3:=(T.emit s l).td.flat
 have aHk:=kx hy3 (cU T.td.flat) (.eG _ (bE ft3 fy))
 have eb:({ lZ with store:=yI c b,dA:=1 }:State)=Y0 c b:=rfl
 rw[cL Tryz.func144 rfl aM9 rfl];simp only[Z8,seval,aHl,dE,eb,aHk];exact⟨_,fM rfl (by simp only[bY,Z8,seval]<;>rfl) (by simp only[bY,Z8,seval]<;>rfl) (by simp only[bY,E8,seval]<;>rfl) (eC ft3) (eC fy) (eC (.v _)),s,l,y,rfl,fy⟩
def Mg (l:List xM):List AV:=l.flatMap lA
theorem Y1 (x:xM):yJ 190 446 720 (some (1,lA x))=some (none,.row 190 446 [x].length (Mg [x])):=by simp[yJ,maxLen,Mg]
theorem Y2 (l:List xM) (x:xM) (s g:Nat) (h:(l.length:Int)<1000000):xY 190 446 720 (some (.row 190 446 l.length (Mg l))) s g (some (1,lA x))=some (some (s,g),.row 190 446 (l++[x]).length (Mg (l++[x]))):=by
 simp only[xY];rw[if_pos ⟨by simp,trivial,trivial,by omega,by simp only[maxLen];omega⟩]
 simp[Mg,List.flatMap_append]
theorem Rx (l:List xM) (h:∀y∈l,pK y):∀x∈Mg l,Flat x:=by
 intro x hx;obtain⟨y,hm,hy⟩:=List.mem_flatMap.1 hx
 have hf:=(h y hm).flat
 cases hf with
 | agg _ hc=>exact hc x hy
theorem aFW (n:Nat) (l:List xM) (h:∀y∈l,pK y):jG (some (.row 190 446 n (Mg l)))=some (.sl n (Mg l)):=by
 unfold jG;simp only;rw[if_pos (Rx l h)]
theorem x75 (l:List Int) (hl:(l.length:Int)≤9223372036854775807):∃r,aB Tryz.prog 75 [.sl l.length (aK l)]=some r∧∃(c:Config) (X:AV) (t:State) (v:SV) (Q R:Option (List Request)),r=.eG [.agg (bW c),X,.agg (aQ t)]∧Flat (.agg (bW c))∧Flat X∧TI t v Q R 24000 6144:=by
 obtain⟨y1,hy1,c,b,rfl,hc⟩:=aSj l hl
 have fc:Flat (.agg (bW c)):=(yU c).2 (by rw[hc.iP];exact dY _)
 have aDg:∀(st:St) (d:Option Nat),fG (aB Tryz.prog) 101 _ st d=_:=fun st d=>Hs (cU (Eo l)) hy1 fc
 obtain⟨y2,hy2,Lx,last,y,rfl,fy⟩:=aSx hc
 have T0:=(TI.new hc).emit Lx last
 have k144:=kx hy2 (cU fc) (.eG _ (lM T0.td.flat fy (.v _)))
 have k16:=Nt l hl 16 (by omega) (by omega)
 have k17:=Nt l hl 17 (by omega) (by omega)
 have n0:=(Hf l hl 16 (by omega) (by omega)).2.1
 obtain⟨n1,n2⟩:=cK (n:=25) n0 (by omega)
 obtain⟨N,hN⟩:∃N,(Kd l 16).tmod 25=N:=⟨_,rfl⟩
 rw[hN] at n1 n2;rw[cG Tryz.func75 rfl aSy (by kernel_rfl) rfl]
 have body:∀(M:Int),0≤M→M≤24→∀st:St,(st.env 0=.sl l.length (aK l)∧st.env 2=.ptr 2 0 0∧st.heap 2 0=some (.cells (bW mQ))∧st.env 4=.ptr 4 0 0∧st.heap 4 0=some (.cells (aQ lZ))∧st.env 5=.ptr 5 0 0∧st.heap 5 0=some (.cells (bW c))∧st.env 6=.ptr 6 0 0∧st.heap 6 0=some (.cells (aQ { Y0 c b with Lx:=Lx,last:=last }))∧st.env 9=.v (.slice none 0 0)∧st.env 10=.v (.int .i64 M)∧st.env 11=.v (.int .i64 0))→∃e st',wX Tryz.prog true (kU (Tryz.f75.body.getD .skip)) st=some (e,st')∧(e=.exit 0∧∃(t:State) (v:SV) (Q R:Option (List Request)),(st'.env 2=.ptr 2 0 0∧st'.heap 2 0=some (.cells (bW mQ))∧st'.env 4=.ptr 4 0 0∧st'.heap 4 0=some (.cells (aQ lZ))∧st'.env 5=.ptr 5 0 0∧st'.heap 5 0=some (.cells (bW c))∧st'.env 6=.ptr 6 0 0∧st'.heap 6 0=some (.cells (aQ t)))∧(st'.env 9=.v (.slice none 0 0)∨∃(L:List xM) (g:Nat),st'.env 9=.own 48 g∧st'.heap 48 g=some (.row 190 446 L.length (Mg L))∧∀y∈L,pK y)∧TI t v Q R 24000 6144):=by
  intro M hM0 hM1 st hs;suffices key:∃r,cT (wX Tryz.prog true (kU (Tryz.f75.body.getD .skip)) st) some=some r∧(r.1=.exit 0∧∃(t:State) (v:SV) (Q R:Option (List Request)),(r.2.env 2=.ptr 2 0 0∧r.2.heap 2 0=some (.cells (bW mQ))∧r.2.env 4=.ptr 4 0 0∧r.2.heap 4 0=some (.cells (aQ lZ))∧r.2.env 5=.ptr 5 0 0∧r.2.heap 5 0=some (.cells (bW c))∧r.2.env 6=.ptr 6 0 0∧r.2.heap 6 0=some (.cells (aQ t)))∧(r.2.env 9=.v (.slice none 0 0)∨∃(L:List xM) (g:Nat),r.2.env 9=.own 48 g∧r.2.heap 48 g=some (.row 190 446 L.length (Mg L))∧∀y∈L,pK y)∧TI t v Q R 24000 6144) by
   obtain⟨r,h,hq⟩:=key
   cases hx:wX Tryz.prog true (kU (Tryz.f75.body.getD .skip)) st with
   | none=>rw[hx] at h;cases h
   | some y=>rw[hx] at h;simp only[cO,Option.some.injEq] at h;subst h;exact⟨y.1,y.2,rfl,hq⟩
  simp only[Tryz.f75,Option.getD_some,kU];refine jH (fun m st=>∃(k:Nat) (t:State) (v:SV) (Q R:Option (List Request)),(st.env 0=.sl l.length (aK l)∧st.env 2=.ptr 2 0 0∧st.heap 2 0=some (.cells (bW mQ))∧st.env 4=.ptr 4 0 0∧st.heap 4 0=some (.cells (aQ lZ))∧st.env 5=.ptr 5 0 0∧st.heap 5 0=some (.cells (bW c))∧st.env 6=.ptr 6 0 0∧st.heap 6 0=some (.cells (aQ t))∧st.env 10=.v (.int .i64 M)∧st.env 11=.v (.int .i64 k))∧(st.env 9=.v (.slice none 0 0)∨∃(L:List xM) (g:Nat),(st.env 9=.own 48 g∧st.heap 48 g=some (.row 190 446 L.length (Mg L)))∧g<st.aT 48∧(∀y∈L,pK y)∧L.length≤k)∧TI t v Q R (1000 * k) (256 * k)∧(k:Int)≤M∧m=(M-k).toNat)
   (fun e st=>e=.exit 0∧∃(t:State) (v:SV) (Q R:Option (List Request)),(st.env 2=.ptr 2 0 0∧st.heap 2 0=some (.cells (bW mQ))∧st.env 4=.ptr 4 0 0∧st.heap 4 0=some (.cells (aQ lZ))∧st.env 5=.ptr 5 0 0∧st.heap 5 0=some (.cells (bW c))∧st.env 6=.ptr 6 0 0∧st.heap 6 0=some (.cells (aQ t)))∧(st.env 9=.v (.slice none 0 0)∨∃(L:List xM) (g:Nat),st.env 9=.own 48 g∧st.heap 48 g=some (.row 190 446 L.length (Mg L))∧∀y∈L,pK y)∧TI t v Q R 24000 6144) M.toNat ?step ?start ?rest
  case start=>exact⟨0,_,_,_,_,⟨hs.1,hs.2.1,hs.2.2.1,hs.2.2.2.1,hs.2.2.2.2.1,hs.2.2.2.2.2.1,hs.2.2.2.2.2.2.1,hs.2.2.2.2.2.2.2.1,hs.2.2.2.2.2.2.2.2.1,hs.2.2.2.2.2.2.2.2.2.2.1,hs.2.2.2.2.2.2.2.2.2.2.2⟩,.inl hs.2.2.2.2.2.2.2.2.2.1,T0,by omega,by omega⟩
  case rest=>exact fun e st h=>⟨_,rfl,h⟩
  case step =>
   clear hs
   rintro m st ⟨k,t,v,Q,R,hI,hX,T,hk,hm⟩
   by_cases aY:(k:Int)<M
   case neg =>
    have hX':st.env 9=.v (.slice none 0 0)∨∃(L:List xM) (g:Nat),st.env 9=.own 48 g∧st.heap 48 g=some (.row 190 446 L.length (Mg L))∧∀y∈L,pK y:=hX.imp id fun ⟨L,g,h1,_,h3,_⟩=>⟨L,g,h1.1,h1.2,h3⟩
    apply BZ (.exit 0)
    ·simp only[ZG,seval,Bool.false_and,Prod.mk.injEq,Yu,hI,aY];rfl
    ·exact⟨rfl,t,v,Q,R,by simp only[E8,seval,hI],by simpa only[E8,seval] using hX',T.mono (by omega) (by omega) (by omega) (by omega)⟩
   have hw:IntKind.i64.wrap ((k:Int)+1)=((k+1:Nat):Int):=by rw[mT _ (by omega) (by omega)];omega
   obtain⟨j,hj⟩:∃j:Int,j=18+(k:Int):=⟨_,rfl⟩
   have hwj:IntKind.i64.wrap (18+(k:Int))=j:=by rw[mT _ (by omega) (by omega),hj]
   obtain⟨n,hn⟩:∃n:Int,n=10+(k:Int):=⟨_,rfl⟩
   have hwn:IntKind.i64.wrap (10+(k:Int))=n:=by rw[mT _ (by omega) (by omega),hn]
   have kj:=Nt l hl j (by omega) (by omega)
   have j0:=(Hf l hl j (by omega) (by omega)).2.1
   have op:∀z:Int,0≤z→∃(y:xM) (t':State) (w:AV) (e:Int) (v':SV) (Q' R':Option (List Request)),(∀(st:St) (d:Option Nat),aM (aB Tryz.prog) 146 [.agg (aQ t),.v (.int .i64 n),.v (.int .i64 z)] st d=some { dst:=d,val:=.agg (lA y)})∧(∀(st:St) (d:Option Nat),aM (aB Tryz.prog) 147 [.agg (aQ t),.agg (lA y)] st d=some { dst:=d,val:=.eG [.agg (aQ t'),w,.v (.int .i64 e)]})∧pK y∧TI t' v' Q' R' (1000 * ((k+1:Nat):Int)) (256 * ((k+1:Nat):Int)):=by
    intro z hz;obtain⟨y3,hy3,o,rfl,ho,hr⟩:=aSf T.td T.gi T.rg T.iP (fun r hr=>by obtain⟨h1,h2,_⟩:=T.tq.all r hr;have:=T.nt;exact⟨by omega,by omega⟩) n z hz
    have hp:o.kind=2→Pr o.block.root:=fun h2=>by
     rcases hr h2 with h|⟨a,ha,h⟩
     ·rw[h];exact aFV (by omega) (by omega)
     ·rw[h];exact T.rg.rt a ha
    obtain⟨y4,hy4,t',w,e,v',Q',R',rfl,fw,T'⟩:=aSw T o ho hp (by omega) (by omega)
    exact⟨o,t',w,e,v',Q',R',kx hy3 (lM T.td.flat (.v _) (.v _)) ho.flat,kx hy4 (bE T.td.flat ho.flat) (.eG _ (lM T'.td.flat fw (.v _))),ho,T'.mono (by omega) (by omega) (by omega) (by omega)⟩
   by_cases k0:(k:Int)=0
   ·obtain⟨o,t',w,e,v',Q',R',Y3,Y4,ho,T'⟩:=op 0 (by omega)
    rcases hX with hX|⟨L,g,hX,hg,hL,hLk⟩
    ·apply Au ((M-((k+1:Nat):Int)).toNat)
     ·simp only[ZG,seval,Bool.false_and,Prod.mk.injEq,Yu,hI,hX,aY,hwj,kj,bt k0,hwn,Y3,Y1,Y4,dE,hw];rfl
     ·exact⟨k+1,t',v',Q',R',by simp only[E8,seval,hI],.inr ⟨[o],_,⟨by simp only[E8,seval]<;>rfl,by simp only[E8,seval]<;>rfl⟩,by simp only[E8,seval]<;>omega,(fun y hy=>by rw[List.mem_singleton] at hy;rw[hy];exact ho),by simp⟩,T',by omega,rfl⟩
    ·have nL:(L.length:Int)<1000000:=by omega
     have vC:(g=st.aT 48)=False:=eq_false (by omega)
     apply Au ((M-((k+1:Nat):Int)).toNat)
     ·simp only[ZG,seval,Bool.false_and,Prod.mk.injEq,Yu,hI,hX,vC,aY,hwj,kj,bt k0,hwn,Y3,Y2 _ _ _ _ nL,Y4,dE,hw];rfl
     ·exact⟨k+1,t',v',Q',R',by simp only[E8,seval,hI],.inr ⟨L++[o],_,⟨by simp only[E8,seval]<;>rfl,by simp only[E8,seval]<;>rfl⟩,by simp only[E8,seval]<;>omega,(fun y hy=>(List.mem_append.1 hy).elim (hL y) fun h=>by rw[List.mem_singleton] at h;rw[h];exact ho),by rw[List.length_append,List.length_cons,List.length_nil];omega⟩,T',by omega,rfl⟩
   ·obtain⟨o,t',w,e,v',Q',R',Y3,Y4,ho,T'⟩:=op (Kd l j) j0
    rcases hX with hX|⟨L,g,hX,hg,hL,hLk⟩
    ·apply Au ((M-((k+1:Nat):Int)).toNat)
     ·simp only[ZG,seval,Bool.false_and,Prod.mk.injEq,Yu,hI,hX,aY,hwj,kj,bf k0,hwn,Y3,Y1,Y4,dE,hw];rfl
     ·exact⟨k+1,t',v',Q',R',by simp only[E8,seval,hI],.inr ⟨[o],_,⟨by simp only[E8,seval]<;>rfl,by simp only[E8,seval]<;>rfl⟩,by simp only[E8,seval]<;>omega,(fun y hy=>by rw[List.mem_singleton] at hy;rw[hy];exact ho),by simp⟩,T',by omega,rfl⟩
    ·have nL:(L.length:Int)<1000000:=by omega
     have vC:(g=st.aT 48)=False:=eq_false (by omega)
     apply Au ((M-((k+1:Nat):Int)).toNat)
     ·simp only[ZG,seval,Bool.false_and,Prod.mk.injEq,Yu,hI,hX,vC,aY,hwj,kj,bf k0,hwn,Y3,Y2 _ _ _ _ nL,Y4,dE,hw];rfl
     ·exact⟨k+1,t',v',Q',R',by simp only[E8,seval,hI],.inr ⟨L++[o],_,⟨by simp only[E8,seval]<;>rfl,by simp only[E8,seval]<;>rfl⟩,by simp only[E8,seval]<;>omega,(fun y hy=>(List.mem_append.1 hy).elim (hL y) fun h=>by rw[List.mem_singleton] at h;rw[h];exact ho),by rw[List.length_append,List.length_cons,List.length_nil];omega⟩,T',by omega,rfl⟩
 by_cases g1:0<(Kd l 17).tmod 4
 ·simp only[ZG,seval,Bool.false_and,Prod.mk.injEq,Yu,aDg,k144,dE,k16,hN,k17,g1];refine Jt (a:=kU (Tryz.f75.body.getD .skip)) (fun e st'=>e=.exit 0∧∃(t:State) (v:SV) (Q R:Option (List Request)),(st'.env 2=.ptr 2 0 0∧st'.heap 2 0=some (.cells (bW mQ))∧st'.env 4=.ptr 4 0 0∧st'.heap 4 0=some (.cells (aQ lZ))∧st'.env 5=.ptr 5 0 0∧st'.heap 5 0=some (.cells (bW c))∧st'.env 6=.ptr 6 0 0∧st'.heap 6 0=some (.cells (aQ t)))∧(st'.env 9=.v (.slice none 0 0)∨∃(L:List xM) (g:Nat),st'.env 9=.own 48 g∧st'.heap 48 g=some (.row 190 446 L.length (Mg L))∧∀y∈L,pK y)∧TI t v Q R 24000 6144) (body 24 (by omega) (by omega) _ (by simp only[E8,seval]<;>rfl)) ?rest
  rintro e st ⟨rfl,t,v,Q,R,hI,hX|⟨L,g,hX,hh,hL⟩,T⟩
  ·have ft:=T.td.flat
   simp only[ZG,seval,Bool.false_and,Prod.mk.injEq,Yu,hI,hX];exact⟨_,fM rfl (by simp only[bY,Z8,seval,hI]<;>rfl) (by simp only[bY,Z8,seval,hX]<;>rfl) (by simp only[bY,Z8,seval,hI]<;>rfl) (eC fc) (eC (.v _)) (eC ft),c,_,t,v,Q,R,rfl,fc,.v _,T⟩
  ·have ft:=T.td.flat
   have ex:=aFW L.length L hL
   simp only[ZG,seval,Bool.false_and,Prod.mk.injEq,Yu,hI,hX,hh];exact⟨_,fM rfl (by simp only[bY,Z8,seval,hI]<;>rfl) (by simp only[bY,Z8,seval,hX]<;>rfl) (by simp only[bY,Z8,seval,hI]<;>rfl) (eC fc) (by simp only[Z8,seval,hh,ex]<;>rfl) (eC ft),c,_,t,v,Q,R,rfl,fc,.sl _ _ (Rx L hL),T⟩
 ·simp only[ZG,seval,Bool.false_and,Prod.mk.injEq,Yu,aDg,k144,dE,k16,hN,k17,g1];refine Jt (a:=kU (Tryz.f75.body.getD .skip)) (fun e st'=>e=.exit 0∧∃(t:State) (v:SV) (Q R:Option (List Request)),(st'.env 2=.ptr 2 0 0∧st'.heap 2 0=some (.cells (bW mQ))∧st'.env 4=.ptr 4 0 0∧st'.heap 4 0=some (.cells (aQ lZ))∧st'.env 5=.ptr 5 0 0∧st'.heap 5 0=some (.cells (bW c))∧st'.env 6=.ptr 6 0 0∧st'.heap 6 0=some (.cells (aQ t)))∧(st'.env 9=.v (.slice none 0 0)∨∃(L:List xM) (g:Nat),st'.env 9=.own 48 g∧st'.heap 48 g=some (.row 190 446 L.length (Mg L))∧∀y∈L,pK y)∧TI t v Q R 24000 6144) (body N (by omega) (by omega) _ (by simp only[E8,seval]<;>rfl)) ?Yi
  rintro e st ⟨rfl,t,v,Q,R,hI,hX|⟨L,g,hX,hh,hL⟩,T⟩
  ·have ft:=T.td.flat
   simp only[ZG,seval,Bool.false_and,Prod.mk.injEq,Yu,hI,hX];exact⟨_,fM rfl (by simp only[bY,Z8,seval,hI]<;>rfl) (by simp only[bY,Z8,seval,hX]<;>rfl) (by simp only[bY,Z8,seval,hI]<;>rfl) (eC fc) (eC (.v _)) (eC ft),c,_,t,v,Q,R,rfl,fc,.v _,T⟩
  ·have ft:=T.td.flat
   have ex:=aFW L.length L hL
   simp only[ZG,seval,Bool.false_and,Prod.mk.injEq,Yu,hI,hX,hh];exact⟨_,fM rfl (by simp only[bY,Z8,seval,hI]<;>rfl) (by simp only[bY,Z8,seval,hX]<;>rfl) (by simp only[bY,Z8,seval,hI]<;>rfl) (eC fc) (by simp only[Z8,seval,hh,ex]<;>rfl) (eC ft),c,_,t,v,Q,R,rfl,fc,.sl _ _ (Rx L hL),T⟩
theorem x24 (l:List Int) (hl:(l.length:Int)≤9223372036854775807):∃(t:State) (v:SV) (Q R:Option (List Request)),aB Tryz.prog 24 [.sl l.length (aK l)]=some (.agg (aQ t))∧TI t v Q R 24000 6144:=by
 suffices h:∃r,aB Tryz.prog 24 [.sl l.length (aK l)]=some r∧∃(t:State) (v:SV) (Q R:Option (List Request)),r=.agg (aQ t)∧TI t v Q R 24000 6144 by
  obtain⟨r,h,t,v,Q,R,rfl,T⟩:=h
  exact⟨t,v,Q,R,h,T⟩
 obtain⟨y,hy,c,X,t,v,Q,R,rfl,fc,fX,T⟩:=x75 l hl
 have ft:=T.td.flat
 have k75:=kx hy (cU (Eo l)) (.eG _ (lM fc fX ft))
 rw[cL Tryz.func24 rfl aSz rfl];simp only[Z8,seval,k75,dE];exact⟨_,fJ rfl (by simp only[E8,seval,ft]<;>rfl) (by simp only[Z8,seval,ft]<;>rfl) (by simp only[dU,and_self,ft]),t,v,Q,R,rfl,T⟩
theorem aSA {s:aL} (h:1≤s.cFg.jL∧s.cFg.jL≤64) (hf:Flat (.agg (aA s))) (b:Block):aB Tryz.prog 135 [.agg (aA s),.agg (aP b)]=some (.v (.bool (decide (HG s b)))):=by
 rw[cL Tryz.func135 rfl aNa rfl];have h94:=k94 h b.slot
 unfold HG;by_cases h1:b.fin.aE≤b.gD.aE
 ·by_cases h2:b.gD.aE≤b.cV.pj.aE
  ·by_cases h3:b.fin.aE≤b.cV.pf.aE
   ·by_cases h4:b.cV.pf.aE≤b.cV.pj.aE
    ·by_cases h5:b.cV.pj.aE≤wH s b.slot
     ·simp only[*,true_and,false_and,and_true,and_false,decide_true,decide_false];simp only[Z8,seval,dE, *];exact bQ rfl (by simp only[E8,seval, *]<;>rfl) (.v _)
     ·simp only[*,true_and,false_and,and_true,and_false,decide_true,decide_false];simp only[Z8,seval,dE, *];exact bQ rfl (by simp only[E8,seval, *]<;>rfl) (.v _)
    ·simp only[*,true_and,false_and,and_true,and_false,decide_true,decide_false];simp only[Z8,seval,dE, *];exact bQ rfl (by simp only[E8,seval, *]<;>rfl) (.v _)
   ·simp only[*,true_and,false_and,and_true,and_false,decide_true,decide_false];simp only[Z8,seval,dE, *];exact bQ rfl (by simp only[E8,seval, *]<;>rfl) (.v _)
  ·simp only[*,true_and,false_and,and_true,and_false,decide_true,decide_false];simp only[Z8,seval,dE, *];exact bQ rfl (by simp only[E8,seval, *]<;>rfl) (.v _)
 ·simp only[*,true_and,false_and,and_true,and_false,decide_true,decide_false];simp only[Z8,seval,dE, *];exact bQ rfl (by simp only[E8,seval, *]<;>rfl) (.v _)
theorem aNb {s:aL} (h:1≤s.cFg.jL∧s.cFg.jL≤64) (hf:Flat (.agg (aA s))) (b:Block) (st:St) (d:Option Nat):aM (aB Tryz.prog) 135 [.agg (aA s),.agg (aP b)] st d=some { dst:=d,val:=.v (.bool (decide (HG s b)))}:=bC (bE hf (qL _)) (aSA h hf b) (.v _)
theorem VS {s:aL} (h:1≤s.cFg.jL∧s.cFg.jL≤64) {e x:Int} (e0:0≤e) (he:e≤wH s x) (hx:Rg x):sH s e=(e * s.cFg.jL,0)∧e * s.cFg.jL≤x:=by
 have h1:wH s x=x / s.cFg.jL:=by
  unfold wH;rw[Int.tdiv_eq_ediv_of_nonneg hx.1];have:=Int.ediv_le_self s.cFg.jL hx.1
  have:=hx.2
  exact CM _ (Int.ediv_nonneg hx.1 (by omega)) (by omega)
 rw[h1] at he;have hm:e * s.cFg.jL≤x:=(Int.le_ediv_iff_mul_le (by omega)).1 he
 have h0:0≤e * s.cFg.jL:=Int.mul_nonneg e0 (by omega)
 have hb:=hx.2
 refine⟨?_,hm⟩
 unfold sH Nu CF;rw[if_pos h];have ht:Int.tdiv 18446744073709551615 s.cFg.jL=18446744073709551615 / s.cFg.jL:=Int.tdiv_eq_ediv_of_nonneg (by omega)
 have hq:=Int.ediv_le_self s.cFg.jL (show (0:Int)≤18446744073709551615 by omega)
 have hq0:=Int.ediv_nonneg (show (0:Int)≤18446744073709551615 by omega) (show 0≤s.cFg.jL by omega)
 rw[ht,CM _ hq0 (by omega),if_neg (fun k=>by have:=(Int.ediv_lt_iff_lt_mul (by omega)).1 k.2;omega),CM _ h0 (by omega)]
def G8 (s:aL) (v:SV) (b:Block) (c:dP):Prop:=if (sH s c.aE).1<b.slot then 0≤Fz v.ns (aN v.ns b.parent) (sH s c.aE).1∧(nd v.ns (Fz v.ns (aN v.ns b.parent) (sH s c.aE).1)).block.root=c.root else b.root=c.root
theorem aSB {s:aL} {v:SV} {q:Int} (h:GI s v q) (b:Block) (c:dP) (c0:Rg c.aE) (c1:(sH s c.aE).2=0):aB Tryz.prog 136 [.agg (aA s),.agg (aP b),.v (.int .i64 (aN v.ns b.parent)),.agg (aW c)]=some (.v (.bool (decide (G8 s v b c)))):=by
 have hs:=h.sd
 have Ry:∀(st:St) (d:Option Nat),aM (aB Tryz.prog) 95 [.v (.int .u64 c.aE),.v (.int .u64 s.cFg.jL)] st d=some { dst:=d,val:=.eG [.v (.int .u64 (sH s c.aE).1),.v (.int .i64 0)]}:=fun st d=>by rw[← c1];exact k95 c0 st d
 have ra:=Rh h.up (aN v.ns b.parent) (sH s c.aE).1
 rw[cL Tryz.func136 rfl aNc rfl];refine gX ?_
 by_cases g1:(sH s c.aE).1<b.slot
 case neg =>
  have g1':b.slot≤(sH s c.aE).1:=by omega
  by_cases g2:c.root=b.root
  ·simp only[Z8,seval,Ry,dE,g1',g2,decide_true];exact⟨_,bQ rfl (by simp only[E8,seval,g2]<;>rfl) (by first|exact .v _|simp only[dU,g2]),by rw[decide_eq_true (show G8 s v b c by unfold G8;rw[if_neg g1];exact g2.symm)]⟩
  ·simp only[Z8,seval,Ry,dE,g1',g2,decide_false];exact⟨_,bQ rfl (by simp only[E8,seval,g2]<;>rfl) (by first|exact .v _|simp only[dU,g2]),by rw[decide_eq_false (show ¬G8 s v b c by unfold G8;rw[if_neg g1];exact fun e=>g2 e.symm)]⟩
 have g1':¬b.slot≤(sH s c.aE).1:=by omega
 by_cases g3:0≤Fz v.ns (aN v.ns b.parent) (sH s c.aE).1
 case neg =>
  simp only[Z8,seval,Ry,dE,g1',hs.tree,k96 _ h.up h.Xi,g3];exact⟨_,bQ rfl (by simp only[E8,seval]<;>rfl) (by first|exact .v _|simp only[dU]),by rw[decide_eq_false (show ¬G8 s v b c by unfold G8;rw[if_pos g1];exact fun e=>g3 e.1)]⟩
 by_cases g4:(nd v.ns (Fz v.ns (aN v.ns b.parent) (sH s c.aE).1)).block.root=c.root
 ·simp only[Z8,seval,Ry,dE,g1',hs.tree,k96 _ h.up h.Xi,g3,ra,g4,decide_true];exact⟨_,bQ rfl (by simp only[E8,seval]<;>rfl) (by first|exact .v _|simp only[dU]),by rw[decide_eq_true (show G8 s v b c by unfold G8;rw[if_pos g1];exact⟨g3,g4⟩)]⟩
 ·simp only[Z8,seval,Ry,dE,g1',hs.tree,k96 _ h.up h.Xi,g3,ra,g4,decide_false];exact⟨_,bQ rfl (by simp only[E8,seval]<;>rfl) (by first|exact .v _|simp only[dU]),by rw[decide_eq_false (show ¬G8 s v b c by unfold G8;rw[if_pos g1];exact fun e=>g4 e.2)]⟩
theorem c68 {s:aL} {v:SV} {q:Int} (h:GI s v q) (r:RG s v) (b:Block) (hb:Rg b.slot):aB Tryz.prog 68 [.agg (aA s),.agg (aP b)]=some (.v (.bool (decide (Lt s v b)))):=by
 have hs:=h.sd
 have hf:=hs.flat
 rw[cL Tryz.func68 rfl aSC rfl];refine gX ?_
 have r1:=eQ v.ns b.parent
 by_cases g1:aN v.ns b.parent<0
 ·have hv:decide (Lt s v b)=false:=decide_eq_false (fun h=>by have:=h.1;omega)
  simp only[Z8,seval,hs.tree,O3 _ _ hs.nn,g1];exact⟨_,bQ rfl (by simp only[E8,seval]<;>rfl) (by first|exact .v _|simp only[dU]),by rw[hv]⟩
 by_cases g2:HG s b
 case neg =>
  have hv:decide (Lt s v b)=false:=decide_eq_false (fun h=>g2 h.2.1)
  simp only[Z8,seval,hs.tree,O3 _ _ hs.nn,g1,aNb h.jL hf,g2,decide_false];exact⟨_,bQ rfl (by simp only[E8,seval]<;>rfl) (by first|exact .v _|simp only[dU]),by rw[hv]⟩
 have k136:∀c∈sK b,s.aU.fin.aE<c.aE→∀(st:St) (d:Option Nat),aM (aB Tryz.prog) 136 [.agg (aA s),.agg (aP b),.v (.int .i64 (aN v.ns b.parent)),.agg (aW c)] st d=some { dst:=d,val:=.v (.bool (decide (G8 s v b c)))}:=by
  intro c hc aY;have h0:0≤c.aE:=by have:=r.f.1;omega
  have hle:c.aE≤wH s b.slot:=by
   obtain⟨o1,o2,o3,o4,o5⟩:=g2
   simp only[sK,List.mem_cons,List.not_mem_nil,or_false] at hc;rcases hc with rfl|rfl|rfl|rfl<;>omega
  have hsof:=VS h.jL h0 hle hb
  have hrg:Rg c.aE:=⟨h0,by have:wH s b.slot<18446744073709551616:=(hU _).2;omega⟩
  exact kx (aSB h b c hrg (by rw[hsof.1])) (by simp only[List.mem_cons,List.not_mem_nil,or_false,forall_eq_or_imp,forall_eq];exact⟨hf,qL b,.v _,.agg _ (bM c)⟩) (.v _)
 simp only[Z8,seval,hs.tree,O3 _ _ hs.nn,g1,aNb h.jL hf,g2,decide_true,S5,aFr];have h4:(sK b).length=4:=rfl
 refine cC (fun m st=>∃k:Nat,(st.env 2=.ptr 2 0 0∧st.heap 2 0=some (.cells (aA s))∧st.env 3=.ptr 3 0 0∧st.heap 3 0=some (.cells (aP b))∧st.env 5=.v (.int .i64 (aN v.ns b.parent))∧st.env 31=.own 31 0∧st.heap 31 0=some (.row 41 33 (sK b).length (nP (sK b)))∧st.env 32=.v (.int .i64 (sK b).length)∧st.env 33=.v (.int .i64 k))∧(∀j:Nat,j<k→Xz s v b (gx fV (sK b) j))∧k≤4∧m=4-k)
  (fun e st=>(e=.ret∧st.env 4=.v (.bool false)∧∃j:Nat,j<4∧¬Xz s v b (gx fV (sK b) j))∨(e=.exit 0∧∀j:Nat,j<4→Xz s v b (gx fV (sK b) j))) 4 ?step ?start ?rest
 case step =>
  rintro m st ⟨k,hI,hj,hk,hm⟩
  by_cases Dc:k<4
  ·have aY:(k:Int)<(sK b).length:=by rw[h4];omega
   have q0:(0:Int)≤k:=by omega
   have hw:IntKind.i64.wrap ((k:Int)+1)=((k+1:Nat):Int):=by rw[mT _ (by omega) (by omega)];omega
   obtain⟨c,hc⟩:∃c,gx fV (sK b) k=c:=⟨_,rfl⟩
   have VT:c∈sK b:=by rw[← hc];exact oO q0 aY
   have ld0:∀T kk,sL Tryz.prog T=some kk→0<kk→kk≤33→rE Tryz.prog T (some (.row 41 33 (sK b).length (nP (sK b)))) ((k:Int).toNat * 33)=fB Tryz.prog T (aW c) 0:=fun T kk h1 h2 h3=>by rw[HL q0 aY h1 h2 h3,hc]
   have nxt:Xz s v b c→∀j:Nat,j<k+1→Xz s v b (gx fV (sK b) j):=fun h j O6=>(Nat.lt_succ_iff_lt_or_eq.1 O6).elim (hj j) fun e=>by subst e;rw[hc];exact h
   have TJ:=ld0 41 33 aNd (by decide) (by decide)
   by_cases h1:s.aU.fin.aE<c.aE
   case neg =>
    apply oN (4-(k+1))
    ·simp only[Z8,seval,hI,aY,q0,TJ,h1,hw];rfl
    ·exact⟨k+1,by simp only[E8,seval,hI],nxt (.inl (by omega)),by omega,rfl⟩
   have k136':=k136 c VT h1
   by_cases h2:G8 s v b c
   ·apply oN (4-(k+1))
    ·simp only[Z8,seval,hI,aY,q0,TJ,h1,k136',h2,decide_true,hw];rfl
    ·exact⟨k+1,by simp only[E8,seval,hI],nxt (.inr h2),by omega,rfl⟩
   ·apply oT (.ret)
    ·simp only[Z8,seval,hI,aY,q0,TJ,h1,k136',h2,decide_false];rfl
    ·exact .inl ⟨rfl,by simp only[E8,seval],k,Dc,by rw[hc];exact fun h=>h.elim (fun h=>by omega) h2⟩
  ·have aY:¬((k:Int)<(sK b).length):=by rw[h4];omega
   apply oT (.exit 0)
   ·simp only[Z8,seval,hI,aY];rfl
   ·exact .inr ⟨rfl,fun j h=>hj j (by omega)⟩
 case start=>exact⟨0,by simp only[E8,seval]<;>exact⟨rfl,rfl⟩,fun j h=>by omega,by omega,by omega⟩
 case rest =>
  rintro e st (⟨rfl,h,j,hj,hn⟩|⟨rfl,h⟩)
  ·have hv:decide (Lt s v b)=false:=decide_eq_false (fun h=>hn (h.2.2 j hj))
   simp only[Z8,seval];exact⟨_,bQ rfl (by simp only[E8,seval,h]<;>rfl) (by first|exact .v _|simp only[dU,h]),by rw[hv]⟩
  ·have hv:decide (Lt s v b)=true:=decide_eq_true ⟨by omega,g2,h⟩
   simp only[Z8,seval];exact⟨_,bQ rfl (by simp only[E8,seval]<;>rfl) (by first|exact .v _|simp only[dU]),by rw[hv]⟩
theorem k68 {s:aL} {v:SV} {q:Int} (h:GI s v q) (r:RG s v) (b:Block) (hb:Rg b.slot) (st:St) (d:Option Nat):aM (aB Tryz.prog) 68 [.agg (aA s),.agg (aP b)] st d=some { dst:=d,val:=.v (.bool (decide (Lt s v b)))}:=bC (bE h.sd.flat (qL b)) (c68 h r b hb) (.v _)
theorem GA (n:Node) (r:cN):aN [n] r=if n.block.root=r then 0 else -1:=by
 unfold aN;by_cases h:n.block.root=r<;>simp[List.findIdx?_cons,h]
theorem aNe {a b:Int} (a0:0≤a) (a1:a<256) (b0:0≤b) (b1:b<256) (h:a≠b):mkRoot a≠mkRoot b:=fun e=>by
 have e1:IntKind.u8.wrap a=IntKind.u8.wrap b:=by rw[← xC,← xC,e]
 rw[Hx a0 a1,Hx b0 b1] at e1;exact h e1
theorem GI.now {s:aL} {v:SV} {q:Int} (h:GI s v q) (n:Int):GI { s with now:=n } v q :=
 ⟨⟨h.sd.iP,h.sd.eB,h.sd.gW,h.sd.early,h.sd.bN,h.sd.tree,h.sd.tables,h.sd.eV,h.sd.tB,h.sd.nB,h.sd.nL,h.sd.nQ,h.sd.nE,h.sd.nO,h.sd.nT,h.sd.nn⟩,h.up,h.Xi,h.pos,h.nl,h.UY,h.jL,h.NF,h.nB,h.nO,h.NG,h.nE,h.TL,h.nT,h.TM,h.nQ,h.S7,h.gD⟩
theorem RG.X8 {s:aL} {v:SV} (r:RG s v) (hs:1≤s.cFg.jL) {n:Int} (h0:s.now≤n) (h1:n≤1099511627776):RG { s with now:=n } v :=
 ⟨⟨by have:=r.now.1;show 0≤n;omega,h1⟩,r.j,r.f,fun a ha=>⟨(r.nd a ha).1,by have:=(r.nd a ha).2;show a.block.slot≤n;omega⟩,r.or,r.rt,⟨r.fe.1,Int.le_trans r.fe.2 (show wH s s.now≤wH s n from OB hs r.now.1 h0 (by omega))⟩,r.ds,r.tb,r.ne⟩
theorem OM {c:Config} {b:List Int} (h:Ht c b):aN (Av c b).ns c.cX=0∧aN (Av c b).ns (mkRoot 9)=-1:=by
 have e:(Av c b).ns=[⟨NO c,-1,1⟩]:=rfl
 rw[e,GA,GA,if_pos (show (NO c).root=c.cX from rfl),if_neg (show ¬(NO c).root=mkRoot 9 by show ¬c.cX=mkRoot 9;rw[h.gen];exact aNe (by omega) (by omega) (by omega) (by omega) (by omega))]
 exact⟨rfl,rfl⟩
end Go.Ab.Tryz
namespace Go.Ab.Tryz
open Classical Go.Proofs Go.Ab
end Go.Ab.Tryz
namespace Go.Ab.Tryz
open Classical Go.Proofs Go.Ab
theorem aNf {x:Block} (h:∀k n,AV.v (.int k n)∈aP x→k.has n):RB x:=by
 have u:∀n:Int,IntKind.u64.has n→Rg n:=fun n hn=>by
  simp only[IntKind.has,IntKind.min,IntKind.max,IntKind.signed,IntKind.bits] at hn;simp at hn
  exact⟨by omega,by omega⟩
 have m:∀n:Int,AV.v (.int .u64 n)∈aP x→Rg n:=fun n hn=>u n (h _ _ hn)
 refine⟨m _ ?_,m _ ?_,m _ ?_,m _ ?_,m _ ?_⟩<;>simp[aP,dM,aW,lG]
def uo {α:Type} (e sz:Nat) (c:List α→List AV):Option (List α)→AV
 | none=>.v (.slice none 0 0)
 | some l=>.uniq e sz l.length (c l)
def rl {α:Type} (e sz:Nat) (c:List α→List AV):Option (List α)→List oB
 | none=>[]
 | some l=>[.row e sz l.length (c l)]
def rv {α:Type} (d k:Nat):Option (List α)→AV
 | none=>.v (.slice none 0 0)
 | some _=>.own d k
def TP (d:Nat) (es:List oB):Option (Nat × List oB):=if es=[] then none else some (d,es)
theorem Y5 (st:St) (d:Nat):st.news d []=st:=by
 unfold St.news;cases st with
 | mk env heap aT =>
   simp only[List.length_nil,Nat.not_lt_zero,and_false,if_false,Nat.add_zero,St.mk.injEq,true_and];funext s
   split
   ·rename_i h;rw[h]
   ·rfl
theorem G9 (x:Option Nat) (v:AV) (d:Nat) (es:List oB) (st:St):({ dst:=x,val:=v,new:=TP d es }:rX).apply st=(st.news d es).put x v:=by
 unfold TP;by_cases h:es=[]
 ·rw[if_pos h,h,Y5];rfl
 ·rw[if_neg h];rfl
theorem Y6 (st:St) (t d:Nat) (es:List oB):(st.news d es).env t=st.env t:=rfl
theorem Y7 (st:St) (t d:Nat) (es:List oB):(st.news d es).aT t=if t=d then st.aT d+es.length else st.aT t:=rfl
theorem yY (st:St) (s g d:Nat) (es:List oB):(st.news d es).heap s g=if s=d∧st.aT d≤g∧g-st.aT d<es.length then es[g-st.aT d]? else st.heap s g:=rfl
theorem Fe {α:Type} {call:Nat→List AV→Option AV} {g e sz d:Nat} {args:List AV} {c:List α→List AV} {L:Option (List α)} {st:St} (hf:∀x∈args,Flat x) (h:call g args=some (uo e sz c L)) :
 aM call g args st (some d)=some { dst:=some d,val:=rv d (st.aT d) L,new:=TP d (rl e sz c L)}:=by
 cases L with
 | none =>
   simp only[aM,if_pos hf,h,cO,uo,jC,if_pos (Flat.v _),rv,rl,TP];rfl
 | some l=>rw[jF hf h];simp only[rv,rl,TP,List.cons_ne_nil,if_false]
theorem rU {α:Type} {st:St} {d k e sz:Nat} {c:List α→List AV} {L:Option (List α)} (hh:∀l,L=some l→st.heap d k=some (.row e sz l.length (c l))) (hf:∀l,L=some l→∀x∈c l,Flat x):kM st (rv d k L)=some (uo e sz c L):=by
 cases L with
 | none=>exact if_pos (Flat.v _)
 | some l =>
   have hn:¬Flat (.own d k):=by intro h;cases h
   simp only[rv,uo,kM,if_neg hn,hh l rfl,if_pos (hf l rfl)]
theorem p9 {α:Type} {c:List α→List AV} {z:Nat} (hc:∀l,(c l).length=l.length * z) (hz:0<z) {l:List α} (h:l≠[]):c l≠[]:=by
 intro he;have h1:=hc l
 rw[he] at h1;have h2:0<l.length:=List.length_pos_iff.mpr h
 have:=Nat.mul_pos h2 hz
 simp only[List.length_nil] at h1;omega
theorem aSD (L:Option (List Int)) (h:L≠some []) (hn:((ol L).length:Int)<1000000):aB Tryz.prog 160 [ov bK L]=some (uo 23 1 bK L):=by
 cases L with
 | none =>
   unfold ov;rw[cL Tryz.func160 rfl aFX rfl];simp only[Z8,seval];exact bQ rfl (by simp only[E8,seval]<;>rfl) (.v _)
 | some l =>
   have hl:l≠[]:=fun h2=>h (by rw[h2])
   have gP:bK l≠[]:=p9 (z:=1) (fun l=>by simp[Rz]) (by omega) hl
   have ha:=fun s g=>Nz (e:=23) (sz:=1) (by_:=8) (s:=s) (g:=g) (n:=l.length) (cs:=bK l) (by simp[Rz]) (by simp only[ol,Option.getD_some] at hn;omega) (by simp only[ol,Option.getD_some] at hn;unfold maxLen;omega)
   unfold ov;rw[cL Tryz.func160 rfl aFX rfl];simp only[Z8,seval,gP,ha];exact tU rfl (by simp only[E8,seval];rfl) (by simp only[E8,seval]) (iH _)
theorem aNg (L:Option (List Int)) (h:L≠some []) (hn:((ol L).length:Int)<1000000) (st:St) (d:Nat):aM (aB Tryz.prog) 160 [ov bK L] st (some d)=some { dst:=some d,val:=rv d (st.aT d) L,new:=TP d (rl 23 1 bK L)}:=Fe (cU (dY L)) (aSD L h hn)
theorem aSE (L:Option (List kO)) (h:L≠some []) (hn:((ol L).length:Int)<1000000):aB Tryz.prog 190 [ov dD L]=some (uo 100 34 dD L):=by
 cases L with
 | none =>
   unfold ov;rw[cL Tryz.func190 rfl aFY rfl];simp only[Z8,seval];exact bQ rfl (by simp only[E8,seval]<;>rfl) (.v _)
 | some l =>
   have hl:l≠[]:=fun h2=>h (by rw[h2])
   have gP:dD l≠[]:=p9 (z:=34) (fun l=>by simp) (by omega) hl
   have ha:=fun s g=>Nz (e:=100) (sz:=34) (by_:=48) (s:=s) (g:=g) (n:=l.length) (cs:=dD l) (by simp) (by simp only[ol,Option.getD_some] at hn;omega) (by simp only[ol,Option.getD_some] at hn;unfold maxLen;omega)
   unfold ov;rw[cL Tryz.func190 rfl aFY rfl];simp only[Z8,seval,gP,ha];exact tU rfl (by simp only[E8,seval];rfl) (by simp only[E8,seval]) (nD _)
theorem aSF (L:Option (List kO)) (h:L≠some []) (hn:((ol L).length:Int)<1000000) (st:St) (d:Nat):aM (aB Tryz.prog) 190 [ov dD L] st (some d)=some { dst:=some d,val:=rv d (st.aT d) L,new:=TP d (rl 100 34 dD L)}:=Fe (cU (rC L)) (aSE L h hn)
theorem aSG (L:Option (List Int)) (h:L≠some []) (hn:((ol L).length:Int)<1000000):aB Tryz.prog 191 [ov aK L]=some (uo 3 1 aK L):=by
 cases L with
 | none =>
   unfold ov;rw[cL Tryz.func191 rfl aFZ rfl];simp only[Z8,seval];exact bQ rfl (by simp only[E8,seval]<;>rfl) (.v _)
 | some l =>
   have hl:l≠[]:=fun h2=>h (by rw[h2])
   have gP:aK l≠[]:=p9 (z:=1) (fun l=>by simp[Ju]) (by omega) hl
   have ha:=fun s g=>Nz (e:=3) (sz:=1) (by_:=8) (s:=s) (g:=g) (n:=l.length) (cs:=aK l) (by simp[Ju]) (by simp only[ol,Option.getD_some] at hn;omega) (by simp only[ol,Option.getD_some] at hn;unfold maxLen;omega)
   unfold ov;rw[cL Tryz.func191 rfl aFZ rfl];simp only[Z8,seval,gP,ha];exact tU rfl (by simp only[E8,seval];rfl) (by simp only[E8,seval]) (gI _)
theorem aNh (L:Option (List Int)) (h:L≠some []) (hn:((ol L).length:Int)<1000000) (st:St) (d:Nat):aM (aB Tryz.prog) 191 [ov aK L] st (some d)=some { dst:=some d,val:=rv d (st.aT d) L,new:=TP d (rl 3 1 aK L)}:=Fe (cU (bX L)) (aSG L h hn)
theorem aSH (L:Option (List Block)) (h:L≠some []) (hn:((ol L).length:Int)<1000000):aB Tryz.prog 164 [ov aG L]=some (uo 74 238 aG L):=by
 cases L with
 | none =>
   unfold ov;rw[cL Tryz.func164 rfl aF0 rfl];simp only[Z8,seval];exact bQ rfl (by simp only[E8,seval]<;>rfl) (.v _)
 | some l =>
   have hl:l≠[]:=fun h2=>h (by rw[h2])
   have gP:aG l≠[]:=p9 (z:=238) (fun l=>by simp) (by omega) hl
   have ha:=fun s g=>Nz (e:=74) (sz:=238) (by_:=336) (s:=s) (g:=g) (n:=l.length) (cs:=aG l) (by simp) (by simp only[ol,Option.getD_some] at hn;omega) (by simp only[ol,Option.getD_some] at hn;unfold maxLen;omega)
   unfold ov;rw[cL Tryz.func164 rfl aF0 rfl];simp only[Z8,seval,gP,ha];exact tU rfl (by simp only[E8,seval];rfl) (by simp only[E8,seval]) (lB _)
theorem aSI (L:Option (List Block)) (h:L≠some []) (hn:((ol L).length:Int)<1000000) (st:St) (d:Nat):aM (aB Tryz.prog) 164 [ov aG L] st (some d)=some { dst:=some d,val:=rv d (st.aT d) L,new:=TP d (rl 74 238 aG L)}:=Fe (cU (uJ L)) (aSH L h hn)
theorem mM {α:Type} {st:St} {d k e sz:Nat} {c:List α→List AV} {L:Option (List α)} (hh:∀l,L=some l→st.heap d k=some (.row e sz l.length (c l))) (hf:∀l,L=some l→∀x∈c l,Flat x):cS st (rv d k L)=some (ov c L):=by
 cases L with
 | none=>exact if_pos (Flat.v _)
 | some l =>
   have hn:¬Flat (.own d k):=by intro h;cases h
   simp only[rv,ov,cS,if_neg hn,hh l rfl,if_pos (hf l rfl)]
theorem Y8 {α:Type} (d k:Nat) (L:Option (List α)):(rv d k L).cells=[rv d k L]:=by cases L<;>rfl
theorem aDh {α:Type} (d k:Nat) (L:Option (List α)):(rv d k L).jD=true:=by cases L<;>rfl
def NW:=aj (aj (aj @G9 @Y6) (aj @Y7 @yY)) (aj @Y8 @aDh)
theorem aSJ (a:sG) (V:Option (List Int)) (ha:a.eZ=ov aK V) (h:V≠some []) (hn:((ol V).length:Int)<1000000):aB Tryz.prog 163 [.agg (iD a)]=some (.agg (iD a)):=by
 rw[cL Tryz.func163 rfl aNi rfl];simp only[Z8,seval,ha,aNh V h hn,NW];refine eH rfl (by simp only[E8,seval,NW]<;>rfl) (cs:=iD { a with eZ:=rv 5 0 V }) (by simp only[Z8,seval,NW]<;>rfl) ?_
 rw[bS,mA,mM (e:=3) (sz:=1) (c:=aK) (L:=V) ?h (fun l _=>gI l),cO,cO,← ha]
 case h =>
  intro l hl;subst hl;simp only[E8,seval,yY,rl,List.length_cons,Nat.lt_add_left_iff_pos,Nat.zero_lt_succ,if_true]
end Go.Ab.Tryz
namespace Go.Ab
open Classical
theorem Ot [Ext] {P:Program} {call:Nat→List AV→Option AV} {ops:Array Oper} {d:Option Nat} {T:Nat} {pos:String} {eU:Array Edge} {st:St} (t:Nat) (args:Array Operand) (tQ:Array Nat) (g:Nat) (h:st.env t=.v (.func (.func g) #[] #[])):cI P call ops ⟨d,.call ⟨.value (.tmp t),args,tQ⟩,T,pos,eU,none⟩ st=cT (aM call g (args.toList.map st.ev) st d) fun e=>some (e.apply st):=by
 rw[eE];simp only[dT,iT,oD,St.ev,h,HA,and_self,if_true,List.append_nil];cases aM call g (args.toList.map st.ev) st d<;>rfl
end Go.Ab
namespace Go.Ab.Tryz
open Classical Go.Proofs Go.Ab
theorem aSK (a:Table) (V:Option (List Int)) (ha:a.iP=ov bK V) (h:V≠some []) (hn:((ol V).length:Int)<1000000):aB Tryz.prog 194 [.agg (cA a)]=some (.agg (cA a)):=by
 rw[cL Tryz.func194 rfl aNj rfl];simp only[Z8,seval,ha,aNg V h hn,NW];refine eH rfl (by simp only[E8,seval,NW]<;>rfl) (cs:=cA { a with iP:=rv 5 0 V }) (by simp only[Z8,seval,NW]<;>rfl) ?_
 rw[bS,tM,mM (e:=23) (sz:=1) (c:=bK) (L:=V) ?h (fun l _=>iH l),cO,cO,← ha]
 case h =>
  intro l hl;subst hl;simp only[E8,seval,yY,rl,List.length_cons,Nat.lt_add_left_iff_pos,Nat.zero_lt_succ,if_true]
theorem r9 {α:Type} (z:α) (l:List α) (k:Nat) (h:k<l.length):l.take k++[gx z l (k:Int)]=l.take (k+1):=by
 rw[List.take_succ_eq_append_getElem h];congr 2
 simp[gx,h]
theorem aSL (E:Option (List sG)) (h:E≠some []) (hn:((ol E).length:Int)<1000000) (hE:∀a∈ol E,∃V,a.eZ=ov aK (some V)∧V≠[]) (hA:∀a∈ol E,Df a) :
 aB Tryz.prog 162 [ov dR E,.v (.func (.func 163) #[] #[])]=some (uo 87 67 dR E):=by
 have pJ:∀y∈ol E,Flat y.eZ:=fun y m=>(hA y m).fl
 have kg:∀k:Nat,k<(ol E).length→∀(st:St) (d:Option Nat),aM (aB Tryz.prog) 163 [.agg (iD (gx Hw (ol E) (k:Int)))] st d=some { dst:=d,val:=.agg (iD (gx Hw (ol E) (k:Int)))}:=by
  intro k hk st d;have hm:gx Hw (ol E) (k:Int)∈ol E:=by
   have:gx Hw (ol E) (k:Int)=(ol E)[k]:=by simp[gx,hk]
   rw[this];exact List.getElem_mem hk
  obtain⟨V,hV,hV2⟩:=hE _ hm
  obtain⟨V',hV',Gx⟩:=hA _ hm
  have hfa:Flat (.agg (iD (gx Hw (ol E) (k:Int)))):=(zP _).2 (hA _ hm).fl
  have e0:((ol (some V)).length:Int)<1000000:=by
   have h0:ov aK (some V)=ov aK V':=by rw[← hV,← hV']
   cases V' with
   | none=>cases h0
   | some W =>
     simp only[ov,AV.sl.injEq] at h0;simp only[ol,Option.getD_some] at Gx ⊢
     omega
  exact kx (aSJ _ (some V) hV (by simpa using hV2) e0) (cU hfa) hfa st d
 have hu:([ov dR E,.v (.func (.func 163) #[] #[])]:List AV).any uA=false:=by cases E<;>rfl
 rw[cL Tryz.func162 rfl aNl hu];simp only[Z8,seval];refine jV (fun m st=>∃k:Nat,(st.env 8=ov dR E∧st.env 9=.v (.int .i64 (ol E).length)∧st.env 10=.v (.int .i64 k)∧st.env 1=.v (.func (.func 163) #[] #[]))∧((k=0∧st.env 5=.v (.slice none 0 0))∨(0<k∧∃j,st.env 5=.own 19 j∧st.heap 19 j=some (.row 87 67 ((ol E).take k).length (dR ((ol E).take k)))))∧k≤(ol E).length∧m=(ol E).length-k)
  (fun e st=>e=.exit 0∧((ol E=[]∧st.env 5=.v (.slice none 0 0))∨(ol E≠[]∧∃j,st.env 5=.own 19 j∧st.heap 19 j=some (.row 87 67 (ol E).length (dR (ol E)))))) (ol E).length ?step ?start ?rest
 case step =>
  rintro m st ⟨k,hI,hR,hk,hm⟩
  by_cases aY:(k:Int)<(ol E).length
  ·have q0:(0:Int)≤k:=by omega
   have hw:IntKind.i64.wrap ((k:Int)+1)=((k+1:Nat):Int):=by rw[mT _ (by omega) (by omega)];omega
   have ht:=r9 Hw (ol E) k (by omega)
   have kk:=kg k (by omega)
   rcases hR with ⟨qC,h5⟩|⟨qC,j,h5,h6⟩
   ·have ht':[gx Hw (ol E) (k:Int)]=(ol E).take (k+1):=by rw[← ht,show (ol E).take k=[] by rw[qC,List.take_zero],List.nil_append]
    apply oN ((ol E).length-(k+1))
    ·simp only[Z8,seval,hI,h5,aY,q0,kk,Ot 15 _ _ 163,HZ,hw];rfl
    ·exact⟨k+1,⟨by simp only[E8,seval,hI],by simp only[E8,seval,hI],by simp only[E8,seval],by simp only[E8,seval,hI]⟩,.inr ⟨by omega,_,by simp only[E8,seval]<;>rfl,by rw[← ht'];simp only[E8,seval]<;>rfl⟩,by omega,rfl⟩
   ·have ao:=fun s g=>We ((ol E).take k) (gx Hw (ol E) (k:Int)) s g (by rw[List.length_take];omega)
    apply oN ((ol E).length-(k+1))
    ·simp only[Z8,seval,hI,h5,h6,aY,q0,kk,Ot 15 _ _ 163,ao,hw];rfl
    ·exact⟨k+1,⟨by simp only[E8,seval,hI],by simp only[E8,seval,hI],by simp only[E8,seval],by simp only[E8,seval,hI]⟩,.inr ⟨by omega,_,by simp only[E8,seval]<;>rfl,by rw[← ht];simp only[E8,seval]<;>rfl⟩,by omega,rfl⟩
  ·have Aq:k=(ol E).length:=by omega
   have hF:(ol E=[]∧st.env 5=.v (.slice none 0 0))∨(ol E≠[]∧∃j,st.env 5=.own 19 j∧st.heap 19 j=some (.row 87 67 (ol E).length (dR (ol E)))):=by
    rcases hR with ⟨qC,h5⟩|⟨qC,j,h5,h6⟩
    ·exact .inl ⟨List.eq_nil_of_length_eq_zero (by omega),h5⟩
    ·exact .inr ⟨by intro h0;rw[h0] at Aq;simp at Aq;omega,j,h5,by rw[h6,Aq,List.take_length]⟩
   apply oT (.exit 0)
   ·simp only[Z8,seval,hI,aY];rfl
   ·exact⟨rfl,by simp only[E8,seval];exact hF⟩
 case start=>exact⟨0,by simp only[E8,seval]<;>exact⟨rfl,rfl,rfl,rfl⟩,.inl ⟨rfl,by simp only[E8,seval]<;>rfl⟩,by omega,by omega⟩
 case rest =>
  rintro e st ⟨rfl,hR⟩
  rcases hR with ⟨h0,h5⟩|⟨h0,j,h5,h6⟩
  ·simp only[Z8,seval,h5];cases E with
   | none=>exact bQ rfl (by simp only[E8,seval]<;>rfl) (.v _)
   | some l=>exact absurd (show (some l:Option (List sG))=some [] by rw[show l=[] from h0]) h
  ·simp only[Z8,seval,h5];cases E with
   | none=>exact absurd rfl h0
   | some l=>exact tU rfl (by simp only[E8,seval];rfl) (by simp only[E8,seval];exact h6) (tD _ pJ)
theorem aSP (E:Option (List sG)) (h:E≠some []) (hn:((ol E).length:Int)<1000000) (hE:∀a∈ol E,∃V,a.eZ=ov aK (some V)∧V≠[]) (hA:∀a∈ol E,Df a) (st:St) (d:Nat) :
 aM (aB Tryz.prog) 162 [ov dR E,.v (.func (.func 163) #[] #[])] st (some d)=some { dst:=some d,val:=rv d (st.aT d) E,new:=TP d (rl 87 67 dR E)} :=
 Fe (fun x m=>by
  rcases List.mem_cons.1 m with rfl|m
  ·exact Xu E fun y m=>(hA y m).fl
  ·rw[List.mem_singleton.1 m];exact .v _) (aSL E h hn hE hA)
theorem aSQ (E:Option (List Table)) (h:E≠some []) (hn:((ol E).length:Int)<1000000) (hE:∀a∈ol E,∃V,a.iP=ov bK (some V)∧V≠[]) (hA:∀a∈ol E,qN a) :
 aB Tryz.prog 193 [ov aI E,.v (.func (.func 194) #[] #[])]=some (uo 118 34 aI E):=by
 have pJ:∀y∈ol E,Flat y.iP:=fun y m=>(hA y m).fl
 have kg:∀k:Nat,k<(ol E).length→∀(st:St) (d:Option Nat),aM (aB Tryz.prog) 194 [.agg (cA (gx dZ (ol E) (k:Int)))] st d=some { dst:=d,val:=.agg (cA (gx dZ (ol E) (k:Int)))}:=by
  intro k hk st d;have hm:gx dZ (ol E) (k:Int)∈ol E:=by
   have:gx dZ (ol E) (k:Int)=(ol E)[k]:=by simp[gx,hk]
   rw[this];exact List.getElem_mem hk
  obtain⟨V,hV,hV2⟩:=hE _ hm
  obtain⟨V',hV',Gx⟩:=hA _ hm
  have hfa:Flat (.agg (cA (gx dZ (ol E) (k:Int)))):=(iG _).2 (hA _ hm).fl
  have e0:((ol (some V)).length:Int)<1000000:=by
   have h0:ov bK (some V)=ov bK V':=by rw[← hV,← hV']
   cases V' with
   | none=>cases h0
   | some W =>
     simp only[ov,AV.sl.injEq] at h0;simp only[ol,Option.getD_some] at Gx ⊢
     omega
  exact kx (aSK _ (some V) hV (by simpa using hV2) e0) (cU hfa) hfa st d
 have hu:([ov aI E,.v (.func (.func 194) #[] #[])]:List AV).any uA=false:=by cases E<;>rfl
 rw[cL Tryz.func193 rfl aNm hu];simp only[Z8,seval];refine jV (fun m st=>∃k:Nat,(st.env 8=ov aI E∧st.env 9=.v (.int .i64 (ol E).length)∧st.env 10=.v (.int .i64 k)∧st.env 1=.v (.func (.func 194) #[] #[]))∧((k=0∧st.env 5=.v (.slice none 0 0))∨(0<k∧∃j,st.env 5=.own 19 j∧st.heap 19 j=some (.row 118 34 ((ol E).take k).length (aI ((ol E).take k)))))∧k≤(ol E).length∧m=(ol E).length-k)
  (fun e st=>e=.exit 0∧((ol E=[]∧st.env 5=.v (.slice none 0 0))∨(ol E≠[]∧∃j,st.env 5=.own 19 j∧st.heap 19 j=some (.row 118 34 (ol E).length (aI (ol E)))))) (ol E).length ?step ?start ?rest
 case step =>
  rintro m st ⟨k,hI,hR,hk,hm⟩
  by_cases aY:(k:Int)<(ol E).length
  ·have q0:(0:Int)≤k:=by omega
   have hw:IntKind.i64.wrap ((k:Int)+1)=((k+1:Nat):Int):=by rw[mT _ (by omega) (by omega)];omega
   have ht:=r9 dZ (ol E) k (by omega)
   have kk:=kg k (by omega)
   rcases hR with ⟨qC,h5⟩|⟨qC,j,h5,h6⟩
   ·have ht':[gx dZ (ol E) (k:Int)]=(ol E).take (k+1):=by rw[← ht,show (ol E).take k=[] by rw[qC,List.take_zero],List.nil_append]
    apply oN ((ol E).length-(k+1))
    ·simp only[Z8,seval,hI,h5,aY,q0,kk,Ot 15 _ _ 194,GB,hw];rfl
    ·exact⟨k+1,⟨by simp only[E8,seval,hI],by simp only[E8,seval,hI],by simp only[E8,seval],by simp only[E8,seval,hI]⟩,.inr ⟨by omega,_,by simp only[E8,seval]<;>rfl,by rw[← ht'];simp only[E8,seval]<;>rfl⟩,by omega,rfl⟩
   ·have ao:=fun s g=>Rk ((ol E).take k) (gx dZ (ol E) (k:Int)) s g (by rw[List.length_take];omega)
    apply oN ((ol E).length-(k+1))
    ·simp only[Z8,seval,hI,h5,h6,aY,q0,kk,Ot 15 _ _ 194,ao,hw];rfl
    ·exact⟨k+1,⟨by simp only[E8,seval,hI],by simp only[E8,seval,hI],by simp only[E8,seval],by simp only[E8,seval,hI]⟩,.inr ⟨by omega,_,by simp only[E8,seval]<;>rfl,by rw[← ht];simp only[E8,seval]<;>rfl⟩,by omega,rfl⟩
  ·have Aq:k=(ol E).length:=by omega
   have hF:(ol E=[]∧st.env 5=.v (.slice none 0 0))∨(ol E≠[]∧∃j,st.env 5=.own 19 j∧st.heap 19 j=some (.row 118 34 (ol E).length (aI (ol E)))):=by
    rcases hR with ⟨qC,h5⟩|⟨qC,j,h5,h6⟩
    ·exact .inl ⟨List.eq_nil_of_length_eq_zero (by omega),h5⟩
    ·exact .inr ⟨by intro h0;rw[h0] at Aq;simp at Aq;omega,j,h5,by rw[h6,Aq,List.take_length]⟩
   apply oT (.exit 0)
   ·simp only[Z8,seval,hI,aY];rfl
   ·exact⟨rfl,by simp only[E8,seval];exact hF⟩
 case start=>exact⟨0,by simp only[E8,seval]<;>exact⟨rfl,rfl,rfl,rfl⟩,.inl ⟨rfl,by simp only[E8,seval]<;>rfl⟩,by omega,by omega⟩
 case rest =>
  rintro e st ⟨rfl,hR⟩
  rcases hR with ⟨h0,h5⟩|⟨h0,j,h5,h6⟩
  ·simp only[Z8,seval,h5];cases E with
   | none=>exact bQ rfl (by simp only[E8,seval]<;>rfl) (.v _)
   | some l=>exact absurd (show (some l:Option (List Table))=some [] by rw[show l=[] from h0]) h
  ·simp only[Z8,seval,h5];cases E with
   | none=>exact absurd rfl h0
   | some l=>exact tU rfl (by simp only[E8,seval];rfl) (by simp only[E8,seval];exact h6) (jY _ pJ)
theorem aSR (E:Option (List Table)) (h:E≠some []) (hn:((ol E).length:Int)<1000000) (hE:∀a∈ol E,∃V,a.iP=ov bK (some V)∧V≠[]) (hA:∀a∈ol E,qN a) (st:St) (d:Nat) :
 aM (aB Tryz.prog) 193 [ov aI E,.v (.func (.func 194) #[] #[])] st (some d)=some { dst:=some d,val:=rv d (st.aT d) E,new:=TP d (rl 118 34 aI E)} :=
 Fe (fun x m=>by
  rcases List.mem_cons.1 m with rfl|m
  ·exact fZ E fun y m=>(hA y m).fl
  ·rw[List.mem_singleton.1 m];exact .v _) (aSQ E h hn hE hA)
theorem ON (f:Nat→AV→AV × List oB) (c:Nat) (xs ys:List AV):qQ f c (xs++ys)=((qQ f c xs).1++(qQ f (c+(qQ f c xs).2.length) ys).1,(qQ f c xs).2++(qQ f (c+(qQ f c xs).2.length) ys).2):=by
 induction xs generalizing c with
 | nil=>simp[qQ]
 | cons x xs ih=>simp only[List.cons_append,qQ,ih,List.length_append,Nat.add_assoc,List.append_assoc]
theorem Jv (d c:Nat) {x:AV} (h:Flat x):zB d c x=(x,[]):=by cases h<;>rfl
theorem yZ (d c:Nat) {xs:List AV} (h:∀x∈xs,Flat x):qQ (zB d) c xs=(xs,[]):=by
 induction xs generalizing c with
 | nil=>rfl
 | cons x xs ih=>simp only[qQ,Jv d c (h x (by simp)),List.length_nil,Nat.add_zero,ih c fun y m=>h y (by simp[m]),List.nil_append]
theorem IF {α:Type} (d c e sz:Nat) (cs:List α→List AV) (L:Option (List α)):qQ (zB d) c [uo e sz cs L]=([rv d c L],rl e sz cs L):=by cases L<;>rfl
theorem u7 {call:Nat→List AV→Option AV} {g d:Nat} {args cs:List AV} {st:St} (hf:∀x∈args,Flat x) (h:call g args=some (.agg cs)) (hn:Flat (.agg cs)∨(qQ (zB d) (st.aT d) cs).2≠[]) :
 aM call g args st (some d)=some { dst:=some d,val:=.agg (qQ (zB d) (st.aT d) cs).1,new:=TP d (qQ (zB d) (st.aT d) cs).2 }:=by
 unfold aM;rw[if_pos hf,h,cO];unfold jC;by_cases hF:Flat (.agg cs)
 ·have hc:∀x∈cs,Flat x:=by cases hF with|agg _ h=>exact h
  rw[if_pos hF,yZ d _ hc];rfl
 ·rw[if_neg hF];have h2:=hn.resolve_left hF
  simp only[TP,if_neg h2];rfl
noncomputable def CP (st:St) (cs:List AV):Option (List AV):=cP (cs.map (kM st))
theorem OO (st:St) (a b:List AV):CP st (a++b)=cT (CP st a) fun x=>cT (CP st b) fun y=>some (x++y):=by
 unfold CP;induction a with
 | nil=>simp[cP,cT];cases cP (b.map (kM st))<;>rfl
 | cons c a ih =>
   simp only[List.cons_append,List.map_cons];cases kM st c with
   | none=>rfl
   | some c' =>
     simp only[cP,ih];cases cP (a.map (kM st))<;>simp[cT]<;>cases cP (b.map (kM st))<;>rfl
theorem Dq {st:St} {cs:List AV} (h:∀c∈cs,Flat c):CP st cs=some cs:=by
 unfold CP;induction cs with
 | nil=>rfl
 | cons c cs ih =>
   have h1:kM st c=some c:=if_pos (h c (by simp))
   simp only[List.map_cons,h1,cP,ih fun x hx=>h x (by simp[hx]),Option.map_some]
theorem uQ {st:St} {x y:AV} (h:kM st x=some y):CP st [x]=some [y]:=by simp only[CP,List.map_cons,List.map_nil,h,cP,Option.map_some]
theorem GC {st:St} {cs ys:List AV} (h:CP st cs=some ys):Cy st (.agg cs)=some (.agg ys):=by
 show (cP (cs.map (kM st))).map AV.agg=_
 rw[show cP (cs.map (kM st))=some ys from h];rfl
theorem OP {x:AV} (h:Flat x):iB x=[]:=by cases h<;>rfl
theorem uR {cs:List AV} (h:∀c∈cs,Flat c):cs.flatMap iB=[]:=by
 induction cs with
 | nil=>rfl
 | cons c cs ih=>rw[List.flatMap_cons,OP (h c (by simp)),ih fun x hx=>h x (by simp[hx]),List.nil_append]
theorem GD {α:Type} (d k:Nat) (L:Option (List α)):iB (rv d k L)=if L.isSome then [(d,k)] else []:=by cases L<;>rfl
theorem Y9 (st:St) (g:Nat):st.ev (.func g)=.v (.func (.func g) #[] #[]):=rfl
theorem aSS (T:Option (List Table)) (h:T≠some []) (hn:((ol T).length:Int)<1000000) (hE:∀a∈ol T,∃V,a.iP=ov bK (some V)∧V≠[]) (hA:∀a∈ol T,qN a):aB Tryz.prog 166 [ov aI T]=some (uo 118 34 aI T):=by
 have pJ:∀y∈ol T,Flat y.iP:=fun y m=>(hA y m).fl
 rw[cL Tryz.func166 rfl aNn (by cases T<;>rfl)]
 simp only[Z8,seval,Y9,aSR T h hn hE hA,NW];cases T with
 | none=>exact bQ rfl (by simp only[E8,seval]<;>rfl) (.v _)
 | some l=>exact tU rfl (by simp only[E8,seval]<;>rfl) (by simp only[E8,seval,yY,rl,List.length_cons,Nat.lt_add_left_iff_pos,Nat.zero_lt_succ,if_true]<;>rfl) (jY _ pJ)
theorem aST (T:Option (List Table)) (h:T≠some []) (hn:((ol T).length:Int)<1000000) (hE:∀a∈ol T,∃V,a.iP=ov bK (some V)∧V≠[]) (hA:∀a∈ol T,qN a) (st:St) (d:Nat) :
 aM (aB Tryz.prog) 166 [ov aI T] st (some d)=some { dst:=some d,val:=rv d (st.aT d) T,new:=TP d (rl 118 34 aI T)}:=Fe (cU (fZ T fun y m=>(hA y m).fl)) (aSS T h hn hE hA)
theorem aSU (L:Option (List kO)) (Q:Option (List Int)) (h1:L≠some []) (h2:Q≠some []) (n1:((ol L).length:Int)<1000000) (n2:((ol Q).length:Int)<1000000) :
 aB Tryz.prog 161 [.agg (fF ⟨ov dD L,ov aK Q⟩)]=some (.agg (fF ⟨uo 100 34 dD L,uo 3 1 aK Q⟩)):=by
 rw[cL Tryz.func161 rfl aNo rfl];simp only[Z8,seval,aSF L h1 n1,aNh Q h2 n2,NW];refine Xl rfl (.inl rfl) rfl (x:=.agg (fF ⟨rv 5 0 L,rv 8 0 Q⟩)) (by simp only[bY,Z8,seval,NW]) ?_ (GC ?_)
 ·simp only[lY,jE,fF,List.flatMap_append,List.flatMap_cons,List.flatMap_nil,List.append_nil,GD];cases L<;>cases Q<;>simp
 ·unfold fF;rw[OO,uQ (rU (e:=100) (sz:=34) (c:=dD) ?_ fun l _=>nD l),cO,uQ (rU (e:=3) (sz:=1) (c:=aK) ?_ fun l _=>gI l),cO]
  ·intro l hl;subst hl;simp only[E8,seval,yY,rl,List.length_cons,Nat.lt_add_left_iff_pos,Nat.zero_lt_succ,if_true]<;>rfl
  ·intro l hl;subst hl;simp only[E8,seval,yY,rl,List.length_cons,Nat.lt_add_left_iff_pos,Nat.zero_lt_succ,if_true]<;>rfl
theorem Yv (d c:Nat) (L:Option (List kO)) (Q:Option (List Int)):qQ (zB d) c (fF ⟨uo 100 34 dD L,uo 3 1 aK Q⟩)=(fF ⟨rv d c L,rv d (c+(rl 100 34 dD L).length) Q⟩,rl 100 34 dD L++rl 3 1 aK Q):=by
 unfold fF;rw[ON,IF,IF]
theorem aSV (L:Option (List kO)) (Q:Option (List Int)) (h1:L≠some []) (h2:Q≠some []) (n1:((ol L).length:Int)<1000000) (n2:((ol Q).length:Int)<1000000) (st:St) (d:Nat) :
 aM (aB Tryz.prog) 161 [.agg (fF ⟨ov dD L,ov aK Q⟩)] st (some d)=some { dst:=some d,val:=.agg (fF ⟨rv d (st.aT d) L,rv d (st.aT d+(rl 100 34 dD L).length) Q⟩),new:=TP d (rl 100 34 dD L++rl 3 1 aK Q)}:=by
 rw[u7 (cU (.agg _ (qW _ (rC L) (bX Q)))) (aSU L Q h1 h2 n1 n2) ?_,Yv];rw[Yv];cases L with
 | some l=>exact .inr (by simp[rl])
 | none =>
   cases Q with
   | some q=>exact .inr (by simp[rl])
   | none=>exact .inl (.agg _ (qW _ (.v _) (.v _)))
def TS (s:aL) (b l q e o n t:AV):aL:={ s with cFg:={ s.cFg with iP:=b },gK:=⟨l,q⟩,cF:=⟨e,o⟩,tree:=⟨n⟩,tables:=t }
theorem VU {st:St} (s:aL) {b l q e o n t b' l' q' e' o' n' t':AV} (h1:kM st b=some b') (h2:kM st l=some l') (h3:kM st q=some q') (h4:kM st e=some e') (h5:kM st o=some o') (h6:kM st n=some n') (h7:kM st t=some t') :
 CP st (aA (TS s b l q e o n t))=some (aA (TS s b' l' q' e' o' n' t')):=by
 simp only[TS,aA,bW,fF,jX,mV,OO,uQ h1,uQ h2,uQ h3,uQ h4,uQ h5,uQ h6,uQ h7,Dq (uS _),Dq (eD _),Dq (iQ _),Dq (dX _),Dq (lF _),cO]
theorem CQ (s:aL) (b l q e o n t:AV):(aA (TS s b l q e o n t)).flatMap iB=iB b++(iB l++(iB q++(iB e++(iB o++(iB n++iB t))))):=by
 simp only[TS,aA,bW,fF,jX,mV,List.flatMap_append,List.flatMap_cons,List.flatMap_nil,List.append_nil,uR (uS _),uR (eD _),uR (iQ _),uR (dX _),uR (lF _),List.nil_append,List.append_assoc]
theorem Ff {α:Type} (e sz:Nat) (c:List α→List AV) (l:List α):rl e sz c (some l)=[.row e sz l.length (c l)]:=rfl
theorem aSW {s:aL} {v:SV} (hs:SD s v) (gP:NEv v) (hB:v.B≠some []) (hL:v.L≠some []) (ht:0<v.ns.length) :
 aB Tryz.prog 109 [.agg (aA s)]=some (.agg (aA (TS s (uo 23 1 bK v.B) (uo 100 34 dD v.L) (uo 3 1 aK v.Q) (uo 87 67 dR v.E) (uo 74 238 aG v.O) (.uniq 76 240 v.ns.length (bZ v.ns)) (uo 118 34 aI v.T)))):=by
 have hv:s.gK=⟨ov dD v.L,ov aK v.Q⟩:=by
  have h1:=hs.eB
  have h2:=hs.gW
  cases hc:s.gK with
  | mk a b=>rw[hc] at h1 h2;simp only at h1 h2;rw[h1,h2]
 rw[cL Tryz.func109 rfl aNp rfl];simp only[Z8,seval,hs.iP,hv,hs.early,hs.bN,hs.tree,hs.tables,Y9,NW,aNg v.B hB hs.nB,aSV v.L v.Q hL gP.q hs.nL hs.nQ,aSP v.E gP.e hs.nE gP.ea hs.eV,aSI v.O gP.o hs.nO,aQh v.ns ht hs.nn,aST v.T gP.t hs.nT gP.tb hs.tB];refine Xl rfl (.inl rfl) rfl (x:=.agg (aA (TS s (rv 6 0 v.B) (rv 11 0 v.L) (rv 11 (rl 100 34 dD v.L).length v.Q) (rv 16 0 v.E) (rv 22 0 v.O) (.own 27 0) (rv 31 0 v.T)))) ?x1 ?x2 (GC (VU s ?b1 ?l1 ?q1 ?e1 ?o1 ?n1 ?t1))
 case x1=>simp only[bY,Z8,seval,NW,TS]
 case x2 =>
  show ((aA _).flatMap iB).Nodup
  rw[CQ];simp only[GD,show ∀a b,iB (.own a b)=[(a,b)] from fun _ _=>rfl]
  cases v.B<;>cases hvl:v.L<;>cases v.Q<;>cases v.E<;>cases v.O<;>cases v.T<;>simp[rl]
 case b1=>exact rU (fun l hl=>by simp only[E8,seval,NW,hl,Ff,List.length_cons,List.length_nil,Nat.lt_add_left_iff_pos,Nat.zero_lt_succ,if_true]<;>rfl) fun l _=>iH l
 case l1 =>
  refine rU (fun l hl=>?_) fun l _=>nD l
  simp only[E8,seval,NW,hl,Ff];simp
 case q1 =>
  refine rU (fun l hl=>?_) fun l _=>gI l
  simp only[E8,seval,NW,hl,Ff];simp
 case e1=>exact rU (fun l hl=>by simp only[E8,seval,NW,hl,Ff,List.length_cons,List.length_nil,Nat.lt_add_left_iff_pos,Nat.zero_lt_succ,if_true]<;>rfl) fun l hl=>tD l fun y m=>(hs.eV y (by rw[hl];exact m)).fl
 case o1=>exact rU (fun l hl=>by simp only[E8,seval,NW,hl,Ff,List.length_cons,List.length_nil,Nat.lt_add_left_iff_pos,Nat.zero_lt_succ,if_true]<;>rfl) fun l _=>lB l
 case n1=>exact rU (L:=some v.ns) (fun l hl=>by cases hl;simp only[E8,seval,NW,Ff,List.length_cons,List.length_nil,Nat.lt_add_left_iff_pos,Nat.zero_lt_succ,if_true]<;>rfl) fun l _=>iF l
 case t1=>exact rU (fun l hl=>by simp only[E8,seval,NW,hl,Ff,List.length_cons,List.length_nil,Nat.lt_add_left_iff_pos,Nat.zero_lt_succ,if_true]<;>rfl) fun l hl=>jY l fun y m=>(hs.tB y (by rw[hl];exact m)).fl
end Go.Ab.Tryz
