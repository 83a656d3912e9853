/-
  Part 16 of the proof: an evaluator of programs, its soundness, and what functions of this program compute.
-/
import Derived.Test.YtmcjkemalibacaaGreatK15
import Derived.Test.YtmcjkemalibacaaGreatK11
import Derived.Test.YtmcjkemalibacaaGreatK13
import Derived.Test.YtmcjkemalibacaaGreatK10
import Derived.Test.YtmcjkemalibacaaGreatK14
import Derived.Test.YtmcjkemalibacaaGreatK12
set_option linter.all false
set_option maxRecDepth 20000
set_option maxHeartbeats 40000000
namespace Go.Ab.Tryz
open Classical Go.Proofs Go.Ab
structure SB (a r:List Node):Prop where
 UQ:r.map (·.block)=a.map (·.block)
 up:r.map (·.up)=a.map (·.up)
theorem SB.refl (a:List Node):SB a a:=⟨rfl,rfl⟩
theorem SB.trans {a b c:List Node} (h:SB a b) (g:SB b c):SB a c:=⟨g.UQ.trans h.UQ,g.up.trans h.up⟩
theorem SB.len {a r:List Node} (h:SB a r):r.length=a.length:=by have:=congrArg List.length h.UQ;simpa using this
theorem SB.block {a r:List Node} (h:SB a r) {j:Int} (j1:j.toNat<a.length):(nd r j).block=(nd a j).block:=by
 have h2:j.toNat<r.length:=by rw[h.len];exact j1
 have:=congrArg (fun l:List Block=>l[j.toNat]?) h.UQ
 simpa [nd,j1,h2] using this
theorem SB.upE {a r:List Node} (h:SB a r) {j:Int} (j1:j.toNat<a.length):(nd r j).up=(nd a j).up:=by
 have h2:j.toNat<r.length:=by rw[h.len];exact j1
 have:=congrArg (fun l:List Int=>l[j.toNat]?) h.up
 simpa [nd,j1,h2] using this
theorem HM (l:List Node) (x:cN):aN l x=match (l.map (·.block)).findIdx? (fun b=>decide (b.root=x)) with
 | some k=>(k:Int)
 | none=>-1:=by
 unfold aN;rw[List.findIdx?_map];rfl
theorem SB.aN {a r:List Node} (h:SB a r) (x:cN):aN r x=aN a x:=by rw[HM,HM,h.UQ]
theorem Y9 (ns:List Node) (i to:Int):SB ns (setAt ns i to):=by
 have key:∀ {β:Type} (f:Node→β),(∀n s,f (Zf n s)=f n)→(setAt ns i to).map f=ns.map f:=by
  intro β f hf;unfold setAt;rw[List.map_set];apply List.ext_getElem (by simp)
  intro j h1 h2;rw[List.getElem_set];split
  ·rename_i e;have h3:j<ns.length:=by simpa using h2
   subst e;simp[hf,nd,h3]
  ·rfl
 exact⟨key _ fun _ _=>rfl,key _ fun _ _=>rfl⟩
theorem JU {to never:Int}:∀(l:List Int) (ns r:List Node),GR to never l ns=some r→SB ns r
 | [],ns,r,h=>by simp only[GR,Option.some.injEq] at h;rw[h];exact SB.refl _
 | i :: l,ns,r,h=>by
   simp only[GR] at h;split at h
   ·cases h
   ·exact (Y9 ns i to).trans (JU l _ _ h)
def PR (ns:List Node) (x:AV):Prop:=(∃e:Int,e≠0∧x=.eG [.agg [.v (.slice none 0 0)],.v (.int .i64 e)])∨∃r,SB ns r∧x=.eG [.agg (cO ⟨r⟩),.v (.int .i64 0)]
theorem PR.err (ns:List Node) {e:Int} (h:e≠0):PR ns (DU e):=.inl ⟨e,h,rfl⟩
theorem aGX (ns:List Node) (i:Int):PR ns (P8 ns i):=by
 unfold P8;split
 ·unfold stA;split
  ·exact .err _ (by decide)
  ·rename_i r hr;exact .inr ⟨r,JU _ _ _ hr,rfl⟩
 ·exact .err _ (by decide)
theorem Z0 (ns:List Node) (i:Int):PR ns (P9 ns i):=by
 unfold P9;split
 ·unfold stA;split
  ·exact .err _ (by decide)
  ·rename_i r hr;exact .inr ⟨r,JU _ _ _ hr,rfl⟩
 ·exact .err _ (by decide)
theorem PR.of {a b:List Node} (h:SB a b) {x:AV} (g:PR b x):PR a x:=g.imp id fun ⟨r,h1,h2⟩=>⟨r,h.trans h1,h2⟩
theorem aGY (ns:List Node) (i:Int) (v:gW) (l:List Int):PR ns (VX ns i v l):=by
 unfold VX;split
 ·exact .err _ (by decide)
 split
 ·exact aGX ns i
 split
 ·unfold U0;split
  ·exact .err _ (by decide)
  split
  ·split
   ·exact .err _ (by decide)
   ·rename_i r hr;exact .of (JU _ _ _ hr) (Z0 _ _)
  ·exact Z0 _ _
 split
 ·exact .inr ⟨ns,SB.refl ns,rfl⟩
 ·exact .err _ (by decide)
theorem GI.tree {s:aM} {v:SV} {q:Int} (h:GI s v q) {r:List Node} (hs:SB v.ns r):GI { s with tree:=⟨.sl r.length (bU r)⟩} { v with ns:=r } q:=by
 have hl:=hs.len
 have hp:=h.pos
 refine⟨⟨h.sd.iP,h.sd.dU,h.sd.gN,h.sd.early,h.sd.bL,rfl,h.sd.tables,h.sd.eV,h.sd.tB,h.sd.nB,h.sd.nL,h.sd.nQ,h.sd.nE,h.sd.nO,h.sd.nT,by rw[hl];exact h.sd.nn⟩,fun i i0 i1=>?_, ?_,by show 0<r.length;omega,by rw[hl];exact h.nl,h.WH,h.jH,h.OQ,h.nB,h.nO,h.OR,h.nE,h.UW,h.nT,h.UX,h.nQ,h.U6, ?_⟩
 ·have i1:i<(r.length:Int):=i1
  show 0≤(nd r i).up∧(nd r i).up<i
  rw[hs.upE (by omega)];exact h.up i i0 (by omega)
 ·show (nd r 0).up=-1
  rw[hs.upE (by show (0:Nat)<_;omega)];exact h.Xs
 ·show 0≤aN r s.aL.gI.root
  rw[hs.aN];exact h.gI
theorem RG.tree {s:aM} {v:SV} (h:RG s v) {r:List Node} (hs:SB v.ns r) (x:Du):RG { s with tree:=x } { v with ns:=r } :=
 ⟨h.now,h.j,h.f,fun n hn=>by
  have:n.block∈r.map (·.block):=List.mem_map.2 ⟨n,hn,rfl⟩
  rw[hs.UQ] at this;obtain⟨a,ha,e⟩:=List.mem_map.1 this
  rw[← e];exact h.nd a ha,h.or,fun n hn=>by
  have:n.block∈r.map (·.block):=List.mem_map.2 ⟨n,hn,rfl⟩
  rw[hs.UQ] at this;obtain⟨a,ha,e⟩:=List.mem_map.1 this
  rw[← e];exact h.rt a ha,h.fe,by
  have e:=congrArg (List.map fun b:Block=>b.root) hs.UQ
  rw[List.map_map,List.map_map] at e;show (r.map ((fun b:Block=>b.root) ∘ fun n=>n.block)).Nodup
  rw[e];exact h.ds,h.tb,⟨h.ne.q,h.ne.e,h.ne.o,h.ne.t,h.ne.ea,h.ne.tb⟩⟩
structure TQ (Q:List Request) (tag:Int):Prop where
 pos:1≤tag
 all:∀r∈Q,1≤r.tagged.tag∧r.tagged.tag<tag∧r.due=0
 asc:Q.Pairwise fun a b=>a.tagged.tag<b.tagged.tag
structure TR (R:List Request) (tag:Int):Prop where
 all:∀r∈R,r.tagged.tag<tag
 asc:R.Pairwise fun a b=>¬xI b a
def XB (ns:List Node) (l:List Request):Prop:=∀r∈l,0≤aN ns r.block
theorem TQ.sub {P Q:List Request} {tag:Int} (h:TQ Q tag) (s:P.Sublist Q):TQ P tag:=⟨h.pos,fun r hr=>h.all r (s.subset hr),h.asc.sublist s⟩
theorem TR.sub {P Q:List Request} {tag:Int} (h:TR Q tag) (s:P.Sublist Q):TR P tag:=⟨fun r hr=>h.all r (s.subset hr),h.asc.sublist s⟩
theorem TR.mono {Q:List Request} {t t':Int} (h:TR Q t) (l:t≤t'):TR Q t':=⟨fun r hr=>by have:=h.all r hr;omega,h.asc⟩
theorem XB.sub {ns:List Node} {P Q:List Request} (h:XB ns Q) (s:P.Sublist Q):XB ns P:=fun r hr=>h r (s.subset hr)
theorem TQ.app {Q:List Request} {tag:Int} (h:TQ Q tag) (b:cN) (n:Int):TQ (Q++[⟨⟨tag⟩,b,n,0⟩]) (tag+1):=by
 refine⟨by have:=h.pos;omega,fun r hr=>?_,List.pairwise_append.2 ⟨h.asc,List.pairwise_singleton ..,fun a ha b hb=>?_⟩⟩
 ·rcases List.mem_append.1 hr with hr|hr
  ·obtain⟨h1,h2,h3⟩:=h.all r hr;exact⟨h1,by omega,h3⟩
  ·rw[List.mem_singleton] at hr;subst hr;exact⟨h.pos,by show tag<tag+1;omega,rfl⟩
 ·rw[List.mem_singleton] at hb;subst hb;exact (h.all a ha).2.1
theorem XB.app {ns:List Node} {Q:List Request} (h:XB ns Q) {x:Request} (hx:0≤aN ns x.block):XB ns (Q++[x]):=fun r hr=>by
 rcases List.mem_append.1 hr with hr|hr
 ·exact h r hr
 ·rw[List.mem_singleton] at hr;subst hr;exact hx
theorem aMA {x:Int} (h1:1≤x) (h2:x≤1000000):IntKind.u64.wrap (x+1)=x+1:=wrap_u64 _ (by omega) (by omega)
theorem Qn (ns:List Node) (now:Int):∀(l:List Request) (a:(Option (List Request) × Int) × List Request),TQ (ol a.1.1) a.1.2→XB ns (ol a.1.1)→a.1.2+l.length≤1000000 →
 TQ (ol (Ap ns now a l).1.1) (Ap ns now a l).1.2∧XB ns (ol (Ap ns now a l).1.1)∧a.1.2≤(Ap ns now a l).1.2∧(Ap ns now a l).1.2≤a.1.2+l.length∧(Ap ns now a l).2=a.2++l.filter fun r=>decide (now<r.due)
 | [],a,h,hi,hb=>⟨h,hi,by show a.1.2≤a.1.2;omega,by show a.1.2≤a.1.2+((0:Nat):Int);omega,(List.append_nil _).symm⟩
 | r :: l,a,h,hi,hb=>by
   have hp:=h.pos
   rw[List.length_cons] at hb;have hw:=aMA hp (by omega)
   have e0:Ap ns now a (r :: l)=Ap ns now (Nt ns now a r) l:=rfl
   rw[e0,List.length_cons];by_cases g1:now<r.due
   ·have e1:Nt ns now a r=(a.1,a.2++[r]):=if_pos g1
    rw[e1];obtain⟨h1,h2,h3,h4,h5⟩:=Qn ns now l (a.1,a.2++[r]) h hi (by dsimp only;omega)
    refine⟨h1,h2,h3,by dsimp only at h4;omega, ?_⟩
    rw[h5,List.filter_cons,if_pos (decide_eq_true g1)];simp
   ·rw[List.filter_cons,if_neg (by simpa using g1)]
    by_cases g2:Ao ns r.block
    ·have e1:Nt ns now a r=((some (ol a.1.1++[⟨⟨a.1.2⟩,r.block,r.tries,0⟩]),IntKind.u64.wrap (a.1.2+1)),a.2):=(if_neg g1).trans (if_pos g2)
     rw[e1,hw];obtain⟨h1,h2,h3,h4,h5⟩:=Qn ns now l ((some (ol a.1.1++[(⟨⟨a.1.2⟩,r.block,r.tries,0⟩:Request)]),a.1.2+1),a.2) (h.app _ _) (hi.app g2.1) (by dsimp only;omega)
     exact⟨h1,h2,by dsimp only at h3;omega,by dsimp only at h4;omega,h5⟩
    ·have e1:Nt ns now a r=a:=(if_neg g1).trans (if_neg g2)
     rw[e1];obtain⟨h1,h2,h3,h4,h5⟩:=Qn ns now l a h hi (by omega)
     exact⟨h1,h2,h3,by omega,h5⟩
theorem JV (ns:List Node):∀(l:List cN) (a:Option (List Request) × Int),TQ (ol a.1) a.2→XB ns (ol a.1)→a.2+l.length≤1000000 →
 TQ (ol (Pe ns a l).1) (Pe ns a l).2∧XB ns (ol (Pe ns a l).1)∧a.2≤(Pe ns a l).2∧(Pe ns a l).2≤a.2+l.length
 | [],a,h,hi,hb=>⟨h,hi,by show a.2≤a.2;omega,by show a.2≤a.2+((0:Nat):Int);omega⟩
 | r :: l,a,h,hi,hb=>by
   have hp:=h.pos
   rw[List.length_cons] at hb;have hw:=aMA hp (by omega)
   have e0:Pe ns a (r :: l)=Pe ns (z9 ns a r) l:=rfl
   rw[e0,List.length_cons];by_cases g2:Ao ns r
   ·have e1:z9 ns a r=(some (ol a.1++[⟨⟨a.2⟩,r,0,0⟩]),IntKind.u64.wrap (a.2+1)):=if_pos g2
    rw[e1,hw];obtain⟨h1,h2,h3,h4⟩:=JV ns l (some (ol a.1++[(⟨⟨a.2⟩,r,0,0⟩:Request)]),a.2+1) (h.app _ _) (hi.app g2.1) (by dsimp only;omega)
    exact⟨h1,h2,by dsimp only at h3;omega,by dsimp only at h4;omega⟩
   ·have e1:z9 ns a r=a:=if_neg g2
    rw[e1];obtain⟨h1,h2,h3,h4⟩:=JV ns l a h hi (by omega)
    exact⟨h1,h2,h3,by omega⟩
theorem A2 (ns:List Node) (now:Int):∀(l:List Request) (a:(Option (List Request) × Int) × List Request),a.1.1≠some []→(Ap ns now a l).1.1≠some []
 | [],a,h=>h
 | r :: l,a,h=>by
   have e0:Ap ns now a (r :: l)=Ap ns now (Nt ns now a r) l:=rfl
   rw[e0];refine A2 ns now l _ ?_
   unfold Nt;split
   ·exact h
   split
   ·simp
   ·exact h
theorem Z1 (ns:List Node):∀(l:List cN) (a:Option (List Request) × Int),a.1≠some []→(Pe ns a l).1≠some []
 | [],a,h=>h
 | r :: l,a,h=>by
   have e0:Pe ns a (r :: l)=Pe ns (z9 ns a r) l:=rfl
   rw[e0];refine Z1 ns l _ ?_
   unfold z9;split
   ·simp
   ·exact h
noncomputable def JW:List Request→Request→List Request→List Request
 | [],x,B=>x :: B
 | y :: A,x,B=>if xI x y then JW A x (y :: B) else (y :: A).reverse++x :: B
theorem HN:∀(A:List Request) (x:Request) (B:List Request),Dc A.length (A.reverse++x :: B)=JW A x B
 | [],x,B=>rfl
 | y :: A,x,B=>by
   have e1:gx cZ ((y :: A).reverse++x :: B) ((A.length+1:Nat):Int)=x:=by
    unfold gx;rw[Int.toNat_natCast,List.reverse_cons,List.append_assoc,List.getD_eq_getElem?_getD,List.getElem?_append_right (by simp),List.length_reverse]
    simp
   have e2:gx cZ ((y :: A).reverse++x :: B) (A.length:Int)=y:=by
    unfold gx;rw[Int.toNat_natCast,List.reverse_cons,List.append_assoc,List.getD_eq_getElem?_getD,List.getElem?_append_right (by simp),List.length_reverse]
    simp
   have e3:(((y :: A).reverse++x :: B).set (A.length+1) y).set A.length x=A.reverse++x :: y :: B:=by
    rw[List.reverse_cons,List.append_assoc,List.set_append_right _ _ (by simp),List.length_reverse,List.set_append_right _ _ (by simp),List.length_reverse]
    simp
   rw[List.length_cons];have e0:∀l,Dc (A.length+1) l=if xI (gx cZ l ((A.length+1:Nat):Int)) (gx cZ l (A.length:Int)) then Dc A.length ((l.set (A.length+1) (gx cZ l (A.length:Int))).set A.length (gx cZ l ((A.length+1:Nat):Int))) else l:=fun l=>rfl
   rw[e0,e1,e2,e3];unfold JW;split
   ·exact HN A x (y :: B)
   ·rfl
theorem AG {r:Request}:∀(A:List Request) (x:Request) (B:List Request),r∈JW A x B↔r∈A∨r=x∨r∈B
 | [],x,B=>by simp[JW]
 | y :: A,x,B=>by
   unfold JW;split
   ·rw[AG A x (y :: B)];simp only[List.mem_cons];constructor
    ·rintro (h|h|h|h)
     ·exact .inl (.inr h)
     ·exact .inr (.inl h)
     ·exact .inl (.inl h)
     ·exact .inr (.inr h)
    ·rintro ((h|h)|h|h)
     ·exact .inr (.inr (.inl h))
     ·exact .inl h
     ·exact .inr (.inl h)
     ·exact .inr (.inr (.inr h))
   ·simp[or_assoc,or_left_comm]
theorem Vt {a b:Request} (h:xI a b):¬xI b a:=by unfold xI at *;omega
theorem Z2 {a b c:Request} (h1:¬xI b a) (h2:¬xI c b):¬xI c a:=by unfold xI at *;omega
theorem PS:∀(A:List Request) (x:Request) (B:List Request),(A.reverse++B).Pairwise (fun a b=>¬xI b a)→(∀b∈B,xI x b)→(JW A x B).Pairwise fun a b=>¬xI b a
 | [],x,B,h,hb=>List.pairwise_cons.2 ⟨fun b m=>Vt (hb b m),h⟩
 | y :: A,x,B,h,hb=>by
   unfold JW;have h0:=h
   rw[List.reverse_cons,List.append_assoc] at h;split
   ·rename_i g;exact PS A x (y :: B) h fun b m=>(List.mem_cons.1 m).elim (fun e=>by rw[e];exact g) (hb b)
   ·rename_i g;obtain⟨p1,p2,p3⟩:=List.pairwise_append.1 h0
    refine List.pairwise_append.2 ⟨p1,List.pairwise_cons.2 ⟨fun b m=>Vt (hb b m),p2⟩,fun a ha b m=>?_⟩
    rcases List.mem_cons.1 m with rfl|m
    ·rw[List.reverse_cons,List.mem_append,List.mem_singleton] at ha;rcases ha with ha|rfl
     ·have:=(List.pairwise_append.1 h).2.2 a ha y (by simp)
      exact Z2 this g
     ·exact g
    ·exact p3 a ha b m
theorem Z3 (R:List Request) (x:Request):Dc R.length (R++[x])=JW R.reverse x []:=by
 have:=HN R.reverse x []
 rwa [List.reverse_reverse,List.length_reverse] at this
theorem TR.bub {R:List Request} {tag:Int} (h:TR R tag) {x:Request} (hx:x.tagged.tag<tag):TR (Dc R.length (R++[x])) tag:=by
 rw[Z3];refine⟨fun r hr=>?_,PS _ _ _ (by rw[List.reverse_reverse,List.append_nil];exact h.asc) (by simp)⟩
 rcases (AG _ _ _).1 hr with hr|rfl|hr
 ·exact h.all r (List.mem_reverse.1 hr)
 ·exact hx
 ·cases hr
theorem XB.bub {ns:List Node} {R:List Request} (h:XB ns R) {x:Request} (hx:0≤aN ns x.block):XB ns (Dc R.length (R++[x])):=by
 rw[Z3];intro r hr;rcases (AG _ _ _).1 hr with hr|rfl|hr
 ·exact h r (List.mem_reverse.1 hr)
 ·exact hx
 ·cases hr
structure TI0 (t:State) (v:SV) (Q R:Option (List Request)) (q m:Int):Prop where
 td:TD t v Q R
 gi:GI t.store v q
 rg:RG t.store v
 cfg:∃b,Ix t.store.cFg b
 tq:TQ (ol Q) t.dA
 tr:TR (ol R) t.dA
 nt:t.dA≤1+m
 lq:((ol Q).length:Int)≤m
 lr:((ol R).length:Int)≤t.store.cFg.lJ.oI
 mB:m≤100000
 qn:Q≠some []
 rn:R≠some []
structure TI (t:State) (v:SV) (Q R:Option (List Request)) (q m:Int):Prop extends TI0 t v Q R q m where
 Q6:XB v.ns (ol Q)
 Q7:XB v.ns (ol R)
theorem TI0.mono {t:State} {v:SV} {Q R:Option (List Request)} {q m q' m':Int} (h:TI0 t v Q R q m) (h1:q≤q') (h2:q'≤900000) (h3:m≤m') (h4:m'≤100000):TI0 t v Q R q' m' :=
 ⟨h.td,h.gi.mono h1 h2,h.rg,h.cfg,h.tq,h.tr,by have:=h.nt;omega,by have:=h.lq;omega,h.lr,h4,h.qn,h.rn⟩
theorem TI.mono {t:State} {v:SV} {Q R:Option (List Request)} {q m q' m':Int} (h:TI t v Q R q m) (h1:q≤q') (h2:q'≤900000) (h3:m≤m') (h4:m'≤100000):TI t v Q R q' m':=⟨h.toTI0.mono h1 h2 h3 h4,h.Q6,h.Q7⟩
theorem TI0.store {t:State} {v:SV} {Q R:Option (List Request)} {q m:Int} (h:TI0 t v Q R q m) {s':aM} {v':SV} {q':Int} (g:GI s' v' q') (r:RG s' v') (c:s'.cFg=t.store.cFg):TI0 { t with store:=s' } v' Q R q' m :=
 ⟨⟨g.sd,h.td.Hx,h.td.ret,h.td.nQ,h.td.nR⟩,g,r,by show ∃b,Ix s'.cFg b;rw[c];exact h.cfg,h.tq,h.tr,h.nt,h.lq,by show _≤s'.cFg.lJ.oI;rw[c];exact h.lr,h.mB,h.qn,h.rn⟩
theorem TI.emit {t:State} {v:SV} {Q R:Option (List Request)} {q m:Int} (h:TI t v Q R q m) (b:Bool) (c:Command):TI { t with Nn:=b,last:=c } v Q R q m :=
 ⟨⟨⟨h.td.sd,h.td.Hx,h.td.ret,h.td.nQ,h.td.nR⟩,h.gi,h.rg,h.cfg,h.tq,h.tr,h.nt,h.lq,h.lr,h.mB,h.qn,h.rn⟩,h.Q6,h.Q7⟩
theorem TI.halt {t:State} {v:SV} {Q R:Option (List Request)} {q m:Int} (h:TI t v Q R q m) (b:Bool):TI { t with halted:=b } v Q R q m :=
 ⟨⟨⟨h.td.sd,h.td.Hx,h.td.ret,h.td.nQ,h.td.nR⟩,h.gi,h.rg,h.cfg,h.tq,h.tr,h.nt,h.lq,h.lr,h.mB,h.qn,h.rn⟩,h.Q6,h.Q7⟩
theorem TI.over {t:State} {v:SV} {Q R:Option (List Request)} {q m:Int} (h:TI t v Q R q m) (b:Bool):TI { t with overflow:=b } v Q R q m :=
 ⟨⟨⟨h.td.sd,h.td.Hx,h.td.ret,h.td.nQ,h.td.nR⟩,h.gi,h.rg,h.cfg,h.tq,h.tr,h.nt,h.lq,h.lr,h.mB,h.qn,h.rn⟩,h.Q6,h.Q7⟩
theorem TI0.aDb {t:State} {v:SV} {Q R:Option (List Request)} {q m:Int} (h:TI0 t v Q R q m):t.store.cFg.lJ.oI≤256:=by obtain⟨b,hb⟩:=h.cfg;exact hb.oI.2
theorem TI0.iP {t:State} {v:SV} {Q R:Option (List Request)} {q m:Int} (h:TI0 t v Q R q m):0<(ol v.B).length∧(ol v.B).length≤64:=by
 obtain⟨b,hb⟩:=h.cfg
 have e:=h.gi.sd.iP.symm.trans hb.iP
 have n:=hb.nb
 cases hB:v.B with
 | none=>rw[hB] at e;cases e
 | some l =>
   rw[hB] at e;have e:AV.sl l.length (bI l)=AV.sl b.length (bI b):=e
   injection e with e1 e2
   show 0<l.length∧l.length≤64
   omega
theorem TI0.drop {t:State} {v:SV} {Q R:Option (List Request)} {q m:Int} (h:TI0 t v Q R q m):TI (WX t v Q R) v (nz (pK v.ns (ol Q))) (nz (pK v.ns (ol R))) q m:=by
 have s1:(pK v.ns (ol Q)).Sublist (ol Q):=List.filter_sublist
 have s2:(pK v.ns (ol R)).Sublist (ol R):=List.filter_sublist
 have l1:=s1.length_le
 have l2:=s2.length_le
 have a1:=h.lq
 have a2:=h.lr
 refine⟨⟨h.td.drp,h.gi,h.rg,h.cfg, ?_, ?_,h.nt, ?_, ?_,h.mB,Zu _,Zu _⟩, ?_, ?_⟩
 ·rw[oW];exact h.tq.sub s1
 ·rw[oW];exact h.tr.sub s2
 ·rw[oW];omega
 ·rw[oW];show _≤t.store.cFg.lJ.oI;omega
 ·rw[oW];intro r hr;exact of_decide_eq_true (List.mem_filter.1 hr).2
 ·rw[oW];intro r hr;exact of_decide_eq_true (List.mem_filter.1 hr).2
theorem TI.due {t:State} {v:SV} {Q R:Option (List Request)} {q m:Int} (h:TI t v Q R q m) (hm:m+256≤100000):TI (aC9 t v.ns Q R) v (JT t v.ns Q R).1.1 (nz (JT t v.ns Q R).2) q (m+256):=by
 have a1:=h.lq
 have a2:=h.lr
 have a3:=h.aDb
 have a4:=h.nt
 obtain⟨h1,h2,h3,h4,h5⟩:=Qn v.ns t.store.now (ol R) ((Q,t.dA),[]) h.tq h.Q6 (by dsimp only;omega)
 have hl:=PL v.ns t.store.now (ol R) ((Q,t.dA),[])
 rw[List.nil_append] at h5;have e1:Ap v.ns t.store.now ((Q,t.dA),[]) (ol R)=JT t v.ns Q R:=rfl
 rw[e1] at h1 h2 h3 h4 h5 hl;dsimp only at h3 h4 hl
 have s2:(JT t v.ns Q R).2.Sublist (ol R):=by rw[h5];exact List.filter_sublist
 have l2:=s2.length_le
 have yS:=hl.1
 have:=h.mB
 refine⟨⟨⟨h.td.sd,rfl,rfl,by omega,by rw[oW];omega⟩,h.gi,h.rg,h.cfg,h1, ?_, ?_,by omega, ?_,hm,A2 v.ns t.store.now (ol R) ((Q,t.dA),[]) h.qn,Zu _⟩,h2, ?_⟩
 ·rw[oW];exact (h.tr.sub s2).mono h3
 ·show (JT t v.ns Q R).1.2≤_;omega
 ·rw[oW];show _≤t.store.cFg.lJ.oI;omega
 ·rw[oW];exact h.Q7.sub s2
theorem TI.open {t:State} {v:SV} {Q R:Option (List Request)} {q m:Int} (h:TI t v Q R q m) (L:List cN) (hL:(L.length:Int)≤100) (hm:m+256≤100000):TI (WY t (Pe v.ns (Q,t.dA) L)) v (Pe v.ns (Q,t.dA) L).1 R q (m+256):=by
 have a1:=h.lq
 have a4:=h.nt
 obtain⟨h1,h2,h3,h4⟩:=JV v.ns L (Q,t.dA) h.tq h.Q6 (by dsimp only;omega)
 have hl:=A0 v.ns (Q,t.dA) L
 dsimp only at h3 h4 hl
 refine⟨⟨h.td.WY _ (by omega),h.gi,h.rg,h.cfg,h1,h.tr.mono h3, ?_,by omega,h.lr,hm,Z1 v.ns L (Q,t.dA) h.qn,h.rn⟩,h2,h.Q7⟩
 show (Pe v.ns (Q,t.dA) L).2≤_;omega
theorem TI.Z4 {t:State} {v:SV} {Q R:Option (List Request)} {q m:Int} (h:TI t v Q R q m) {r:Request} (hr:r.tagged.tag<t.dA):∃R',TI (I8 t v.ns (ol R) r) v Q R' q m:=by
 unfold I8;split
 ·exact⟨R,h⟩
 split
 ·exact⟨R,h.over true⟩
 ·rename_i g1 g2;have g1:=Classical.not_not.1 g1
  have hl:(Dc (ol R).length (ol R++[PQ t r])).length=(ol R).length+1:=by rw[PO,List.length_append,List.length_cons,List.length_nil]
  have a3:=h.aDb
  refine⟨some (Dc (ol R).length (ol R++[PQ t r])),⟨⟨h.td.sd,h.td.Hx,rfl,h.td.nQ, ?_⟩,h.gi,h.rg,h.cfg,h.tq,h.tr.bub (x:=PQ t r) hr,h.nt,h.lq, ?_,h.mB,h.qn,fun e=>by injection e with e;rw[e] at hl;simp at hl⟩,h.Q6,h.Q7.bub (x:=PQ t r) g1.1⟩
  ·show ((Dc (ol R).length (ol R++[PQ t r])).length:Int)<_;omega
  ·show ((Dc (ol R).length (ol R++[PQ t r])).length:Int)≤t.store.cFg.lJ.oI;omega
theorem TI.less {t:State} {v:SV} {Q R:Option (List Request)} {q m:Int} (h:TI t v Q R q m) (k:Nat):TI { t with iY:=ov aE (nz ((ol Q).take k++(ol Q).drop (k+1)))} v (nz ((ol Q).take k++(ol Q).drop (k+1))) R q m:=by
 have s:((ol Q).take k++(ol Q).drop (k+1)).Sublist (ol Q):=by rw[← List.eraseIdx_eq_take_drop_succ];exact List.eraseIdx_sublist ..
 have l1:=s.length_le
 have a1:=h.lq
 have:=h.td.nQ
 exact⟨⟨⟨h.td.sd,rfl,h.td.ret,by rw[oW];omega,h.td.nR⟩,h.gi,h.rg,h.cfg,by rw[oW];exact h.tq.sub s,h.tr,h.nt,by rw[oW];omega,h.lr,h.mB,Zu _,h.rn⟩,by rw[oW];exact h.Q6.sub s,h.Q7⟩
theorem TI.tree {t:State} {v:SV} {Q R:Option (List Request)} {q m:Int} (h:TI t v Q R q m) {r:List Node} (hs:SB v.ns r) (b:cN):TI { t with store:={ t.store with tree:=⟨.sl r.length (bU r)⟩,eE:=b }} { v with ns:=r } Q R q m:=by
 have g:=(h.gi.tree hs).eE b
 have e:=(h.rg.tree hs ⟨.sl r.length (bU r)⟩).eE b
 exact⟨h.toTI0.store g e rfl,fun x hx=>by show 0≤aN r x.block;rw[hs.aN];exact h.Q6 x hx,fun x hx=>by show 0≤aN r x.block;rw[hs.aN];exact h.Q7 x hx⟩
def PT (Q:List Request) (tag:Int) (k:Nat):Prop:=(gx cZ Q (k:Int)).tagged.tag=tag
theorem x27 {t:State} {v:SV} {Q R:Option (List Request)} (h:TD t v Q R) (w:gW):∃x,aB Tryz.prog 27 [.agg (aT t),.agg (dJ w)]=some x ∧
 (((∀j:Nat,j<(ol Q).length→¬PT (ol Q) w.tagged.tag j)∧x=.eG [.agg (dD cZ),.agg (aT lX),.v (.int .i64 23)]) ∨
  ∃k:Nat,k<(ol Q).length∧PT (ol Q) w.tagged.tag k∧(∀j:Nat,j<k→¬PT (ol Q) w.tagged.tag j)∧x=.eG [.agg (dD (gx cZ (ol Q) (k:Int))),.agg (aT { t with iY:=ov aE (nz ((ol Q).take k++(ol Q).drop (k+1)))}),.v (.int .i64 0)]):=by
 have pG:=h.fl
 have nQ:=h.nQ
 have nQ1:((ol Q).length:Int)<1000000:=by omega
 have DK:Flat (.agg (aT lX)):=by simp only[eC,lX,fW,mS,Nl,Gd,Td,and_self]
 rw[cG Tryz.func27 rfl aRY (by kernel_rfl) rfl]
 simp only[ZG,seval,Bool.false_and,Prod.mk.injEq,JX];refine kS (fun m st=>∃k:Nat,(st.env 2=.ptr 2 0 0∧st.heap 2 0=some (.cells (aT t))∧st.env 3=.ptr 3 0 0∧st.heap 3 0=some (.cells (dJ w))∧st.env 4=.ptr 4 0 0∧st.heap 4 0=some (.cells (dD cZ))∧st.env 5=.ptr 5 0 0∧st.heap 5 0=some (.cells (aT lX))∧st.env 7=.v (.int .i64 k))∧(∀j:Nat,j<k→¬PT (ol Q) w.tagged.tag j)∧k≤(ol Q).length∧m=(ol Q).length-k)
  (fun e st=>(e=.ret∧∃(k:Nat) (X:AV),(st.env 4=.ptr 4 0 0∧st.heap 4 0=some (.cells (dD (gx cZ (ol Q) (k:Int))))∧st.env 5=.ptr 5 0 0∧st.heap 5 0=some (.cells (aT { t with iY:=X }))∧st.env 6=.v (.int .i64 0))∧((X=.v (.slice none 0 0)∧(ol Q).take k++(ol Q).drop (k+1)=[])∨∃g,X=.own 42 g∧(ol Q).take k++(ol Q).drop (k+1)≠[]∧st.heap 42 g=some (.row 63 35 ((ol Q).take k++(ol Q).drop (k+1)).length (aE ((ol Q).take k++(ol Q).drop (k+1)))))∧k<(ol Q).length∧PT (ol Q) w.tagged.tag k∧(∀j:Nat,j<k→¬PT (ol Q) w.tagged.tag j)) ∨
   (e=.exit 0∧(st.env 4=.ptr 4 0 0∧st.heap 4 0=some (.cells (dD cZ))∧st.env 5=.ptr 5 0 0∧st.heap 5 0=some (.cells (aT lX)))∧∀j:Nat,j<(ol Q).length→¬PT (ol Q) w.tagged.tag j)) (ol Q).length ?step ?start ?rest
 case step =>
  rintro m st ⟨k,hI,hj,hk,hm⟩
  by_cases bA:(k:Int)<(ol Q).length
  case neg =>
   apply HF (.exit 0)
   ·simp only[ZG,seval,Bool.false_and,Prod.mk.injEq,JX,hI,h.Hx,bA];rfl
   ·exact .inr ⟨rfl,by simp only[E8,seval,hI],fun j hj'=>hj j (by omega)⟩
  have q0:(0:Int)≤k:=by omega
  have q2:(k:Int)≤((ol Q).length:Int):=by omega
  have q3:(0:Int)≤((k+1:Nat):Int):=by omega
  have q4:((k+1:Nat):Int)≤((ol Q).length:Int):=by omega
  have hw:IntKind.i64.wrap ((k:Int)+1)=((k+1:Nat):Int):=by rw[nU _ (by omega) (by omega)];omega
  have n1:((((ol Q).take k).length:Nat):Int)<1000000:=by rw[List.length_take];omega
  have n2:((((ol Q).drop (k+1)).length:Nat):Int)<1000000:=by rw[List.length_drop];omega
  have e1:ol (Q.map (·.take k))=(ol Q).take k:=by cases Q<;>simp[ol]
  have e2:ol (Q.map (·.drop (k+1)))=(ol Q).drop (k+1):=by cases Q<;>simp[ol]
  by_cases hh:PT (ol Q) w.tagged.tag k
  ·have hh':(gx cZ (ol Q) (k:Int)).tagged.tag=w.tagged.tag:=hh
   obtain⟨LL,DN⟩:∃LL,(ol Q).take k++(ol Q).drop (k+1)=LL:=⟨_,rfl⟩
   by_cases hz:LL=[]
   ·have hT:((ol Q).take k).length=0:=by have:=congrArg List.length DN;rw[hz,List.length_append] at this;simp only[List.length_nil] at this;omega
    have hD:((ol Q).drop (k+1)).length=0:=by have:=congrArg List.length DN;rw[hz,List.length_append] at this;simp only[List.length_nil] at this;omega
    apply HF (.ret)
    ·simp only[ZG,seval,Bool.false_and,Prod.mk.injEq,JX,hI,h.Hx,bA,q0,q2,q3,q4,hw,bt hh',Int.toNat_natCast,iN,iO,To,Option.isSome_some,Option.map_some,Option.some.injEq,hT,hD,e1,e2];rfl
    ·exact .inl ⟨rfl,k,.v (.slice none 0 0),by simp only[E8,seval,hI]<;>rfl,.inl ⟨rfl,DN.trans hz⟩,by omega,hh,hj⟩
   have EA:(LL.length=0)=False:=eq_false fun h=>hz (List.length_eq_zero_iff.1 h)
   have n3:((LL.length:Nat):Int)<1000000:=by rw[← DN,List.length_append,List.length_take,List.length_drop];omega
   by_cases rG:k=0
   ·have hT:((ol Q).take k).length=0:=by rw[rG];rfl
    have hD:(ol Q).drop (k+1)=LL:=by rw[← DN,rG];rfl
    apply HF (.ret)
    ·simp only[ZG,seval,Bool.false_and,Prod.mk.injEq,JX,hI,h.Hx,bA,q0,q2,q3,q4,hw,bt hh',Int.toNat_natCast,iN,iO,To,Option.isSome_some,Option.map_some,Option.some.injEq,hT,hD,EA,qZ _ n3,e1,e2];rfl
    ·exact .inl ⟨rfl,k,_,by simp only[E8,seval,hI]<;>rfl,.inr ⟨_,rfl,by rw[DN];exact hz,by rw[DN];simp only[E8,seval]<;>rfl⟩,by omega,hh,hj⟩
   ·have hT:(((ol Q).take k).length=0)=False:=eq_false (by rw[List.length_take];omega)
    apply HF (.ret)
    ·simp only[ZG,seval,Bool.false_and,Prod.mk.injEq,JX,hI,h.Hx,bA,q0,q2,q3,q4,hw,bt hh',Int.toNat_natCast,iN,iO,To,Option.isSome_some,Option.map_some,Option.some.injEq,hT,qZ _ n1,Vu _ _ _ _ n1 n2,e1,e2];rfl
    ·exact .inl ⟨rfl,k,_,by simp only[E8,seval,hI]<;>rfl,.inr ⟨_,rfl,by rw[DN];exact hz,by simp only[E8,seval]<;>rfl⟩,by omega,hh,hj⟩
  ·have hh':¬(gx cZ (ol Q) (k:Int)).tagged.tag=w.tagged.tag:=hh
   apply Cx ((ol Q).length-(k+1))
   ·simp only[ZG,seval,Bool.false_and,Prod.mk.injEq,JX,hI,h.Hx,bA,q0,hw,bf hh'];rfl
   ·exact⟨k+1,by simp only[E8,seval,hI],fun j hj'=>(Nat.lt_succ_iff_lt_or_eq.1 hj').elim (hj j) fun e=>by subst e;exact hh,by omega,rfl⟩
 case start=>exact⟨0,by simp only[E8,seval]<;>rfl,fun j hj=>by omega,by omega,by omega⟩
 case rest =>
  rintro e st (⟨rfl,k,X,hI,hX,hk,hh,hj⟩|⟨rfl,hI,hj⟩)
  ·rcases hX with ⟨rfl,hz⟩|⟨g,rfl,hz,hg⟩
   ·have hfz:Flat (.agg (aT { t with iY:=.v (.slice none 0 0)})):=(uH _).2 ⟨pG.1,pG.2.1,pG.2.2.1,pG.2.2.2.1,pG.2.2.2.2.1,pG.2.2.2.2.2.1,pG.2.2.2.2.2.2.1,.v _,pG.2.2.2.2.2.2.2.2⟩
    simp only[ZG,seval,Bool.false_and,Prod.mk.injEq,JX,hI];exact⟨_,fN rfl (by simp only[bY,Z8,seval,hI]<;>rfl) (by simp only[bY,Z8,seval,hI]<;>rfl) (by simp only[bY,E8,seval,hI]<;>rfl) (eB (.agg _ (jR _))) (eB hfz) (by simp only[Z8,seval]<;>rfl),.inr ⟨k,hk,hh,hj,by rw[hz,show nz ([]:List Request)=none from if_pos rfl];rfl⟩⟩
   ·simp only[ZG,seval,Bool.false_and,Prod.mk.injEq,JX,hI,hg];exact⟨_,fN rfl (by simp only[bY,Z8,seval,hI]<;>rfl) (by simp only[bY,Z8,seval,hI]<;>rfl) (by simp only[bY,E8,seval,hI]<;>rfl) (eB (.agg _ (jR _))) (by simp only[Z8,seval,hI,hg,bP,vW,gG,bO,pJ,cS,eC,pG]<;>rfl) (by simp only[Z8,seval]<;>rfl),.inr ⟨k,hk,hh,hj,by rw[show nz ((ol Q).take k++(ol Q).drop (k+1))=some _ from if_neg hz];rfl⟩⟩
  ·simp only[ZG,seval,Bool.false_and,Prod.mk.injEq,JX,hI];exact⟨_,by apply fN;rfl;all_goals simp only[aH,bY,Z8,seval,hI,DK]<;>rfl,.inl ⟨hj,rfl⟩⟩
theorem aRZ (ns:List Node) (hu:gK ns) (hr:(nd ns 0).up=-1) (hn:(ns.length:Int)<1000000) (i:Int) (w:gW) (l:List Int) (hl:(l.length:Int)<1000000) (st:St) (a g:Nat) (d:Option Nat) (hh:st.heap a g=some (.row 3 1 l.length (aK l))) :
 fG (aB Tryz.prog) 222 [.agg (cO ⟨ns⟩),.v (.int .i64 i),.agg (dJ w),.own a g] st d=some { dst:=d,val:=VX ns i w l,dS:=some (a,g,none)}:=by
 rw[Qj (s:=a) (k:=g) (by rw[List.flatMap_cons,List.flatMap_cons,List.flatMap_cons,vT (mD _),vT (.v _),vT (.agg _ (jS w))];rfl) (by intro y hy;simp only[List.mem_cons,List.not_mem_nil,or_false] at hy;rcases hy with rfl|rfl|rfl|rfl;exact .inl (mD _);exact .inl (.v _);exact .inl (.agg _ (jS w));exact .inr (.inl ⟨a,g,rfl⟩)),
  List.map_cons,List.map_cons,List.map_cons,List.map_cons,List.map_nil,eB (mD _),eB (.v _),eB (.agg _ (jS w)),Tk hh,bM,bM,bM,bM,fY]
 exact OW (aP3 ns hu hr hn i w l hl (.inl rfl)) (G7 ns i w l)
theorem aR0 {t:State} {v:SV} {Q R:Option (List Request)} {q m:Int} (h:TI t v Q R q m) (w:gW) :
 ∃x,aB Tryz.prog 206 [.agg (aT t),.agg (dJ w)]=some x∧∃(t':State) (e:Int) (v':SV) (Q' R':Option (List Request)),x=.eG [.agg (aT t'),.v (.int .i64 e)]∧TI t' v' Q' R' q m:=by
 have hf:=h.td.flat
 have pG:=h.td.fl
 have fw:Flat (.agg (dJ w)):=.agg _ (jS w)
 have DK:Flat (.agg (aT lX)):=by simp only[eC,lX,fW,mS,Nl,Gd,Td,and_self]
 obtain⟨y,hy,⟨hj,rfl⟩|⟨k,hk,hh,hj,rfl⟩⟩:=x27 h.td w
 ·have k27:=kx hy (bF hf fw) (.eG _ (mE (.agg _ (jR _)) DK (.v _)))
  rw[cL Tryz.func206 rfl aFD rfl];simp only[Z8,seval,k27,dN];exact⟨_,by apply dK;rfl;all_goals simp only[aH,bY,Z8,seval,hf]<;>rfl,t,23,v,Q,R,rfl,h⟩
 obtain⟨r,er⟩:∃r,gx cZ (ol Q) (k:Int)=r:=⟨_,rfl⟩
 obtain⟨t1,et⟩:∃t1,({ t with iY:=ov aE (nz ((ol Q).take k++(ol Q).drop (k+1)))}:State)=t1:=⟨_,rfl⟩
 have hr:r.tagged.tag<t.dA:=by rw[← er];exact (h.tq.all _ (sH (by omega) (by omega))).2.1
 have h1:=h.less k
 rw[et] at h1;rw[er,et] at hy;have nt1:t1.dA=t.dA:=by rw[← et]
 have hf1:=h1.td.flat
 have PU:=h1.td.fl
 have k27:=kx hy (bF hf fw) (.eG _ (mE (.agg _ (jR _)) hf1 (.v _)))
 have hn:=h1.gi.sd.nn
 rw[cL Tryz.func206 rfl aFD rfl];by_cases g3:w.kind=3
 ·obtain⟨R',hR'⟩:=h1.Z4 (r:=r) (by rw[nt1];exact hr)
  have ff:=hR'.td.flat
  have k72:=kx (c72 h1.td r) (bF hf1 (.agg _ (jR _))) ff
  simp only[Z8,seval,k27,dN,bt g3,k72];exact⟨_,by apply dK;rfl;all_goals simp only[aH,bY,Z8,seval,ff]<;>rfl,_,0,v,_,R',rfl,hR'⟩
 by_cases g4:w.kind=4
 ·obtain⟨R',hR'⟩:=h1.Z4 (r:=r) (by rw[nt1];exact hr)
  have ff:=hR'.td.flat
  have k72:=kx (c72 h1.td r) (bF hf1 (.agg _ (jR _))) ff
  simp only[Z8,seval,k27,dN,bf g3,bt g4,k72];exact⟨_,by apply dK;rfl;all_goals simp only[aH,bY,Z8,seval,ff]<;>rfl,_,0,v,_,R',rfl,hR'⟩
 have HO:∀(st:St) (a g:Nat) (d:Option Nat),st.heap a g=some (.row 3 1 2 (aK [aN v.ns t1.store.aL.gI.root,aN v.ns t1.store.aL.fin.root]))→_:=fun st a g d hh=>aRZ v.ns h1.gi.up h1.gi.Xs hn (aN v.ns r.block) w [aN v.ns t1.store.aL.gI.root,aN v.ns t1.store.aL.fin.root] (by show ((2:Nat):Int)<_;omega) st a g d hh
 rcases aGY v.ns (aN v.ns r.block) w [aN v.ns t1.store.aL.gI.root,aN v.ns t1.store.aL.fin.root] with ⟨e,he,ej⟩|⟨Zr,hs,ej⟩
 ·rw[ej] at HO
  have hH:=h.halt true
  have fH:=hH.td.flat
  simp only[Z8,seval,k27,dN,bf g3,bf g4,Fx,h1.gi.sd.tree,mU _ _ hn,HO,bf he];exact⟨_,by apply dK;rfl;all_goals simp only[aH,bY,Z8,seval,fH]<;>rfl,_,21,v,Q,R,rfl,hH⟩
 rw[ej] at HO
 have Hu:(Zr.length:Int)<1000000:=by rw[hs.len];exact hn
 have fr:=eQ Zr t1.store.eE
 by_cases b0:0≤aN Zr t1.store.eE
 case neg =>
  have T:=h1.tree hs t1.store.eE
  have ft:=T.td.flat
  simp only[Z8,seval,k27,dN,bf g3,bf g4,Fx,h1.gi.sd.tree,mU _ _ hn,mU _ _ Hu,HO,b0];exact⟨_,by apply dK;rfl;all_goals simp only[aH,bY,Z8,seval,ft]<;>rfl,_,0,_,_,R,rfl,T⟩
 by_cases b1:(nd Zr (aN Zr t1.store.eE)).status=2
 case neg =>
  have T:=h1.tree hs t1.store.eE
  have ft:=T.td.flat
  simp only[Z8,seval,k27,dN,bf g3,bf g4,Fx,h1.gi.sd.tree,mU _ _ hn,mU _ _ Hu,HO,b0,fr.2,bf b1];exact⟨_,by apply dK;rfl;all_goals simp only[aH,bY,Z8,seval,ft]<;>rfl,_,0,_,_,R,rfl,T⟩
 have T:=h1.tree hs dR
 have ft:=T.td.flat
 simp only[Z8,seval,k27,dN,bf g3,bf g4,Fx,h1.gi.sd.tree,mU _ _ hn,mU _ _ Hu,HO,b0,fr.2,bt b1];exact⟨_,by apply dK;rfl;all_goals simp only[aH,bY,Z8,seval,ft]<;>rfl,_,0,_,_,R,rfl,T⟩
def aR2 (s:aM) (v:SV) (q:Int) (r:AV):Prop:=∃(s':aM) (R:Option (List cN)) (e:Int),r=.eG [.agg (aA s'),ov hU R,.v (.int .i64 e)]∧Flat (.agg (aA s'))∧((ol R).length:Int)≤70∧e≠21∧(e=0→∃v',GI s' v' q∧RG s' v'∧s'.cFg=s.cFg)
theorem aR3 {s:aM} {v:SV} {q:Int} (h:GI s v q) (r:RG s v) (b:Block) (rb:RB b∧Pr b.root):∃r,aB Tryz.prog 203 [.agg (aA s),.agg (aV b)]=some r∧aR2 s v q r:=by
 have hf:=h.sd.flat
 have pG:=h.sd.fl
 have hz:=Kl
 have XC:=k52 h.sd h.up h.sp
 have nO:=h.nO
 have OR:=h.OR
 have nn':=h.sd.nO
 rw[cL Tryz.func203 rfl aMC rfl];by_cases g1:Mh s v b=10
 ·by_cases g2:s.cFg.lJ.xB≤((ol v.O).length:Int)
  ·simp only[Z8,seval,XC,bt g1,h.sd.bL,g2];exact⟨_,by apply fN;rfl;all_goals simp only[aH,bY,Z8,seval,hz]<;>rfl,fW,none,11,rfl,hz,by simp[ol],by decide,fun h=>by cases h⟩
  ·have hw:=h.WI (some (ol v.O++[{ b with Gg:=false }])) (by show (((ol v.O++[{ b with Gg:=false }]).length:Nat):Int)≤s.cFg.lJ.xB;rw[List.length_append,List.length_cons,List.length_nil];omega)
   have hwr:=r.WI (some (ol v.O++[{ b with Gg:=false }])) (ov aF (some (ol v.O++[{ b with Gg:=false }]))) (fun c hc=>(List.mem_append.1 hc).elim (r.or c) fun e=>by rw[List.mem_singleton] at e;subst e;exact⟨⟨rb.1.sl,rb.1.j,rb.1.f,rb.1.pj,rb.1.pf⟩,rb.2⟩) (by simp)
   simp only[Z8,seval,XC,bt g1,h.sd.bL,g2,iV _ nn',HP _ _ _ _ nn'];exact⟨_,by apply fN;rfl;all_goals simp only[aH,bY,Z8,seval,bP,gG,bO,uM,cS,eC,pG]<;>rfl,_,none,0,rfl,hw.sd.flat,by simp[ol],by decide,fun _=>⟨_,hw,hwr,rfl⟩⟩
 by_cases g2:Mh s v b=0
 case neg =>
  simp only[Z8,seval,XC,bf g1,bf g2];exact⟨_,by apply fN;rfl;all_goals simp only[aH,bY,Z8,seval,hz]<;>rfl,fW,none,_,rfl,hz,by simp[ol],aGx _ _ _,fun h=>absurd h g2⟩
 have A3:=aMq h g2
 have aDc:=h.ins g2
 have aDd:=r.ins rb g2
 have hcf:=Cc s v b
 have hO1:=WK s v b
 cases g3:b.Gg
 · -- not timely
  have hG:GI (tA s v b) (lK s v b) q:=aDc
  have oL:RG (tA s v b) (lK s v b):=aDd
  have hC:((tA s v b)).cFg=s.cFg:=hcf.1
  have pS:=OO hG.sd
  simp only[Z8,seval,XC,bf g1,bt g2,A3,g3,pS];refine Qo (a:=Cf) (I6 s v q) (JP (by omega) (m:=(ol (lK s v b).O).length) ⟨(tA s v b),lK s v b,_,[b.root],66,0, ?start,.inl ⟨rfl,rfl⟩,.inl rfl,hG,oL,hC,by simp;omega,rfl⟩) ?rest
  case start =>
   rw[tC hG.sd];simp only[E8,seval,hU,List.flatMap_cons,List.flatMap_nil,List.append_nil]<;>rfl
  case rest =>
   rintro e st ⟨rfl,S0,w,X,R,a,g,hI,ha,hX,hG,oL,hC,hR⟩
   have Z5:(a=4)=False:=eq_false ha
   have aG0:=hG.sd.fl
   have hfo:=hG.sd.bL
   rcases hX with rfl|⟨g',L,hL,rfl,NF⟩
   ·rw[tC hG.sd] at hI;have Pf:=hG.sd.flat
    simp only[Z8,seval,hI];exact⟨_,by apply fN;rfl;all_goals simp only[aH,bY,Z8,seval,hI,Z5,Pf,wP]<;>rfl,S0,some R,0,rfl,Pf,by simp only[ol,Option.getD_some];omega,by decide,fun _=>⟨w,hG,oL,hC⟩⟩
   ·have hex:=fun st' hh=>Aj (O:=L) (a:=91) (g:=g') hG.sd st' hh
    have PU:mV S0 (ov aF (some L))=S0:=by rw[← hL];exact tC hG.sd
    rw[PU] at hex;simp only[Z8,seval,hI];exact⟨_,by apply fN;rfl;all_goals simp only[aH,bY,Z8,seval,hI,Z5,NF,hex,wP]<;>rfl,S0,some R,0,rfl,hG.sd.flat,by simp only[ol,Option.getD_some];omega,by decide,fun _=>⟨w,hG,oL,hC⟩⟩
 by_cases g4:b.slot=s.now
 case neg =>
  have hG:GI (tA s v b) (lK s v b) q:=aDc
  have oL:RG (tA s v b) (lK s v b):=aDd
  have hC:((tA s v b)).cFg=s.cFg:=hcf.1
  have pS:=OO hG.sd
  simp only[Z8,seval,XC,bf g1,bt g2,A3,g3,bf g4,pS];refine Qo (a:=Cf) (I6 s v q) (JP (by omega) (m:=(ol (lK s v b).O).length) ⟨(tA s v b),lK s v b,_,[b.root],66,0, ?start,.inl ⟨rfl,rfl⟩,.inl rfl,hG,oL,hC,by simp;omega,rfl⟩) ?rest
  case start =>
   rw[tC hG.sd];simp only[E8,seval,hU,List.flatMap_cons,List.flatMap_nil,List.append_nil]<;>rfl
  case rest =>
   rintro e st ⟨rfl,S0,w,X,R,a,g,hI,ha,hX,hG,oL,hC,hR⟩
   have Z5:(a=4)=False:=eq_false ha
   have aG0:=hG.sd.fl
   have hfo:=hG.sd.bL
   rcases hX with rfl|⟨g',L,hL,rfl,NF⟩
   ·rw[tC hG.sd] at hI;have Pf:=hG.sd.flat
    simp only[Z8,seval,hI];exact⟨_,by apply fN;rfl;all_goals simp only[aH,bY,Z8,seval,hI,Z5,Pf,wP]<;>rfl,S0,some R,0,rfl,Pf,by simp only[ol,Option.getD_some];omega,by decide,fun _=>⟨w,hG,oL,hC⟩⟩
   ·have hex:=fun st' hh=>Aj (O:=L) (a:=91) (g:=g') hG.sd st' hh
    have PU:mV S0 (ov aF (some L))=S0:=by rw[← hL];exact tC hG.sd
    rw[PU] at hex;simp only[Z8,seval,hI];exact⟨_,by apply fN;rfl;all_goals simp only[aH,bY,Z8,seval,hI,Z5,NF,hex,wP]<;>rfl,S0,some R,0,rfl,hG.sd.flat,by simp only[ol,Option.getD_some];omega,by decide,fun _=>⟨w,hG,oL,hC⟩⟩
 by_cases g5:s.eE=dR
 case neg =>
  have hG:GI (tA s v b) (lK s v b) q:=aDc
  have oL:RG (tA s v b) (lK s v b):=aDd
  have hC:((tA s v b)).cFg=s.cFg:=hcf.1
  have pS:=OO hG.sd
  simp only[Z8,seval,XC,bf g1,bt g2,A3,g3,bt g4,g5,pS];refine Qo (a:=Cf) (I6 s v q) (JP (by omega) (m:=(ol (lK s v b).O).length) ⟨(tA s v b),lK s v b,_,[b.root],66,0, ?start,.inl ⟨rfl,rfl⟩,.inl rfl,hG,oL,hC,by simp;omega,rfl⟩) ?rest
  case start =>
   rw[tC hG.sd];simp only[E8,seval,hU,List.flatMap_cons,List.flatMap_nil,List.append_nil]<;>rfl
  case rest =>
   rintro e st ⟨rfl,S0,w,X,R,a,g,hI,ha,hX,hG,oL,hC,hR⟩
   have Z5:(a=4)=False:=eq_false ha
   have aG0:=hG.sd.fl
   have hfo:=hG.sd.bL
   rcases hX with rfl|⟨g',L,hL,rfl,NF⟩
   ·rw[tC hG.sd] at hI;have Pf:=hG.sd.flat
    simp only[Z8,seval,hI];exact⟨_,by apply fN;rfl;all_goals simp only[aH,bY,Z8,seval,hI,Z5,Pf,wP]<;>rfl,S0,some R,0,rfl,Pf,by simp only[ol,Option.getD_some];omega,by decide,fun _=>⟨w,hG,oL,hC⟩⟩
   ·have hex:=fun st' hh=>Aj (O:=L) (a:=91) (g:=g') hG.sd st' hh
    have PU:mV S0 (ov aF (some L))=S0:=by rw[← hL];exact tC hG.sd
    rw[PU] at hex;simp only[Z8,seval,hI];exact⟨_,by apply fN;rfl;all_goals simp only[aH,bY,Z8,seval,hI,Z5,NF,hex,wP]<;>rfl,S0,some R,0,rfl,hG.sd.flat,by simp only[ol,Option.getD_some];omega,by decide,fun _=>⟨w,hG,oL,hC⟩⟩
 have hG:GI { tA s v b with eE:=b.root } (lK s v b) q:=aDc.eE b.root
 have oL:RG { tA s v b with eE:=b.root } (lK s v b):=aDd.eE b.root
 have hC:({ tA s v b with eE:=b.root }).cFg=s.cFg:=hcf.1
 have pS:=OO hG.sd
 simp only[Z8,seval,XC,bf g1,bt g2,A3,g3,bt g4,g5,pS];refine Qo (a:=Cf) (I6 s v q) (JP (by omega) (m:=(ol (lK s v b).O).length) ⟨{ tA s v b with eE:=b.root },lK s v b,_,[b.root],66,0, ?start,.inl ⟨rfl,rfl⟩,.inl rfl,hG,oL,hC,by simp;omega,rfl⟩) ?rest
 case start =>
  rw[tC hG.sd];simp only[E8,seval,hU,List.flatMap_cons,List.flatMap_nil,List.append_nil]<;>rfl
 case rest =>
  rintro e st ⟨rfl,S0,w,X,R,a,g,hI,ha,hX,hG,oL,hC,hR⟩
  have Z5:(a=4)=False:=eq_false ha
  have aG0:=hG.sd.fl
  have hfo:=hG.sd.bL
  rcases hX with rfl|⟨g',L,hL,rfl,NF⟩
  ·rw[tC hG.sd] at hI;have Pf:=hG.sd.flat
   simp only[Z8,seval,hI];exact⟨_,by apply fN;rfl;all_goals simp only[aH,bY,Z8,seval,hI,Z5,Pf,wP]<;>rfl,S0,some R,0,rfl,Pf,by simp only[ol,Option.getD_some];omega,by decide,fun _=>⟨w,hG,oL,hC⟩⟩
  ·have hex:=fun st' hh=>Aj (O:=L) (a:=91) (g:=g') hG.sd st' hh
   have PU:mV S0 (ov aF (some L))=S0:=by rw[← hL];exact tC hG.sd
   rw[PU] at hex;simp only[Z8,seval,hI];exact⟨_,by apply fN;rfl;all_goals simp only[aH,bY,Z8,seval,hI,Z5,NF,hex,wP]<;>rfl,S0,some R,0,rfl,hG.sd.flat,by simp only[ol,Option.getD_some];omega,by decide,fun _=>⟨w,hG,oL,hC⟩⟩
def PfR (q m:Int) (r:AV):Prop:=∃(t':State) (e:Int),r=.eG [.agg (aT t'),.v (.int .i64 e)]∧Flat (.agg (aT t'))∧(e=0∨e=21→∃v' Q' R',TI t' v' Q' R' (q+1000) (m+256))
theorem PV {t:State} (h:Flat (.agg (aT t))) {s':aM} (hs:Flat (.agg (aA s'))):Flat (.agg (aT { t with store:=s' })):=by
 obtain⟨_,_,_,_,_,_,_,h8,h9⟩:=(uH t).1 h
 obtain⟨h1,h2,h3,h4,h5,h6,h7⟩:=(Il s').1 hs
 exact (uH _).2 ⟨h1,h2,h3,h4,h5,h6,h7,h8,h9⟩
theorem aR4 {t:State} {v:SV} {Q R:Option (List Request)} {q m:Int} (h:TI t v Q R q m) (x:xY) (hx:pH x) (hp:x.kind=2→Pr x.block.root) (hq:q+1000≤900000) (hm:m+256≤100000) :
 ∃r,aB Tryz.prog 185 [.agg (aT t),.agg (lB x)]=some r∧PfR q m r:=by
 have hf:=h.td.flat
 have o0:=h.gi.sd.flat
 have UU:=hx.flat
 have aDe:=hx.fl
 have up:∀ {t':State} {v':SV} {Q' R':Option (List Request)} {q' m':Int},TI t' v' Q' R' q' m'→q'≤q+1000→m'≤m+256→∃v' Q' R',TI t' v' Q' R' (q+1000) (m+256):=fun g a b=>⟨_,_,_,g.mono a hq b hm⟩
 have nt:=h.nt
 have mB:=h.mB
 have lq:=h.lq
 have lr:=h.lr
 have rB:=h.aDb
 rw[cL Tryz.func185 rfl aMD rfl];by_cases k1:x.kind=1
 ·obtain⟨y,hy,s',e,rfl,UZ,ne,ho⟩:=aRK h.gi h.rg
  have k202:=kx hy (cV o0) (.eG _ (bF UZ (.v _)))
  have ft:=PV hf UZ
  by_cases e0:e=0
  ·obtain⟨v',g,r,c⟩:=ho e0
   have T0:=h.toTI0.store g r c
   have T1:=T0.drop
   have T2:=T1.due hm
   have k36:=kx (c36 T0.td) (cV ft) T1.td.flat
   have k74:=kx (c74 T1.td (by have:=T1.lq;have:=T1.lr;have:=T1.aDb;omega)) (cV T1.td.flat) T2.td.flat
   have ft2:=T2.td.flat
   simp only[Z8,seval,bt k1,k202,dN,bt e0,k36,k74];exact⟨_,by apply dK;rfl;all_goals simp only[aH,bY,Z8,seval,ft2]<;>rfl,_,e,rfl,ft2,fun _=>up T2 (by omega) (by omega)⟩
  ·simp only[Z8,seval,bt k1,k202,dN,bf e0];exact⟨_,by apply dK;rfl;all_goals simp only[aH,bY,Z8,seval,ft]<;>rfl,_,e,rfl,ft,fun h=>absurd h (by omega)⟩
 by_cases k2:x.kind=2
 ·obtain⟨y,hy,s',L,e,rfl,UZ,nL,ne,ho⟩:=aR3 h.gi h.rg x.block ⟨hx.rb,hp k2⟩
  have k203:=kx hy (bF o0 (tJ _)) (.eG _ (mE UZ (Iv L) (.v _)))
  have ft:=PV hf UZ
  by_cases e0:e=0
  ·obtain⟨v',g,r,c⟩:=ho e0
   have T0:=h.toTI0.store g r c
   have T1:=T0.drop
   have T2:=T1.open (ol L) (by omega) hm
   have k36:=kx (c36 T0.td) (cV ft) T1.td.flat
   have k32:∀(st:St) (d:Option Nat),fG (aB Tryz.prog) 32 _ st d=_:=fun st d=>Iw (bF T1.td.flat (Iv L)) (c32 T1.td L (by have:=T1.lq;omega)) T2.td.flat
   have ft2:=T2.td.flat
   simp only[Z8,seval,bf k1,bt k2,k203,dN,bt e0,k36,k32];exact⟨_,by apply dK;rfl;all_goals simp only[aH,bY,Z8,seval,ft2]<;>rfl,_,e,rfl,ft2,fun _=>up T2 (by omega) (by omega)⟩
  ·simp only[Z8,seval,bf k1,bt k2,k203,dN,bf e0];exact⟨_,by apply dK;rfl;all_goals simp only[aH,bY,Z8,seval,ft]<;>rfl,_,e,rfl,ft,fun h=>absurd h (by omega)⟩
 by_cases k3:x.kind=3
 ·obtain⟨V,hV,nV⟩:=hx.Hl
  obtain⟨y,hy,s',e,rfl,UZ,ne,ho⟩:=aQX h.gi h.rg x.Hl V hV (by omega)
  have k204:=kx hy (bF o0 ((Ah _).2 aDe.1)) (.eG _ (bF UZ (.v _)))
  have ft:=PV hf UZ
  have fin:e=0∨e=21→∃v' Q' R',TI { t with store:=s' } v' Q' R' (q+1000) (m+256):=fun he=>by
   obtain⟨v',g,r,c,en⟩:=ho (by omega)
   exact up ⟨h.toTI0.store g r c,by rw[en];exact h.Q6,by rw[en];exact h.Q7⟩ (by omega) (by omega)
  simp only[Z8,seval,bf k1,bf k2,bt k3,k204,dN];exact⟨_,by apply dK;rfl;all_goals simp only[aH,bY,Z8,seval,ft]<;>rfl,_,e,rfl,ft,fin⟩
 by_cases k4:x.kind=4
 ·obtain⟨V,hV,nV⟩:=hx.c1
  obtain⟨W,hW,nW⟩:=hx.c2
  obtain⟨y,hy,s',e,rfl,UZ,ne,ho⟩:=aQW h.gi h.rg x.oV V W hV hW nV nW hq
  have k205:=kx hy (bF o0 ((nC _).2 ⟨aDe.2.1,aDe.2.2.1⟩)) (.eG _ (bF UZ (.v _)))
  have ft:=PV hf UZ
  have fin:e=0∨e=21→∃v' Q' R',TI { t with store:=s' } v' Q' R' (q+1000) (m+256):=fun he=>by
   obtain⟨v',g,r,c,en⟩:=ho (by omega)
   exact up ⟨h.toTI0.store g r c,by rw[en];exact h.Q6,by rw[en];exact h.Q7⟩ (by omega) (by omega)
  simp only[Z8,seval,bf k1,bf k2,bf k3,bt k4,k205,dN];exact⟨_,by apply dK;rfl;all_goals simp only[aH,bY,Z8,seval,ft]<;>rfl,_,e,rfl,ft,fin⟩
 by_cases k5:x.kind=5
 ·have nT:=h.gi.nT
  have UX:=h.gi.UX
  obtain⟨y,hy,s',e,rfl,UZ,ne,ho⟩:=aK4 h.gi.sd (by omega) x.table hx.X9
  have aDf:=kx hy (bF o0 ((iE _).2 aDe.2.2.2)) (.eG _ (bF UZ (.v _)))
  have ft:=PV hf UZ
  have fin:e=0∨e=21→∃v' Q' R',TI { t with store:=s' } v' Q' R' (q+1000) (m+256):=fun he=>by
   obtain⟨o',rfl,nl,tb,sub,ne1,ne2⟩:=ho (by omega)
   have g:GI { t.store with tables:=ov aI o' } { v with T:=o' } q :=
    ⟨⟨h.gi.sd.iP,h.gi.sd.dU,h.gi.sd.gN,h.gi.sd.early,h.gi.sd.bL,h.gi.sd.tree,rfl,h.gi.sd.eV,tb,h.gi.sd.nB,h.gi.sd.nL,h.gi.sd.nQ,h.gi.sd.nE,h.gi.sd.nO,by show ((ol o').length:Int)<_;omega,h.gi.sd.nn⟩,h.gi.up,h.gi.Xs,h.gi.pos,h.gi.nl,h.gi.WH,h.gi.jH,h.gi.OQ,h.gi.nB,h.gi.nO,h.gi.OR,h.gi.nE,h.gi.UW,by show ((ol o').length:Int)≤t.store.cFg.lJ.qC;omega,h.gi.UX,h.gi.nQ,h.gi.U6,h.gi.gI⟩
   have r:RG { t.store with tables:=ov aI o' } { v with T:=o' }:=⟨h.rg.now,h.rg.j,h.rg.f,h.rg.nd,h.rg.or,h.rg.rt,h.rg.fe,h.rg.ds,by obtain⟨tb,h1,h2⟩:=h.rg.tb;exact⟨tb,sub h1,h2⟩,⟨h.rg.ne.q,h.rg.ne.e,h.rg.ne.o,ne1,h.rg.ne.ea,fun x hx=>(ne2 x hx).elim (h.rg.ne.tb x) fun ⟨B,h1,h2⟩=>⟨B,h1,fun e=>by have h3:=h.iP.1;rw[e] at h2;simp at h2;omega⟩⟩⟩
   exact up ⟨h.toTI0.store g r rfl,h.Q6,h.Q7⟩ (by omega) (by omega)
  simp only[Z8,seval,bf k1,bf k2,bf k3,bf k4,bt k5,aDf,dN];exact⟨_,by apply dK;rfl;all_goals simp only[aH,bY,Z8,seval,ft]<;>rfl,_,e,rfl,ft,fin⟩
 by_cases k6:x.kind=6
 ·obtain⟨y,hy,t',e,v',Q',R',rfl,g⟩:=aR0 h x.verdict
  have k206:=kx hy (bF hf (.agg _ (jS _))) (.eG _ (bF g.td.flat (.v _)))
  have ft:=g.td.flat
  simp only[Z8,seval,bf k1,bf k2,bf k3,bf k4,bf k5,bt k6,k206,dN];exact⟨_,by apply dK;rfl;all_goals simp only[aH,bY,Z8,seval,ft]<;>rfl,_,e,rfl,ft,fun _=>up g (by omega) (by omega)⟩
 simp only[Z8,seval,bf k1,bf k2,bf k3,bf k4,bf k5,bf k6];exact⟨_,by apply dK;rfl;all_goals simp only[aH,bY,Z8,seval,hf]<;>rfl,t,2,rfl,hf,fun h=>absurd h (by omega)⟩
theorem aR6 {t:State} {v:SV} {Q R:Option (List Request)} {q m:Int} (h:TI t v Q R q m) (x:xY) (hx:pH x) (hp:x.kind=2→Pr x.block.root) (hq:q+1000≤900000) (hm:m+256≤100000) :
 ∃r,aB Tryz.prog 147 [.agg (aT t),.agg (lB x)]=some r∧∃(t':State) (y:AV) (e:Int) (v':SV) (Q' R':Option (List Request)),r=.eG [.agg (aT t'),y,.v (.int .i64 e)]∧Flat y∧TI t' v' Q' R' (q+1000) (m+256):=by
 have hf:=h.td.flat
 have UU:=hx.flat
 have h':=h.mono (q':=q+1000) (m':=m+256) (by omega) hq (by omega) hm
 obtain⟨y1,hy1,e1,rfl⟩:=aRh x hx
 have aDg:=kx hy1 (cV UU) (.v _)
 obtain⟨y2,hy2,t2,e2,rfl,ft2,ho⟩:=aR4 h x hx hp hq hm
 have aG1:=kx hy2 (bF hf UU) (.eG _ (bF ft2 (.v _)))
 rw[cL Tryz.func147 rfl aMF rfl];cases g0:t.halted
 case true =>
  simp only[Z8,seval,g0];exact⟨_,by apply fN;rfl;all_goals simp only[aH,bY,Z8,seval,hf]<;>rfl,t,_,22,v,Q,R,rfl,.v _,h'⟩
 by_cases g1:e1=0
 case neg =>
  simp only[Z8,seval,g0,aDg,bf g1];exact⟨_,by apply fN;rfl;all_goals simp only[aH,bY,Z8,seval,hf]<;>rfl,t,_,e1,v,Q,R,rfl,.v _,h'⟩
 by_cases g2:e2=21
 ·obtain⟨v',Q',R',T⟩:=ho (.inr g2)
  simp only[Z8,seval,g0,aDg,bt g1,aG1,dN,bt g2];exact⟨_,by apply fN;rfl;all_goals simp only[aH,bY,Z8,seval,ft2]<;>rfl,t2,_,e2,v',Q',R',rfl,.v _,T⟩
 by_cases g3:e2=0
 case neg =>
  simp only[Z8,seval,g0,aDg,bt g1,aG1,dN,bf g2,bf g3];exact⟨_,by apply fN;rfl;all_goals simp only[aH,bY,Z8,seval,hf]<;>rfl,t,_,e2,v,Q,R,rfl,.v _,h'⟩
 obtain⟨v',Q',R',T⟩:=ho (.inl g3)
 obtain⟨y3,hy3,b,c,y,rfl,fy⟩:=aLM t2 ft2 T.gi
 have T':=T.emit b c
 have ft3:=T'.td.flat
 have aG2:=kx hy3 (cV ft2) (.eG _ (bF ft3 fy))
 simp only[Z8,seval,g0,aDg,bt g1,aG1,dN,bf g2,bt g3,aG2];exact⟨_,fN rfl (by simp only[bY,Z8,seval]<;>rfl) (by simp only[bY,Z8,seval]<;>rfl) (by simp only[bY,E8,seval]<;>rfl) (eB ft3) (eB fy) (eB (.v _)),_,y,0,v',Q',R',rfl,fy,T'⟩
theorem xJ (n:Int):(mkRoot n)[0]=IntKind.u8.wrap n:=by
 simp[mkRoot]
theorem Ja {n:Int} (h0:0≤n) (h1:n<256):IntKind.u8.wrap n=n:=by
 simp only[IntKind.wrap,IntKind.bits,IntKind.signed];simp
 omega
theorem aFE {n:Int} (h0:1≤n) (h1:n≤98):Pr (mkRoot n):=by
 refine⟨fun e=>?_,fun e=>?_⟩
 ·have e1:IntKind.u8.wrap n=dR[0]:=by rw[← xJ,e]
  rw[Ja (by omega) (by omega),show dR[0]=0 from rfl] at e1
  omega
 ·have e1:IntKind.u8.wrap n=IntKind.u8.wrap 99:=by rw[← xJ,← xJ,e]
  rw[Ja (by omega) (by omega),Ja (by omega) (by omega)] at e1
  omega
theorem RG.new {c:Config} {b:List Int} (h:Ix c b):RG (yV c b) (Bj c b):=by
 have hg:Pr c.cX:=by rw[h.gen];exact aFE (by omega) (by omega)
 have z:Rg 0:=z8
 refine⟨⟨by show (0:Int)≤0;omega,by show (0:Int)≤_;omega⟩,z,z,fun n hn=>?_,(fun o ho=>by cases ho),fun n hn=>?_,⟨by show (0:Int)≤0;omega, ?_⟩, ?_, ?_, ?_⟩
 ·rw[show n=⟨OY c,-1,1⟩ from List.mem_singleton.1 hn];exact⟨⟨z,z,z,z,z⟩,by show (0:Int)≤0;omega⟩
 ·rw[show n=⟨OY c,-1,1⟩ from List.mem_singleton.1 hn];exact hg
 ·show (0:Int)≤IntKind.u64.wrap (Int.tdiv 0 c.jH)
  rw[Int.zero_tdiv];decide
 ·show ([c.cX]:List cN).Nodup
  simp
 ·exact⟨⟨⟨0,c.cX⟩,ov bI (some b)⟩,List.mem_singleton.2 rfl,rfl⟩
 ·exact⟨nofun,nofun,nofun,by simp[Bj],(fun a ha=>by cases ha),fun t ht=>⟨b,by rw[show t=⟨⟨0,c.cX⟩,ov bI (some b)⟩ from List.mem_singleton.1 ht],fun e=>by have:=h.nb.1;rw[e] at this;simp at this⟩⟩
def Z6 (c:Config) (b:List Int):State:={ lX with store:=yV c b,dA:=1 }
theorem TI.new {c:Config} {b:List Int} (h:Ix c b):TI (Z6 c b) (Bj c b) none none 0 0:=by
 have g:=GI.new h
 have r:=RG.new h
 have hr:=h.oI
 exact⟨⟨⟨g.sd,rfl,rfl,by show ((0:Nat):Int)<_;omega,by show ((0:Nat):Int)<_;omega⟩,g,r,⟨b,h⟩,⟨by show (1:Int)≤1;omega,(fun r hr=>by cases hr),List.Pairwise.nil⟩,⟨(fun r hr=>by cases hr),List.Pairwise.nil⟩,by show (1:Int)≤1+0;omega,by show ((0:Nat):Int)≤0;omega,by show ((0:Nat):Int)≤c.lJ.oI;omega,by omega,nofun,nofun⟩,(fun r hr=>by cases hr),(fun r hr=>by cases hr)⟩
theorem aR7 {c:Config} {b:List Int} (h:Ix c b):∃r,aB Tryz.prog 144 [.agg (bW c)]=some r∧∃(Nn:Bool) (last:Command) (y:AV),r=.eG [.agg (aT { Z6 c b with Nn:=Nn,last:=last }),y,.v (.int .i64 0)]∧Flat y:=by
 have T:=TI.new h
 have fc:Flat (.agg (bW c)):=(zH c).2 (by rw[h.iP];exact dV _)
 have fs:=T.gi.sd.flat
 have aG3:=kx (aLQ h) (cV fc) (.eG _ (bF fs (.v _)))
 obtain⟨y3,hy3,s,l,y,rfl,fy⟩:=aLM (Z6 c b) T.td.flat T.gi
 have ft3:=(T.emit s l).td.flat
 have aG2:=kx hy3 (cV T.td.flat) (.eG _ (bF ft3 fy))
 have eb:({ lX with store:=yV c b,dA:=1 }:State)=Z6 c b:=rfl
 rw[cL Tryz.func144 rfl aMI rfl];simp only[Z8,seval,aG3,dN,eb,aG2];exact⟨_,fN rfl (by simp only[bY,Z8,seval]<;>rfl) (by simp only[bY,Z8,seval]<;>rfl) (by simp only[bY,E8,seval]<;>rfl) (eB ft3) (eB fy) (eB (.v _)),s,l,y,rfl,fy⟩
def Nx (l:List xY):List AV:=l.flatMap lB
theorem Z7 (x:xY):yW 190 446 720 (some (1,lB x))=some (none,.row 190 446 [x].length (Nx [x])):=by simp[yW,maxLen,Nx]
theorem Z9 (l:List xY) (x:xY) (s g:Nat) (h:(l.length:Int)<1000000):yL 190 446 720 (some (.row 190 446 l.length (Nx l))) s g (some (1,lB x))=some (some (s,g),.row 190 446 (l++[x]).length (Nx (l++[x]))):=by
 simp only[yL];rw[if_pos ⟨by simp,trivial,trivial,by omega,by simp only[maxLen];omega⟩]
 simp[Nx,List.flatMap_append]
theorem Tp (l:List xY) (h:∀y∈l,pH y):∀x∈Nx l,Flat x:=by
 intro x hx;obtain⟨y,hm,hy⟩:=List.mem_flatMap.1 hx
 have hf:=(h y hm).flat
 cases hf with
 | agg _ hc=>exact hc x hy
theorem aFF (n:Nat) (l:List xY) (h:∀y∈l,pH y):jI (some (.row 190 446 n (Nx l)))=some (.sl n (Nx l)):=by
 unfold jI;simp only;rw[if_pos (Tp l h)]
theorem x75 (l:List Int) (hl:(l.length:Int)≤9223372036854775807):∃r,aB Tryz.prog 75 [.sl l.length (aK l)]=some r∧∃(c:Config) (X:AV) (t:State) (v:SV) (Q R:Option (List Request)),r=.eG [.agg (bW c),X,.agg (aT t)]∧Flat (.agg (bW c))∧Flat X∧TI t v Q R 24000 6144:=by
 obtain⟨y1,hy1,c,b,rfl,hc⟩:=aRT l hl
 have fc:Flat (.agg (bW c)):=(zH c).2 (by rw[hc.iP];exact dV _)
 have aDh:∀(st:St) (d:Option Nat),fG (aB Tryz.prog) 101 _ st d=_:=fun st d=>Iw (cV (Sw l)) hy1 fc
 obtain⟨y2,hy2,Nn,last,y,rfl,fy⟩:=aR7 hc
 have T0:=(TI.new hc).emit Nn last
 have k144:=kx hy2 (cV fc) (.eG _ (mE T0.td.flat fy (.v _)))
 have k16:=Ps l hl 16 (by omega) (by omega)
 have k17:=Ps l hl 17 (by omega) (by omega)
 have n0:=(Ie l hl 16 (by omega) (by omega)).2.1
 obtain⟨n1,n2⟩:=cP (n:=25) n0 (by omega)
 obtain⟨N,hN⟩:∃N,(Lr l 16).tmod 25=N:=⟨_,rfl⟩
 rw[hN] at n1 n2;rw[cG Tryz.func75 rfl aR8 (by kernel_rfl) rfl]
 have body:∀(M:Int),0≤M→M≤24→∀st:St,(st.env 0=.sl l.length (aK l)∧st.env 2=.ptr 2 0 0∧st.heap 2 0=some (.cells (bW mS))∧st.env 4=.ptr 4 0 0∧st.heap 4 0=some (.cells (aT lX))∧st.env 5=.ptr 5 0 0∧st.heap 5 0=some (.cells (bW c))∧st.env 6=.ptr 6 0 0∧st.heap 6 0=some (.cells (aT { Z6 c b with Nn:=Nn,last:=last }))∧st.env 9=.v (.slice none 0 0)∧st.env 10=.v (.int .i64 M)∧st.env 11=.v (.int .i64 0))→∃e st',xE Tryz.prog true (kU (Tryz.f75.body.getD .skip)) st=some (e,st')∧(e=.exit 0∧∃(t:State) (v:SV) (Q R:Option (List Request)),(st'.env 2=.ptr 2 0 0∧st'.heap 2 0=some (.cells (bW mS))∧st'.env 4=.ptr 4 0 0∧st'.heap 4 0=some (.cells (aT lX))∧st'.env 5=.ptr 5 0 0∧st'.heap 5 0=some (.cells (bW c))∧st'.env 6=.ptr 6 0 0∧st'.heap 6 0=some (.cells (aT t)))∧(st'.env 9=.v (.slice none 0 0)∨∃(L:List xY) (g:Nat),st'.env 9=.own 48 g∧st'.heap 48 g=some (.row 190 446 L.length (Nx L))∧∀y∈L,pH y)∧TI t v Q R 24000 6144):=by
  intro M hM0 hM1 st hs;suffices key:∃r,cT (xE Tryz.prog true (kU (Tryz.f75.body.getD .skip)) st) some=some r∧(r.1=.exit 0∧∃(t:State) (v:SV) (Q R:Option (List Request)),(r.2.env 2=.ptr 2 0 0∧r.2.heap 2 0=some (.cells (bW mS))∧r.2.env 4=.ptr 4 0 0∧r.2.heap 4 0=some (.cells (aT lX))∧r.2.env 5=.ptr 5 0 0∧r.2.heap 5 0=some (.cells (bW c))∧r.2.env 6=.ptr 6 0 0∧r.2.heap 6 0=some (.cells (aT t)))∧(r.2.env 9=.v (.slice none 0 0)∨∃(L:List xY) (g:Nat),r.2.env 9=.own 48 g∧r.2.heap 48 g=some (.row 190 446 L.length (Nx L))∧∀y∈L,pH y)∧TI t v Q R 24000 6144) by
   obtain⟨r,h,hq⟩:=key
   cases hx:xE Tryz.prog true (kU (Tryz.f75.body.getD .skip)) st with
   | none=>rw[hx] at h;cases h
   | some y=>rw[hx] at h;simp only[cF,Option.some.injEq] at h;subst h;exact⟨y.1,y.2,rfl,hq⟩
  simp only[Tryz.f75,Option.getD_some,kU];refine kS (fun m st=>∃(k:Nat) (t:State) (v:SV) (Q R:Option (List Request)),(st.env 0=.sl l.length (aK l)∧st.env 2=.ptr 2 0 0∧st.heap 2 0=some (.cells (bW mS))∧st.env 4=.ptr 4 0 0∧st.heap 4 0=some (.cells (aT lX))∧st.env 5=.ptr 5 0 0∧st.heap 5 0=some (.cells (bW c))∧st.env 6=.ptr 6 0 0∧st.heap 6 0=some (.cells (aT t))∧st.env 10=.v (.int .i64 M)∧st.env 11=.v (.int .i64 k))∧(st.env 9=.v (.slice none 0 0)∨∃(L:List xY) (g:Nat),(st.env 9=.own 48 g∧st.heap 48 g=some (.row 190 446 L.length (Nx L)))∧g<st.aU 48∧(∀y∈L,pH y)∧L.length≤k)∧TI t v Q R (1000 * k) (256 * k)∧(k:Int)≤M∧m=(M-k).toNat)
   (fun e st=>e=.exit 0∧∃(t:State) (v:SV) (Q R:Option (List Request)),(st.env 2=.ptr 2 0 0∧st.heap 2 0=some (.cells (bW mS))∧st.env 4=.ptr 4 0 0∧st.heap 4 0=some (.cells (aT lX))∧st.env 5=.ptr 5 0 0∧st.heap 5 0=some (.cells (bW c))∧st.env 6=.ptr 6 0 0∧st.heap 6 0=some (.cells (aT t)))∧(st.env 9=.v (.slice none 0 0)∨∃(L:List xY) (g:Nat),st.env 9=.own 48 g∧st.heap 48 g=some (.row 190 446 L.length (Nx L))∧∀y∈L,pH y)∧TI t v Q R 24000 6144) M.toNat ?step ?start ?rest
  case start=>exact⟨0,_,_,_,_,⟨hs.1,hs.2.1,hs.2.2.1,hs.2.2.2.1,hs.2.2.2.2.1,hs.2.2.2.2.2.1,hs.2.2.2.2.2.2.1,hs.2.2.2.2.2.2.2.1,hs.2.2.2.2.2.2.2.2.1,hs.2.2.2.2.2.2.2.2.2.2.1,hs.2.2.2.2.2.2.2.2.2.2.2⟩,.inl hs.2.2.2.2.2.2.2.2.2.1,T0,by omega,by omega⟩
  case rest=>exact fun e st h=>⟨_,rfl,h⟩
  case step =>
   clear hs
   rintro m st ⟨k,t,v,Q,R,hI,hX,T,hk,hm⟩
   by_cases bA:(k:Int)<M
   case neg =>
    have hX':st.env 9=.v (.slice none 0 0)∨∃(L:List xY) (g:Nat),st.env 9=.own 48 g∧st.heap 48 g=some (.row 190 446 L.length (Nx L))∧∀y∈L,pH y:=hX.imp id fun ⟨L,g,h1,_,h3,_⟩=>⟨L,g,h1.1,h1.2,h3⟩
    apply HF (.exit 0)
    ·simp only[ZG,seval,Bool.false_and,Prod.mk.injEq,AH,hI,bA];rfl
    ·exact⟨rfl,t,v,Q,R,by simp only[E8,seval,hI],by simpa only[E8,seval] using hX',T.mono (by omega) (by omega) (by omega) (by omega)⟩
   have hw:IntKind.i64.wrap ((k:Int)+1)=((k+1:Nat):Int):=by rw[nU _ (by omega) (by omega)];omega
   obtain⟨j,hj⟩:∃j:Int,j=18+(k:Int):=⟨_,rfl⟩
   have hwj:IntKind.i64.wrap (18+(k:Int))=j:=by rw[nU _ (by omega) (by omega),hj]
   obtain⟨n,hn⟩:∃n:Int,n=10+(k:Int):=⟨_,rfl⟩
   have hwn:IntKind.i64.wrap (10+(k:Int))=n:=by rw[nU _ (by omega) (by omega),hn]
   have kj:=Ps l hl j (by omega) (by omega)
   have j0:=(Ie l hl j (by omega) (by omega)).2.1
   have op:∀z:Int,0≤z→∃(y:xY) (t':State) (w:AV) (e:Int) (v':SV) (Q' R':Option (List Request)),(∀(st:St) (d:Option Nat),aO (aB Tryz.prog) 146 [.agg (aT t),.v (.int .i64 n),.v (.int .i64 z)] st d=some { dst:=d,val:=.agg (lB y)})∧(∀(st:St) (d:Option Nat),aO (aB Tryz.prog) 147 [.agg (aT t),.agg (lB y)] st d=some { dst:=d,val:=.eG [.agg (aT t'),w,.v (.int .i64 e)]})∧pH y∧TI t' v' Q' R' (1000 * ((k+1:Nat):Int)) (256 * ((k+1:Nat):Int)):=by
    intro z hz;obtain⟨y3,hy3,o,rfl,ho,hr⟩:=aRQ T.td T.gi T.rg T.iP (fun r hr=>by obtain⟨h1,h2,_⟩:=T.tq.all r hr;have:=T.nt;exact⟨by omega,by omega⟩) n z hz
    have hp:o.kind=2→Pr o.block.root:=fun h2=>by
     rcases hr h2 with h|⟨a,ha,h⟩
     ·rw[h];exact aFE (by omega) (by omega)
     ·rw[h];exact T.rg.rt a ha
    obtain⟨y4,hy4,t',w,e,v',Q',R',rfl,fw,T'⟩:=aR6 T o ho hp (by omega) (by omega)
    exact⟨o,t',w,e,v',Q',R',kx hy3 (mE T.td.flat (.v _) (.v _)) ho.flat,kx hy4 (bF T.td.flat ho.flat) (.eG _ (mE T'.td.flat fw (.v _))),ho,T'.mono (by omega) (by omega) (by omega) (by omega)⟩
   by_cases k0:(k:Int)=0
   ·obtain⟨o,t',w,e,v',Q',R',aAa,aAb,ho,T'⟩:=op 0 (by omega)
    rcases hX with hX|⟨L,g,hX,hg,hL,hLk⟩
    ·apply Cx ((M-((k+1:Nat):Int)).toNat)
     ·simp only[ZG,seval,Bool.false_and,Prod.mk.injEq,AH,hI,hX,bA,hwj,kj,bt k0,hwn,aAa,Z7,aAb,dN,hw];rfl
     ·exact⟨k+1,t',v',Q',R',by simp only[E8,seval,hI],.inr ⟨[o],_,⟨by simp only[E8,seval]<;>rfl,by simp only[E8,seval]<;>rfl⟩,by simp only[E8,seval]<;>omega,(fun y hy=>by rw[List.mem_singleton] at hy;rw[hy];exact ho),by simp⟩,T',by omega,rfl⟩
    ·have nL:(L.length:Int)<1000000:=by omega
     have vA:(g=st.aU 48)=False:=eq_false (by omega)
     apply Cx ((M-((k+1:Nat):Int)).toNat)
     ·simp only[ZG,seval,Bool.false_and,Prod.mk.injEq,AH,hI,hX,vA,bA,hwj,kj,bt k0,hwn,aAa,Z9 _ _ _ _ nL,aAb,dN,hw];rfl
     ·exact⟨k+1,t',v',Q',R',by simp only[E8,seval,hI],.inr ⟨L++[o],_,⟨by simp only[E8,seval]<;>rfl,by simp only[E8,seval]<;>rfl⟩,by simp only[E8,seval]<;>omega,(fun y hy=>(List.mem_append.1 hy).elim (hL y) fun h=>by rw[List.mem_singleton] at h;rw[h];exact ho),by rw[List.length_append,List.length_cons,List.length_nil];omega⟩,T',by omega,rfl⟩
   ·obtain⟨o,t',w,e,v',Q',R',aAa,aAb,ho,T'⟩:=op (Lr l j) j0
    rcases hX with hX|⟨L,g,hX,hg,hL,hLk⟩
    ·apply Cx ((M-((k+1:Nat):Int)).toNat)
     ·simp only[ZG,seval,Bool.false_and,Prod.mk.injEq,AH,hI,hX,bA,hwj,kj,bf k0,hwn,aAa,Z7,aAb,dN,hw];rfl
     ·exact⟨k+1,t',v',Q',R',by simp only[E8,seval,hI],.inr ⟨[o],_,⟨by simp only[E8,seval]<;>rfl,by simp only[E8,seval]<;>rfl⟩,by simp only[E8,seval]<;>omega,(fun y hy=>by rw[List.mem_singleton] at hy;rw[hy];exact ho),by simp⟩,T',by omega,rfl⟩
    ·have nL:(L.length:Int)<1000000:=by omega
     have vA:(g=st.aU 48)=False:=eq_false (by omega)
     apply Cx ((M-((k+1:Nat):Int)).toNat)
     ·simp only[ZG,seval,Bool.false_and,Prod.mk.injEq,AH,hI,hX,vA,bA,hwj,kj,bf k0,hwn,aAa,Z9 _ _ _ _ nL,aAb,dN,hw];rfl
     ·exact⟨k+1,t',v',Q',R',by simp only[E8,seval,hI],.inr ⟨L++[o],_,⟨by simp only[E8,seval]<;>rfl,by simp only[E8,seval]<;>rfl⟩,by simp only[E8,seval]<;>omega,(fun y hy=>(List.mem_append.1 hy).elim (hL y) fun h=>by rw[List.mem_singleton] at h;rw[h];exact ho),by rw[List.length_append,List.length_cons,List.length_nil];omega⟩,T',by omega,rfl⟩
 by_cases g1:0<(Lr l 17).tmod 4
 ·simp only[ZG,seval,Bool.false_and,Prod.mk.injEq,AH,aDh,k144,dN,k16,hN,k17,g1];refine Kq (a:=kU (Tryz.f75.body.getD .skip)) (fun e st'=>e=.exit 0∧∃(t:State) (v:SV) (Q R:Option (List Request)),(st'.env 2=.ptr 2 0 0∧st'.heap 2 0=some (.cells (bW mS))∧st'.env 4=.ptr 4 0 0∧st'.heap 4 0=some (.cells (aT lX))∧st'.env 5=.ptr 5 0 0∧st'.heap 5 0=some (.cells (bW c))∧st'.env 6=.ptr 6 0 0∧st'.heap 6 0=some (.cells (aT t)))∧(st'.env 9=.v (.slice none 0 0)∨∃(L:List xY) (g:Nat),st'.env 9=.own 48 g∧st'.heap 48 g=some (.row 190 446 L.length (Nx L))∧∀y∈L,pH y)∧TI t v Q R 24000 6144) (body 24 (by omega) (by omega) _ (by simp only[E8,seval]<;>rfl)) ?rest
  rintro e st ⟨rfl,t,v,Q,R,hI,hX|⟨L,g,hX,hh,hL⟩,T⟩
  ·have ft:=T.td.flat
   simp only[ZG,seval,Bool.false_and,Prod.mk.injEq,AH,hI,hX];exact⟨_,fN rfl (by simp only[bY,Z8,seval,hI]<;>rfl) (by simp only[bY,Z8,seval,hX]<;>rfl) (by simp only[bY,Z8,seval,hI]<;>rfl) (eB fc) (eB (.v _)) (eB ft),c,_,t,v,Q,R,rfl,fc,.v _,T⟩
  ·have ft:=T.td.flat
   have ex:=aFF L.length L hL
   simp only[ZG,seval,Bool.false_and,Prod.mk.injEq,AH,hI,hX,hh];exact⟨_,fN rfl (by simp only[bY,Z8,seval,hI]<;>rfl) (by simp only[bY,Z8,seval,hX]<;>rfl) (by simp only[bY,Z8,seval,hI]<;>rfl) (eB fc) (by simp only[Z8,seval,hh,ex]<;>rfl) (eB ft),c,_,t,v,Q,R,rfl,fc,.sl _ _ (Tp L hL),T⟩
 ·simp only[ZG,seval,Bool.false_and,Prod.mk.injEq,AH,aDh,k144,dN,k16,hN,k17,g1];refine Kq (a:=kU (Tryz.f75.body.getD .skip)) (fun e st'=>e=.exit 0∧∃(t:State) (v:SV) (Q R:Option (List Request)),(st'.env 2=.ptr 2 0 0∧st'.heap 2 0=some (.cells (bW mS))∧st'.env 4=.ptr 4 0 0∧st'.heap 4 0=some (.cells (aT lX))∧st'.env 5=.ptr 5 0 0∧st'.heap 5 0=some (.cells (bW c))∧st'.env 6=.ptr 6 0 0∧st'.heap 6 0=some (.cells (aT t)))∧(st'.env 9=.v (.slice none 0 0)∨∃(L:List xY) (g:Nat),st'.env 9=.own 48 g∧st'.heap 48 g=some (.row 190 446 L.length (Nx L))∧∀y∈L,pH y)∧TI t v Q R 24000 6144) (body N (by omega) (by omega) _ (by simp only[E8,seval]<;>rfl)) ?OT
  rintro e st ⟨rfl,t,v,Q,R,hI,hX|⟨L,g,hX,hh,hL⟩,T⟩
  ·have ft:=T.td.flat
   simp only[ZG,seval,Bool.false_and,Prod.mk.injEq,AH,hI,hX];exact⟨_,fN rfl (by simp only[bY,Z8,seval,hI]<;>rfl) (by simp only[bY,Z8,seval,hX]<;>rfl) (by simp only[bY,Z8,seval,hI]<;>rfl) (eB fc) (eB (.v _)) (eB ft),c,_,t,v,Q,R,rfl,fc,.v _,T⟩
  ·have ft:=T.td.flat
   have ex:=aFF L.length L hL
   simp only[ZG,seval,Bool.false_and,Prod.mk.injEq,AH,hI,hX,hh];exact⟨_,fN rfl (by simp only[bY,Z8,seval,hI]<;>rfl) (by simp only[bY,Z8,seval,hX]<;>rfl) (by simp only[bY,Z8,seval,hI]<;>rfl) (eB fc) (by simp only[Z8,seval,hh,ex]<;>rfl) (eB ft),c,_,t,v,Q,R,rfl,fc,.sl _ _ (Tp L hL),T⟩
theorem x24 (l:List Int) (hl:(l.length:Int)≤9223372036854775807):∃(t:State) (v:SV) (Q R:Option (List Request)),aB Tryz.prog 24 [.sl l.length (aK l)]=some (.agg (aT t))∧TI t v Q R 24000 6144:=by
 suffices h:∃r,aB Tryz.prog 24 [.sl l.length (aK l)]=some r∧∃(t:State) (v:SV) (Q R:Option (List Request)),r=.agg (aT t)∧TI t v Q R 24000 6144 by
  obtain⟨r,h,t,v,Q,R,rfl,T⟩:=h
  exact⟨t,v,Q,R,h,T⟩
 obtain⟨y,hy,c,X,t,v,Q,R,rfl,fc,fX,T⟩:=x75 l hl
 have ft:=T.td.flat
 have k75:=kx hy (cV (Sw l)) (.eG _ (mE fc fX ft))
 rw[cL Tryz.func24 rfl aR9 rfl];simp only[Z8,seval,k75,dN];exact⟨_,fL rfl (by simp only[E8,seval,ft]<;>rfl) (by simp only[Z8,seval,ft]<;>rfl) (by simp only[eC,and_self,ft]),t,v,Q,R,rfl,T⟩
theorem aAc {s:aM} (h:1≤s.cFg.jH∧s.cFg.jH≤64) {e x:Int} (e0:0≤e) (he:e≤yD s x) (hx:Rg x):vC s e=(e * s.cFg.jH,0)∧e * s.cFg.jH≤x:=by
 have h1:yD s x=x / s.cFg.jH:=by
  unfold yD;rw[Int.tdiv_eq_ediv_of_nonneg hx.1];have:=Int.ediv_le_self s.cFg.jH hx.1
  have:=hx.2
  exact DY _ (Int.ediv_nonneg hx.1 (by omega)) (by omega)
 rw[h1] at he;have hm:e * s.cFg.jH≤x:=(Int.le_ediv_iff_mul_le (by omega)).1 he
 have h0:0≤e * s.cFg.jH:=Int.mul_nonneg e0 (by omega)
 have hb:=hx.2
 refine⟨?_,hm⟩
 unfold vC Pt DS;rw[if_pos h];have ht:Int.tdiv 18446744073709551615 s.cFg.jH=18446744073709551615 / s.cFg.jH:=Int.tdiv_eq_ediv_of_nonneg (by omega)
 have hq:=Int.ediv_le_self s.cFg.jH (show (0:Int)≤18446744073709551615 by omega)
 have hq0:=Int.ediv_nonneg (show (0:Int)≤18446744073709551615 by omega) (show 0≤s.cFg.jH by omega)
 rw[ht,DY _ hq0 (by omega),if_neg (fun k=>by have:=(Int.ediv_lt_iff_lt_mul (by omega)).1 k.2;omega),DY _ h0 (by omega)]
theorem HQ (n:Node) (r:cN):aN [n] r=if n.block.root=r then 0 else -1:=by
 unfold aN;by_cases h:n.block.root=r<;>simp[List.findIdx?_cons,h]
theorem aMJ {a b:Int} (a0:0≤a) (a1:a<256) (b0:0≤b) (b1:b<256) (h:a≠b):mkRoot a≠mkRoot b:=fun e=>by
 have e1:IntKind.u8.wrap a=IntKind.u8.wrap b:=by rw[← xJ,← xJ,e]
 rw[Ja a0 a1,Ja b0 b1] at e1;exact h e1
theorem GI.now {s:aM} {v:SV} {q:Int} (h:GI s v q) (n:Int):GI { s with now:=n } v q :=
 ⟨⟨h.sd.iP,h.sd.dU,h.sd.gN,h.sd.early,h.sd.bL,h.sd.tree,h.sd.tables,h.sd.eV,h.sd.tB,h.sd.nB,h.sd.nL,h.sd.nQ,h.sd.nE,h.sd.nO,h.sd.nT,h.sd.nn⟩,h.up,h.Xs,h.pos,h.nl,h.WH,h.jH,h.OQ,h.nB,h.nO,h.OR,h.nE,h.UW,h.nT,h.UX,h.nQ,h.U6,h.gI⟩
theorem RG.Z4 {s:aM} {v:SV} (r:RG s v) (hs:1≤s.cFg.jH) {n:Int} (h0:s.now≤n) (h1:n≤1099511627776):RG { s with now:=n } v :=
 ⟨⟨by have:=r.now.1;show 0≤n;omega,h1⟩,r.j,r.f,fun a ha=>⟨(r.nd a ha).1,by have:=(r.nd a ha).2;show a.block.slot≤n;omega⟩,r.or,r.rt,⟨r.fe.1,Int.le_trans r.fe.2 (show yD s s.now≤yD s n from PK hs r.now.1 h0 (by omega))⟩,r.ds,r.tb,r.ne⟩
theorem PW {c:Config} {b:List Int} (h:Ix c b):aN (Bj c b).ns c.cX=0∧aN (Bj c b).ns (mkRoot 9)=-1:=by
 have e:(Bj c b).ns=[⟨OY c,-1,1⟩]:=rfl
 rw[e,HQ,HQ,if_pos (show (OY c).root=c.cX from rfl),if_neg (show ¬(OY c).root=mkRoot 9 by show ¬c.cX=mkRoot 9;rw[h.gen];exact aMJ (by omega) (by omega) (by omega) (by omega) (by omega))]
 exact⟨rfl,rfl⟩
end Go.Ab.Tryz
namespace Go.Ab.Tryz
open Classical Go.Proofs Go.Ab
open Classical Go.Proofs Go.Ab
end Go.Ab.Tryz
namespace Go.Ab.Tryz
open Classical Go.Proofs Go.Ab
def uo {α:Type} (e sz:Nat) (c:List α→List AV):Option (List α)→AV
 | none=>.v (.slice none 0 0)
 | some l=>.uniq e sz l.length (c l)
def rl {α:Type} (e sz:Nat) (c:List α→List AV):Option (List α)→List nP
 | none=>[]
 | some l=>[.row e sz l.length (c l)]
def rv {α:Type} (d k:Nat):Option (List α)→AV
 | none=>.v (.slice none 0 0)
 | some _=>.own d k
def PX (d:Nat) (es:List nP):Option (Nat × List nP):=if es=[] then none else some (d,es)
theorem aAd (st:St) (d:Nat):st.news d []=st:=by
 unfold St.news;cases st with
 | mk env heap aU =>
   simp only[List.length_nil,Nat.not_lt_zero,and_false,if_false,Nat.add_zero,St.mk.injEq,true_and];funext s
   split
   ·rename_i h;rw[h]
   ·rfl
theorem I9 (x:Option Nat) (v:AV) (d:Nat) (es:List nP) (st:St):({ dst:=x,val:=v,new:=PX d es }:rX).apply st=(st.news d es).put x v:=by
 unfold PX;by_cases h:es=[]
 ·rw[if_pos h,h,aAd];rfl
 ·rw[if_neg h];rfl
theorem aAe (st:St) (t d:Nat) (es:List nP):(st.news d es).env t=st.env t:=rfl
theorem aAf (st:St) (t d:Nat) (es:List nP):(st.news d es).aU t=if t=d then st.aU d+es.length else st.aU t:=rfl
theorem zL (st:St) (s g d:Nat) (es:List nP):(st.news d es).heap s g=if s=d∧st.aU d≤g∧g-st.aU d<es.length then es[g-st.aU d]? else st.heap s g:=rfl
theorem Gi {α:Type} {call:Nat→List AV→Option AV} {g e sz d:Nat} {args:List AV} {c:List α→List AV} {L:Option (List α)} {st:St} (hf:∀x∈args,Flat x) (h:call g args=some (uo e sz c L)) :
 aO call g args st (some d)=some { dst:=some d,val:=rv d (st.aU d) L,new:=PX d (rl e sz c L)}:=by
 cases L with
 | none =>
   simp only[aO,if_pos hf,h,cF,uo,jD,if_pos (Flat.v _),rv,rl,PX];rfl
 | some l=>rw[jG hf h];simp only[rv,rl,PX,List.cons_ne_nil,if_false]
theorem kX {α:Type} {st:St} {d k e sz:Nat} {c:List α→List AV} {L:Option (List α)} (hh:∀l,L=some l→st.heap d k=some (.row e sz l.length (c l))) (hf:∀l,L=some l→∀x∈c l,Flat x):kM st (rv d k L)=some (uo e sz c L):=by
 cases L with
 | none=>exact if_pos (Flat.v _)
 | some l =>
   have hn:¬Flat (.own d k):=by intro h;cases h
   simp only[rv,uo,kM,if_neg hn,hh l rfl,if_pos (hf l rfl)]
theorem A4 {α:Type} {c:List α→List AV} {z:Nat} (hc:∀l,(c l).length=l.length * z) (hz:0<z) {l:List α} (h:l≠[]):c l≠[]:=by
 intro he;have h1:=hc l
 rw[he] at h1;have h2:0<l.length:=List.length_pos_iff.mpr h
 have:=Nat.mul_pos h2 hz
 simp only[List.length_nil] at h1;omega
theorem aDi {l:List Block} (h:l≠[]):Ext.ext 164 [.sl l.length (aF l)]=none:=by
 cases l with
 | nil=>exact absurd rfl h
 | cons x r=>rfl
theorem aMK:aB Tryz.prog 164 [.sl 0 []]=some (.sl 0 []):=(tQ _).2 ⟨0,rfl⟩
theorem aML (st:St) (d:Option Nat):aO (aB Tryz.prog) 164 [.sl 0 []] st d=some { dst:=d,val:=.sl 0 []}:=bG (cV (.sl 0 [] fun x h=>by cases h)) aMK (.sl 0 [] fun x h=>by cases h)
theorem aSa (L:Option (List Int)) (h:L≠some []) (hn:((ol L).length:Int)<1000000):aB Tryz.prog 160 [ov bI L]=some (uo 23 1 bI L):=by
 cases L with
 | none =>
   unfold ov;rw[cL Tryz.func160 rfl aFG rfl];simp only[Z8,seval];exact bZ rfl (by simp only[E8,seval]<;>rfl) (.v _)
 | some l =>
   have hl:l≠[]:=fun h2=>h (by rw[h2])
   have fQ:bI l≠[]:=A4 (z:=1) (fun l=>by simp[Tq]) (by omega) hl
   have ha:=fun s g=>Kk (e:=23) (sz:=1) (by_:=8) (s:=s) (g:=g) (n:=l.length) (cs:=bI l) (by simp[Tq]) (by simp only[ol,Option.getD_some] at hn;omega) (by simp only[ol,Option.getD_some] at hn;unfold maxLen;omega)
   unfold ov;rw[cL Tryz.func160 rfl aFG rfl];simp only[Z8,seval,fQ,ha];exact tV rfl (by simp only[E8,seval];rfl) (by simp only[E8,seval]) (gZ _)
theorem aG4 (L:Option (List Int)) (h:L≠some []) (hn:((ol L).length:Int)<1000000) (st:St) (d:Nat):aO (aB Tryz.prog) 160 [ov bI L] st (some d)=some { dst:=some d,val:=rv d (st.aU d) L,new:=PX d (rl 23 1 bI L)}:=Gi (cV (dV L)) (aSa L h hn)
theorem aSb (L:Option (List kO)) (h:L≠some []) (hn:((ol L).length:Int)<1000000):aB Tryz.prog 190 [ov cW L]=some (uo 100 34 cW L):=by
 cases L with
 | none =>
   unfold ov;rw[cL Tryz.func190 rfl aFH rfl];simp only[Z8,seval];exact bZ rfl (by simp only[E8,seval]<;>rfl) (.v _)
 | some l =>
   have hl:l≠[]:=fun h2=>h (by rw[h2])
   have fQ:cW l≠[]:=A4 (z:=34) (fun l=>by simp) (by omega) hl
   have ha:=fun s g=>Kk (e:=100) (sz:=34) (by_:=48) (s:=s) (g:=g) (n:=l.length) (cs:=cW l) (by simp) (by simp only[ol,Option.getD_some] at hn;omega) (by simp only[ol,Option.getD_some] at hn;unfold maxLen;omega)
   unfold ov;rw[cL Tryz.func190 rfl aFH rfl];simp only[Z8,seval,fQ,ha];exact tV rfl (by simp only[E8,seval];rfl) (by simp only[E8,seval]) (mF _)
theorem aSc (L:Option (List kO)) (h:L≠some []) (hn:((ol L).length:Int)<1000000) (st:St) (d:Nat):aO (aB Tryz.prog) 190 [ov cW L] st (some d)=some { dst:=some d,val:=rv d (st.aU d) L,new:=PX d (rl 100 34 cW L)}:=Gi (cV (qX L)) (aSb L h hn)
theorem aSd (L:Option (List Int)) (h:L≠some []) (hn:((ol L).length:Int)<1000000):aB Tryz.prog 191 [ov aK L]=some (uo 3 1 aK L):=by
 cases L with
 | none =>
   unfold ov;rw[cL Tryz.func191 rfl aFI rfl];simp only[Z8,seval];exact bZ rfl (by simp only[E8,seval]<;>rfl) (.v _)
 | some l =>
   have hl:l≠[]:=fun h2=>h (by rw[h2])
   have fQ:aK l≠[]:=A4 (z:=1) (fun l=>by simp[Kr]) (by omega) hl
   have ha:=fun s g=>Kk (e:=3) (sz:=1) (by_:=8) (s:=s) (g:=g) (n:=l.length) (cs:=aK l) (by simp[Kr]) (by simp only[ol,Option.getD_some] at hn;omega) (by simp only[ol,Option.getD_some] at hn;unfold maxLen;omega)
   unfold ov;rw[cL Tryz.func191 rfl aFI rfl];simp only[Z8,seval,fQ,ha];exact tV rfl (by simp only[E8,seval];rfl) (by simp only[E8,seval]) (fV _)
theorem aMM (L:Option (List Int)) (h:L≠some []) (hn:((ol L).length:Int)<1000000) (st:St) (d:Nat):aO (aB Tryz.prog) 191 [ov aK L] st (some d)=some { dst:=some d,val:=rv d (st.aU d) L,new:=PX d (rl 3 1 aK L)}:=Gi (cV (bX L)) (aSd L h hn)
theorem aSe (L:Option (List Block)) (h:L≠some []) (hn:((ol L).length:Int)<1000000):aB Tryz.prog 164 [ov aF L]=some (uo 74 238 aF L):=by
 cases L with
 | none =>
   unfold ov;rw[Qp Tryz.prog Tryz.func164 rfl aFJ _ rfl rfl];simp only[Z8,seval];exact bZ rfl (by simp only[E8,seval]<;>rfl) (.v _)
 | some l =>
   have hl:l≠[]:=fun h2=>h (by rw[h2])
   have fQ:aF l≠[]:=A4 (z:=238) (fun l=>by simp) (by omega) hl
   have ha:=fun s g=>Kk (e:=74) (sz:=238) (by_:=336) (s:=s) (g:=g) (n:=l.length) (cs:=aF l) (by simp) (by simp only[ol,Option.getD_some] at hn;omega) (by simp only[ol,Option.getD_some] at hn;unfold maxLen;omega)
   unfold ov;rw[Qp Tryz.prog Tryz.func164 rfl aFJ _ (aDi hl) rfl];simp only[Z8,seval,fQ,ha];exact tV rfl (by simp only[E8,seval];rfl) (by simp only[E8,seval]) (lC _)
theorem aSf (L:Option (List Block)) (h:L≠some []) (hn:((ol L).length:Int)<1000000) (st:St) (d:Nat):aO (aB Tryz.prog) 164 [ov aF L] st (some d)=some { dst:=some d,val:=rv d (st.aU d) L,new:=PX d (rl 74 238 aF L)}:=Gi (cV (Fz L)) (aSe L h hn)
theorem lF {α:Type} {st:St} {d k e sz:Nat} {c:List α→List AV} {L:Option (List α)} (hh:∀l,L=some l→st.heap d k=some (.row e sz l.length (c l))) (hf:∀l,L=some l→∀x∈c l,Flat x):cJ st (rv d k L)=some (ov c L):=by
 cases L with
 | none=>exact if_pos (Flat.v _)
 | some l =>
   have hn:¬Flat (.own d k):=by intro h;cases h
   simp only[rv,ov,cJ,if_neg hn,hh l rfl,if_pos (hf l rfl)]
theorem aAg {α:Type} (d k:Nat) (L:Option (List α)):(rv d k L).cells=[rv d k L]:=by cases L<;>rfl
theorem aDj {α:Type} (d k:Nat) (L:Option (List α)):(rv d k L).jE=true:=by cases L<;>rfl
def NW:=aj (aj (aj @I9 @aAe) (aj @aAf @zL)) (aj @aAg @aDj)
theorem aSg (a:sG) (V:Option (List Int)) (ha:a.fB=ov aK V) (h:V≠some []) (hn:((ol V).length:Int)<1000000):aB Tryz.prog 163 [.agg (iC a)]=some (.agg (iC a)):=by
 rw[cL Tryz.func163 rfl aMN rfl];simp only[Z8,seval,ha,aMM V h hn,NW];refine eA rfl (by simp only[E8,seval,NW]<;>rfl) (cs:=iC { a with fB:=rv 5 0 V }) (by simp only[Z8,seval,NW]<;>rfl) ?_
 rw[bP,lY,lF (e:=3) (sz:=1) (c:=aK) (L:=V) ?h (fun l _=>fV l),cF,cF,← ha]
 case h =>
  intro l hl;subst hl;simp only[E8,seval,zL,rl,List.length_cons,Nat.lt_add_left_iff_pos,Nat.zero_lt_succ,if_true]
end Go.Ab.Tryz
namespace Go.Ab
open Classical
theorem Qq [Ext] {P:Program} {call:Nat→List AV→Option AV} {ops:Array Oper} {d:Option Nat} {T:Nat} {pos:String} {eW:Array Edge} {st:St} (t:Nat) (args:Array Operand) (tR:Array Nat) (g:Nat) (h:st.env t=.v (.func (.func g) #[] #[])):cH P call ops ⟨d,.call ⟨.value (.tmp t),args,tR⟩,T,pos,eW,none⟩ st=cT (aO call g (args.toList.map st.ev) st d) fun e=>some (e.apply st):=by
 rw[eD];simp only[dP,iS,nY,St.ev,h,IN,and_self,if_true,List.append_nil];cases aO call g (args.toList.map st.ev) st d<;>rfl
end Go.Ab
namespace Go.Ab.Tryz
open Classical Go.Proofs Go.Ab
theorem aSh (a:Table) (V:Option (List Int)) (ha:a.iP=ov bI V) (h:V≠some []) (hn:((ol V).length:Int)<1000000):aB Tryz.prog 194 [.agg (cA a)]=some (.agg (cA a)):=by
 rw[cL Tryz.func194 rfl aMO rfl];simp only[Z8,seval,ha,aG4 V h hn,NW];refine eA rfl (by simp only[E8,seval,NW]<;>rfl) (cs:=cA { a with iP:=rv 5 0 V }) (by simp only[Z8,seval,NW]<;>rfl) ?_
 rw[bP,tM,lF (e:=23) (sz:=1) (c:=bI) (L:=V) ?h (fun l _=>gZ l),cF,cF,← ha]
 case h =>
  intro l hl;subst hl;simp only[E8,seval,zL,rl,List.length_cons,Nat.lt_add_left_iff_pos,Nat.zero_lt_succ,if_true]
theorem A5 {α:Type} (z:α) (l:List α) (k:Nat) (h:k<l.length):l.take k++[gx z l (k:Int)]=l.take (k+1):=by
 rw[List.take_succ_eq_append_getElem h];congr 2
 simp[gx,h]
theorem aSi (E:Option (List sG)) (h:E≠some []) (hn:((ol E).length:Int)<1000000) (hE:∀a∈ol E,∃V,a.fB=ov aK (some V)∧V≠[]) (hA:∀a∈ol E,Dw a) :
 aB Tryz.prog 162 [ov dM E,.v (.func (.func 163) #[] #[])]=some (uo 87 67 dM E):=by
 have pG:∀y∈ol E,Flat y.fB:=fun y m=>(hA y m).fl
 have kg:∀k:Nat,k<(ol E).length→∀(st:St) (d:Option Nat),aO (aB Tryz.prog) 163 [.agg (iC (gx Lu (ol E) (k:Int)))] st d=some { dst:=d,val:=.agg (iC (gx Lu (ol E) (k:Int)))}:=by
  intro k hk st d;have hm:gx Lu (ol E) (k:Int)∈ol E:=by
   have:gx Lu (ol E) (k:Int)=(ol E)[k]:=by simp[gx,hk]
   rw[this];exact List.getElem_mem hk
  obtain⟨V,hV,hV2⟩:=hE _ hm
  obtain⟨V',hV',Hv⟩:=hA _ hm
  have hfa:Flat (.agg (iC (gx Lu (ol E) (k:Int)))):=(Ah _).2 (hA _ hm).fl
  have e0:((ol (some V)).length:Int)<1000000:=by
   have h0:ov aK (some V)=ov aK V':=by rw[← hV,← hV']
   cases V' with
   | none=>cases h0
   | some W =>
     simp only[ov,AV.sl.injEq] at h0;simp only[ol,Option.getD_some] at Hv ⊢
     omega
  exact kx (aSg _ (some V) hV (by simpa using hV2) e0) (cV hfa) hfa st d
 have hu:([ov dM E,.v (.func (.func 163) #[] #[])]:List AV).any uB=false:=by cases E<;>rfl
 rw[cL Tryz.func162 rfl aMQ hu];simp only[Z8,seval];refine kJ (fun m st=>∃k:Nat,(st.env 8=ov dM E∧st.env 9=.v (.int .i64 (ol E).length)∧st.env 10=.v (.int .i64 k)∧st.env 1=.v (.func (.func 163) #[] #[]))∧((k=0∧st.env 5=.v (.slice none 0 0))∨(0<k∧∃j,st.env 5=.own 19 j∧st.heap 19 j=some (.row 87 67 ((ol E).take k).length (dM ((ol E).take k)))))∧k≤(ol E).length∧m=(ol E).length-k)
  (fun e st=>e=.exit 0∧((ol E=[]∧st.env 5=.v (.slice none 0 0))∨(ol E≠[]∧∃j,st.env 5=.own 19 j∧st.heap 19 j=some (.row 87 67 (ol E).length (dM (ol E)))))) (ol E).length ?step ?start ?rest
 case step =>
  rintro m st ⟨k,hI,hR,hk,hm⟩
  by_cases bA:(k:Int)<(ol E).length
  ·have q0:(0:Int)≤k:=by omega
   have hw:IntKind.i64.wrap ((k:Int)+1)=((k+1:Nat):Int):=by rw[nU _ (by omega) (by omega)];omega
   have ht:=A5 Lu (ol E) k (by omega)
   have kk:=kg k (by omega)
   rcases hR with ⟨rG,h5⟩|⟨rG,j,h5,h6⟩
   ·have ht':[gx Lu (ol E) (k:Int)]=(ol E).take (k+1):=by rw[← ht,show (ol E).take k=[] by rw[rG,List.take_zero],List.nil_append]
    apply oN ((ol E).length-(k+1))
    ·simp only[Z8,seval,hI,h5,bA,q0,kk,Qq 15 _ _ 163,JS,hw];rfl
    ·exact⟨k+1,⟨by simp only[E8,seval,hI],by simp only[E8,seval,hI],by simp only[E8,seval],by simp only[E8,seval,hI]⟩,.inr ⟨by omega,_,by simp only[E8,seval]<;>rfl,by rw[← ht'];simp only[E8,seval]<;>rfl⟩,by omega,rfl⟩
   ·have ao:=fun s g=>Xz ((ol E).take k) (gx Lu (ol E) (k:Int)) s g (by rw[List.length_take];omega)
    apply oN ((ol E).length-(k+1))
    ·simp only[Z8,seval,hI,h5,h6,bA,q0,kk,Qq 15 _ _ 163,ao,hw];rfl
    ·exact⟨k+1,⟨by simp only[E8,seval,hI],by simp only[E8,seval,hI],by simp only[E8,seval],by simp only[E8,seval,hI]⟩,.inr ⟨by omega,_,by simp only[E8,seval]<;>rfl,by rw[← ht];simp only[E8,seval]<;>rfl⟩,by omega,rfl⟩
  ·have Bu:k=(ol E).length:=by omega
   have hF:(ol E=[]∧st.env 5=.v (.slice none 0 0))∨(ol E≠[]∧∃j,st.env 5=.own 19 j∧st.heap 19 j=some (.row 87 67 (ol E).length (dM (ol E)))):=by
    rcases hR with ⟨rG,h5⟩|⟨rG,j,h5,h6⟩
    ·exact .inl ⟨List.eq_nil_of_length_eq_zero (by omega),h5⟩
    ·exact .inr ⟨by intro h0;rw[h0] at Bu;simp at Bu;omega,j,h5,by rw[h6,Bu,List.take_length]⟩
   apply oT (.exit 0)
   ·simp only[Z8,seval,hI,bA];rfl
   ·exact⟨rfl,by simp only[E8,seval];exact hF⟩
 case start=>exact⟨0,by simp only[E8,seval]<;>exact⟨rfl,rfl,rfl,rfl⟩,.inl ⟨rfl,by simp only[E8,seval]<;>rfl⟩,by omega,by omega⟩
 case rest =>
  rintro e st ⟨rfl,hR⟩
  rcases hR with ⟨h0,h5⟩|⟨h0,j,h5,h6⟩
  ·simp only[Z8,seval,h5];cases E with
   | none=>exact bZ rfl (by simp only[E8,seval]<;>rfl) (.v _)
   | some l=>exact absurd (show (some l:Option (List sG))=some [] by rw[show l=[] from h0]) h
  ·simp only[Z8,seval,h5];cases E with
   | none=>exact absurd rfl h0
   | some l=>exact tV rfl (by simp only[E8,seval];rfl) (by simp only[E8,seval];exact h6) (qY _ pG)
theorem aMR (E:Option (List sG)) (h:E≠some []) (hn:((ol E).length:Int)<1000000) (hE:∀a∈ol E,∃V,a.fB=ov aK (some V)∧V≠[]) (hA:∀a∈ol E,Dw a) (st:St) (d:Nat) :
 aO (aB Tryz.prog) 162 [ov dM E,.v (.func (.func 163) #[] #[])] st (some d)=some { dst:=some d,val:=rv d (st.aU d) E,new:=PX d (rl 87 67 dM E)} :=
 Gi (fun x m=>by
  rcases List.mem_cons.1 m with rfl|m
  ·exact Zl E fun y m=>(hA y m).fl
  ·rw[List.mem_singleton.1 m];exact .v _) (aSi E h hn hE hA)
theorem aSm (E:Option (List Table)) (h:E≠some []) (hn:((ol E).length:Int)<1000000) (hE:∀a∈ol E,∃V,a.iP=ov bI (some V)∧V≠[]) (hA:∀a∈ol E,rZ a) :
 aB Tryz.prog 193 [ov aI E,.v (.func (.func 194) #[] #[])]=some (uo 118 34 aI E):=by
 have pG:∀y∈ol E,Flat y.iP:=fun y m=>(hA y m).fl
 have kg:∀k:Nat,k<(ol E).length→∀(st:St) (d:Option Nat),aO (aB Tryz.prog) 194 [.agg (cA (gx eI (ol E) (k:Int)))] st d=some { dst:=d,val:=.agg (cA (gx eI (ol E) (k:Int)))}:=by
  intro k hk st d;have hm:gx eI (ol E) (k:Int)∈ol E:=by
   have:gx eI (ol E) (k:Int)=(ol E)[k]:=by simp[gx,hk]
   rw[this];exact List.getElem_mem hk
  obtain⟨V,hV,hV2⟩:=hE _ hm
  obtain⟨V',hV',Hv⟩:=hA _ hm
  have hfa:Flat (.agg (cA (gx eI (ol E) (k:Int)))):=(iE _).2 (hA _ hm).fl
  have e0:((ol (some V)).length:Int)<1000000:=by
   have h0:ov bI (some V)=ov bI V':=by rw[← hV,← hV']
   cases V' with
   | none=>cases h0
   | some W =>
     simp only[ov,AV.sl.injEq] at h0;simp only[ol,Option.getD_some] at Hv ⊢
     omega
  exact kx (aSh _ (some V) hV (by simpa using hV2) e0) (cV hfa) hfa st d
 have hu:([ov aI E,.v (.func (.func 194) #[] #[])]:List AV).any uB=false:=by cases E<;>rfl
 rw[cL Tryz.func193 rfl aMS hu];simp only[Z8,seval];refine kJ (fun m st=>∃k:Nat,(st.env 8=ov aI E∧st.env 9=.v (.int .i64 (ol E).length)∧st.env 10=.v (.int .i64 k)∧st.env 1=.v (.func (.func 194) #[] #[]))∧((k=0∧st.env 5=.v (.slice none 0 0))∨(0<k∧∃j,st.env 5=.own 19 j∧st.heap 19 j=some (.row 118 34 ((ol E).take k).length (aI ((ol E).take k)))))∧k≤(ol E).length∧m=(ol E).length-k)
  (fun e st=>e=.exit 0∧((ol E=[]∧st.env 5=.v (.slice none 0 0))∨(ol E≠[]∧∃j,st.env 5=.own 19 j∧st.heap 19 j=some (.row 118 34 (ol E).length (aI (ol E)))))) (ol E).length ?step ?start ?rest
 case step =>
  rintro m st ⟨k,hI,hR,hk,hm⟩
  by_cases bA:(k:Int)<(ol E).length
  ·have q0:(0:Int)≤k:=by omega
   have hw:IntKind.i64.wrap ((k:Int)+1)=((k+1:Nat):Int):=by rw[nU _ (by omega) (by omega)];omega
   have ht:=A5 eI (ol E) k (by omega)
   have kk:=kg k (by omega)
   rcases hR with ⟨rG,h5⟩|⟨rG,j,h5,h6⟩
   ·have ht':[gx eI (ol E) (k:Int)]=(ol E).take (k+1):=by rw[← ht,show (ol E).take k=[] by rw[rG,List.take_zero],List.nil_append]
    apply oN ((ol E).length-(k+1))
    ·simp only[Z8,seval,hI,h5,bA,q0,kk,Qq 15 _ _ 194,HR,hw];rfl
    ·exact⟨k+1,⟨by simp only[E8,seval,hI],by simp only[E8,seval,hI],by simp only[E8,seval],by simp only[E8,seval,hI]⟩,.inr ⟨by omega,_,by simp only[E8,seval]<;>rfl,by rw[← ht'];simp only[E8,seval]<;>rfl⟩,by omega,rfl⟩
   ·have ao:=fun s g=>Tc ((ol E).take k) (gx eI (ol E) (k:Int)) s g (by rw[List.length_take];omega)
    apply oN ((ol E).length-(k+1))
    ·simp only[Z8,seval,hI,h5,h6,bA,q0,kk,Qq 15 _ _ 194,ao,hw];rfl
    ·exact⟨k+1,⟨by simp only[E8,seval,hI],by simp only[E8,seval,hI],by simp only[E8,seval],by simp only[E8,seval,hI]⟩,.inr ⟨by omega,_,by simp only[E8,seval]<;>rfl,by rw[← ht];simp only[E8,seval]<;>rfl⟩,by omega,rfl⟩
  ·have Bu:k=(ol E).length:=by omega
   have hF:(ol E=[]∧st.env 5=.v (.slice none 0 0))∨(ol E≠[]∧∃j,st.env 5=.own 19 j∧st.heap 19 j=some (.row 118 34 (ol E).length (aI (ol E)))):=by
    rcases hR with ⟨rG,h5⟩|⟨rG,j,h5,h6⟩
    ·exact .inl ⟨List.eq_nil_of_length_eq_zero (by omega),h5⟩
    ·exact .inr ⟨by intro h0;rw[h0] at Bu;simp at Bu;omega,j,h5,by rw[h6,Bu,List.take_length]⟩
   apply oT (.exit 0)
   ·simp only[Z8,seval,hI,bA];rfl
   ·exact⟨rfl,by simp only[E8,seval];exact hF⟩
 case start=>exact⟨0,by simp only[E8,seval]<;>exact⟨rfl,rfl,rfl,rfl⟩,.inl ⟨rfl,by simp only[E8,seval]<;>rfl⟩,by omega,by omega⟩
 case rest =>
  rintro e st ⟨rfl,hR⟩
  rcases hR with ⟨h0,h5⟩|⟨h0,j,h5,h6⟩
  ·simp only[Z8,seval,h5];cases E with
   | none=>exact bZ rfl (by simp only[E8,seval]<;>rfl) (.v _)
   | some l=>exact absurd (show (some l:Option (List Table))=some [] by rw[show l=[] from h0]) h
  ·simp only[Z8,seval,h5];cases E with
   | none=>exact absurd rfl h0
   | some l=>exact tV rfl (by simp only[E8,seval];rfl) (by simp only[E8,seval];exact h6) (iL _ pG)
theorem aSn (E:Option (List Table)) (h:E≠some []) (hn:((ol E).length:Int)<1000000) (hE:∀a∈ol E,∃V,a.iP=ov bI (some V)∧V≠[]) (hA:∀a∈ol E,rZ a) (st:St) (d:Nat) :
 aO (aB Tryz.prog) 193 [ov aI E,.v (.func (.func 194) #[] #[])] st (some d)=some { dst:=some d,val:=rv d (st.aU d) E,new:=PX d (rl 118 34 aI E)} :=
 Gi (fun x m=>by
  rcases List.mem_cons.1 m with rfl|m
  ·exact jW E fun y m=>(hA y m).fl
  ·rw[List.mem_singleton.1 m];exact .v _) (aSm E h hn hE hA)
theorem AI (f:Nat→AV→AV × List nP) (c:Nat) (xs ys:List AV):pM f c (xs++ys)=((pM f c xs).1++(pM f (c+(pM f c xs).2.length) ys).1,(pM f c xs).2++(pM f (c+(pM f c xs).2.length) ys).2):=by
 induction xs generalizing c with
 | nil=>simp[pM]
 | cons x xs ih=>simp only[List.cons_append,pM,ih,List.length_append,Nat.add_assoc,List.append_assoc]
theorem Ks (d c:Nat) {x:AV} (h:Flat x):xZ d c x=(x,[]):=by cases h<;>rfl
theorem oP (d c:Nat) {xs:List AV} (h:∀x∈xs,Flat x):pM (xZ d) c xs=(xs,[]):=by
 induction xs generalizing c with
 | nil=>rfl
 | cons x xs ih=>simp only[pM,Ks d c (h x (by simp)),List.length_nil,Nat.add_zero,ih c fun y m=>h y (by simp[m]),List.nil_append]
theorem Yb {α:Type} (d c e sz:Nat) (cs:List α→List AV) (L:Option (List α)):pM (xZ d) c [uo e sz cs L]=([rv d c L],rl e sz cs L):=by cases L<;>rfl
theorem JY {call:Nat→List AV→Option AV} {g d:Nat} {args cs:List AV} {st:St} (hf:∀x∈args,Flat x) (h:call g args=some (.agg cs)) (hn:Flat (.agg cs)∨(pM (xZ d) (st.aU d) cs).2≠[]) :
 aO call g args st (some d)=some { dst:=some d,val:=.agg (pM (xZ d) (st.aU d) cs).1,new:=PX d (pM (xZ d) (st.aU d) cs).2 }:=by
 unfold aO;rw[if_pos hf,h,cF];unfold jD;by_cases hF:Flat (.agg cs)
 ·have hc:∀x∈cs,Flat x:=by cases hF with|agg _ h=>exact h
  rw[if_pos hF,oP d _ hc];rfl
 ·rw[if_neg hF];have h2:=hn.resolve_left hF
  simp only[PX,if_neg h2];rfl
noncomputable def EB (st:St) (cs:List AV):Option (List AV):=cM (cs.map (kM st))
theorem PY (st:St) (a b:List AV):EB st (a++b)=cT (EB st a) fun x=>cT (EB st b) fun y=>some (x++y):=by
 unfold EB;induction a with
 | nil=>simp[cM,cT];cases cM (b.map (kM st))<;>rfl
 | cons c a ih =>
   simp only[List.cons_append,List.map_cons];cases kM st c with
   | none=>rfl
   | some c' =>
     simp only[cM,ih];cases cM (a.map (kM st))<;>simp[cT]<;>cases cM (b.map (kM st))<;>rfl
theorem Eg {st:St} {cs:List AV} (h:∀c∈cs,Flat c):EB st cs=some cs:=by
 unfold EB;induction cs with
 | nil=>rfl
 | cons c cs ih =>
   have h1:kM st c=some c:=if_pos (h c (by simp))
   simp only[List.map_cons,h1,cM,ih fun x hx=>h x (by simp[hx]),Option.map_some]
theorem uQ {st:St} {x y:AV} (h:kM st x=some y):EB st [x]=some [y]:=by simp only[EB,List.map_cons,List.map_nil,h,cM,Option.map_some]
theorem Tr {st:St} {cs ys:List AV} (h:EB st cs=some ys):Dn st (.agg cs)=some (.agg ys):=by
 show (cM (cs.map (kM st))).map AV.agg=_
 rw[show cM (cs.map (kM st))=some ys from h];rfl
theorem PZ {x:AV} (h:Flat x):gQ x=[]:=by cases h<;>rfl
theorem uR {cs:List AV} (h:∀c∈cs,Flat c):cs.flatMap gQ=[]:=by
 induction cs with
 | nil=>rfl
 | cons c cs ih=>rw[List.flatMap_cons,PZ (h c (by simp)),ih fun x hx=>h x (by simp[hx]),List.nil_append]
theorem Ts {α:Type} (d k:Nat) (L:Option (List α)):gQ (rv d k L)=if L.isSome then [(d,k)] else []:=by cases L<;>rfl
theorem XD (st:St) (g:Nat):st.ev (.func g)=.v (.func (.func g) #[] #[]):=rfl
theorem aSo (T:Option (List Table)) (h:T≠some []) (hn:((ol T).length:Int)<1000000) (hE:∀a∈ol T,∃V,a.iP=ov bI (some V)∧V≠[]) (hA:∀a∈ol T,rZ a):aB Tryz.prog 166 [ov aI T]=some (uo 118 34 aI T):=by
 have pG:∀y∈ol T,Flat y.iP:=fun y m=>(hA y m).fl
 rw[cL Tryz.func166 rfl aMT (by cases T<;>rfl)]
 simp only[Z8,seval,XD,aSn T h hn hE hA,NW];cases T with
 | none=>exact bZ rfl (by simp only[E8,seval]<;>rfl) (.v _)
 | some l=>exact tV rfl (by simp only[E8,seval]<;>rfl) (by simp only[E8,seval,zL,rl,List.length_cons,Nat.lt_add_left_iff_pos,Nat.zero_lt_succ,if_true]<;>rfl) (iL _ pG)
theorem aMU (T:Option (List Table)) (h:T≠some []) (hn:((ol T).length:Int)<1000000) (hE:∀a∈ol T,∃V,a.iP=ov bI (some V)∧V≠[]) (hA:∀a∈ol T,rZ a) (st:St) (d:Nat) :
 aO (aB Tryz.prog) 166 [ov aI T] st (some d)=some { dst:=some d,val:=rv d (st.aU d) T,new:=PX d (rl 118 34 aI T)}:=Gi (cV (jW T fun y m=>(hA y m).fl)) (aSo T h hn hE hA)
theorem aSp (L:Option (List kO)) (Q:Option (List Int)) (h1:L≠some []) (h2:Q≠some []) (n1:((ol L).length:Int)<1000000) (n2:((ol Q).length:Int)<1000000) :
 aB Tryz.prog 161 [.agg (eZ ⟨ov cW L,ov aK Q⟩)]=some (.agg (eZ ⟨uo 100 34 cW L,uo 3 1 aK Q⟩)):=by
 rw[cL Tryz.func161 rfl aMV rfl];simp only[Z8,seval,aSc L h1 n1,aMM Q h2 n2,NW];refine Pw rfl (.inl rfl) rfl (x:=.agg (eZ ⟨rv 5 0 L,rv 8 0 Q⟩)) (by simp only[bY,Z8,seval,NW]) ?_ (Tr ?_)
 ·simp only[lW,jF,eZ,List.flatMap_append,List.flatMap_cons,List.flatMap_nil,List.append_nil,Ts];cases L<;>cases Q<;>simp
 ·unfold eZ;rw[PY,uQ (kX (e:=100) (sz:=34) (c:=cW) ?_ fun l _=>mF l),cF,uQ (kX (e:=3) (sz:=1) (c:=aK) ?_ fun l _=>fV l),cF]
  ·intro l hl;subst hl;simp only[E8,seval,zL,rl,List.length_cons,Nat.lt_add_left_iff_pos,Nat.zero_lt_succ,if_true]<;>rfl
  ·intro l hl;subst hl;simp only[E8,seval,zL,rl,List.length_cons,Nat.lt_add_left_iff_pos,Nat.zero_lt_succ,if_true]<;>rfl
theorem AJ (d c:Nat) (L:Option (List kO)) (Q:Option (List Int)):pM (xZ d) c (eZ ⟨uo 100 34 cW L,uo 3 1 aK Q⟩)=(eZ ⟨rv d c L,rv d (c+(rl 100 34 cW L).length) Q⟩,rl 100 34 cW L++rl 3 1 aK Q):=by
 unfold eZ;rw[AI,Yb,Yb]
theorem aMW (L:Option (List kO)) (Q:Option (List Int)) (h1:L≠some []) (h2:Q≠some []) (n1:((ol L).length:Int)<1000000) (n2:((ol Q).length:Int)<1000000) (st:St) (d:Nat) :
 aO (aB Tryz.prog) 161 [.agg (eZ ⟨ov cW L,ov aK Q⟩)] st (some d)=some { dst:=some d,val:=.agg (eZ ⟨rv d (st.aU d) L,rv d (st.aU d+(rl 100 34 cW L).length) Q⟩),new:=PX d (rl 100 34 cW L++rl 3 1 aK Q)}:=by
 rw[JY (cV (.agg _ (qS _ (qX L) (bX Q)))) (aSp L Q h1 h2 n1 n2) ?_,AJ];rw[AJ];cases L with
 | some l=>exact .inr (by simp[rl])
 | none =>
   cases Q with
   | some q=>exact .inr (by simp[rl])
   | none=>exact .inl (.agg _ (qS _ (.v _) (.v _)))
def AK (s:aM) (b l q e o n t:AV):aM:={ s with cFg:={ s.cFg with iP:=b },gH:=⟨l,q⟩,cC:=⟨e,o⟩,tree:=⟨n⟩,tables:=t }
theorem AL {st:St} (s:aM) {b l q e o n t b' l' q' e' o' n' t':AV} (h1:kM st b=some b') (h2:kM st l=some l') (h3:kM st q=some q') (h4:kM st e=some e') (h5:kM st o=some o') (h6:kM st n=some n') (h7:kM st t=some t') :
 EB st (aA (AK s b l q e o n t))=some (aA (AK s b' l' q' e' o' n' t')):=by
 simp only[AK,aA,bW,eZ,jM,mL,PY,uQ h1,uQ h2,uQ h3,uQ h4,uQ h5,uQ h6,uQ h7,Eg (rQ _),Eg (dY _),Eg (iF _),Eg (dO _),Eg (jZ _),cF]
theorem Mk (s:aM) (b l q e o n t:AV):(aA (AK s b l q e o n t)).flatMap gQ=gQ b++(gQ l++(gQ q++(gQ e++(gQ o++(gQ n++gQ t))))):=by
 simp only[AK,aA,bW,eZ,jM,mL,List.flatMap_append,List.flatMap_cons,List.flatMap_nil,List.append_nil,uR (rQ _),uR (dY _),uR (iF _),uR (dO _),uR (jZ _),List.nil_append,List.append_assoc]
theorem rR {α:Type} (e sz:Nat) (c:List α→List AV) (l:List α):rl e sz c (some l)=[.row e sz l.length (c l)]:=rfl
theorem aSq {s:aM} {v:SV} (hs:SD s v) (fQ:y7 v) (hB:v.B≠some []) (hL:v.L≠some []) (ht:0<v.ns.length) :
 aB Tryz.prog 109 [.agg (aA s)]=some (.agg (aA (AK s (uo 23 1 bI v.B) (uo 100 34 cW v.L) (uo 3 1 aK v.Q) (uo 87 67 dM v.E) (uo 74 238 aF v.O) (.uniq 76 240 v.ns.length (bU v.ns)) (uo 118 34 aI v.T)))):=by
 have hv:s.gH=⟨ov cW v.L,ov aK v.Q⟩:=by
  have h1:=hs.dU
  have h2:=hs.gN
  cases hc:s.gH with
  | mk a b=>rw[hc] at h1 h2;simp only at h1 h2;rw[h1,h2]
 rw[cL Tryz.func109 rfl aFK rfl];simp only[Z8,seval,hs.iP,hv,hs.early,hs.bL,hs.tree,hs.tables,XD,NW,aG4 v.B hB hs.nB,aMW v.L v.Q hL fQ.q hs.nL hs.nQ,aMR v.E fQ.e hs.nE fQ.ea hs.eV,aSf v.O fQ.o hs.nO,aKq v.ns ht hs.nn,aMU v.T fQ.t hs.nT fQ.tb hs.tB];refine Pw rfl (.inl rfl) rfl (x:=.agg (aA (AK s (rv 6 0 v.B) (rv 11 0 v.L) (rv 11 (rl 100 34 cW v.L).length v.Q) (rv 16 0 v.E) (rv 22 0 v.O) (.own 27 0) (rv 31 0 v.T)))) ?x1 ?x2 (Tr (AL s ?b1 ?l1 ?q1 ?e1 ?o1 ?n1 ?t1))
 case x1=>simp only[bY,Z8,seval,NW,AK]
 case x2 =>
  show ((aA _).flatMap gQ).Nodup
  rw[Mk];simp only[Ts,show ∀a b,gQ (.own a b)=[(a,b)] from fun _ _=>rfl]
  cases v.B<;>cases hvl:v.L<;>cases v.Q<;>cases v.E<;>cases v.O<;>cases v.T<;>simp[rl]
 case b1=>exact kX (fun l hl=>by simp only[E8,seval,NW,hl,rR,List.length_cons,List.length_nil,Nat.lt_add_left_iff_pos,Nat.zero_lt_succ,if_true]<;>rfl) fun l _=>gZ l
 case l1 =>
  refine kX (fun l hl=>?_) fun l _=>mF l
  simp only[E8,seval,NW,hl,rR];simp
 case q1 =>
  refine kX (fun l hl=>?_) fun l _=>fV l
  simp only[E8,seval,NW,hl,rR];simp
 case e1=>exact kX (fun l hl=>by simp only[E8,seval,NW,hl,rR,List.length_cons,List.length_nil,Nat.lt_add_left_iff_pos,Nat.zero_lt_succ,if_true]<;>rfl) fun l hl=>qY l fun y m=>(hs.eV y (by rw[hl];exact m)).fl
 case o1=>exact kX (fun l hl=>by simp only[E8,seval,NW,hl,rR,List.length_cons,List.length_nil,Nat.lt_add_left_iff_pos,Nat.zero_lt_succ,if_true]<;>rfl) fun l _=>lC l
 case n1=>exact kX (L:=some v.ns) (fun l hl=>by cases hl;simp only[E8,seval,NW,rR,List.length_cons,List.length_nil,Nat.lt_add_left_iff_pos,Nat.zero_lt_succ,if_true]<;>rfl) fun l _=>gX l
 case t1=>exact kX (fun l hl=>by simp only[E8,seval,NW,hl,rR,List.length_cons,List.length_nil,Nat.lt_add_left_iff_pos,Nat.zero_lt_succ,if_true]<;>rfl) fun l hl=>iL l fun y m=>(hs.tB y (by rw[hl];exact m)).fl
theorem QA (d c e sz n:Nat) (cs:List AV):pM (xZ d) c [.uniq e sz n cs]=([.own d c],[.row e sz n cs]):=rfl
def Dj (v:SV):List nP:=rl 23 1 bI v.B++(rl 100 34 cW v.L++(rl 3 1 aK v.Q++(rl 87 67 dM v.E++(rl 74 238 aF v.O++([.row 76 240 v.ns.length (bU v.ns)]++rl 118 34 aI v.T)))))
def nB (v:SV):Nat:=(rl 23 1 bI v.B).length
def nL (v:SV):Nat:=nB v+(rl 100 34 cW v.L).length
def nQ (v:SV):Nat:=nL v+(rl 3 1 aK v.Q).length
def nE (v:SV):Nat:=nQ v+(rl 87 67 dM v.E).length
def nO (v:SV):Nat:=nE v+(rl 74 238 aF v.O).length
def Ny (s:aM) (v:SV) (d c:Nat):aM:=AK s (rv d c v.B) (rv d (c+nB v) v.L) (rv d (c+nL v) v.Q) (rv d (c+nQ v) v.E) (rv d (c+nE v) v.O) (.own d (c+nO v)) (rv d (c+nO v+1) v.T)
theorem AM (s:aM) (v:SV) (d c:Nat):pM (xZ d) c (aA (AK s (uo 23 1 bI v.B) (uo 100 34 cW v.L) (uo 3 1 aK v.Q) (uo 87 67 dM v.E) (uo 74 238 aF v.O) (.uniq 76 240 v.ns.length (bU v.ns)) (uo 118 34 aI v.T)))=(aA (Ny s v d c),Dj v):=by
 simp only[AK,Ny,aA,bW,eZ,jM,mL,AI,Yb,QA,oP d _ (rQ _),oP d _ (dY _),oP d _ (iF _),oP d _ (dO _),oP d _ (jZ _),List.nil_append,List.length_nil,Nat.add_zero,List.append_assoc,List.length_append,List.length_cons,Dj,nO,nE,nQ,nL,nB,Nat.add_assoc,List.append_nil]
theorem aSr {s:aM} {v:SV} (hs:SD s v) (fQ:y7 v) (hB:v.B≠some []) (hL:v.L≠some []) (ht:0<v.ns.length) (st:St) (d:Nat) :
 aO (aB Tryz.prog) 109 [.agg (aA s)] st (some d)=some { dst:=some d,val:=.agg (aA (Ny s v d (st.aU d))),new:=some (d,Dj v)}:=by
 have h0:Dj v≠[]:=by simp[Dj]
 rw[JY (cV hs.flat) (aSq hs fQ hB hL ht) (by rw[AM];exact .inr h0),AM]
 simp only[PX,if_neg h0]
theorem Qr (x:Option Nat) (y:AV) (d:Nat) (v:SV) (st:St):({ dst:=x,val:=y,new:=some (d,Dj v)}:rX).apply st=(st.news d (Dj v)).put x y:=rfl
theorem Yc {α:Type} (d k:Nat) (l:List α):rv d k (some l)=.own d k:=rfl
theorem aDk {α:Type} (d k:Nat):rv d k (none:Option (List α))=.v (.slice none 0 0):=rfl
theorem nM {α:Type} (a b:List α) (n i:Nat) (h:n=a.length+i):(a++b)[n]? = b[i]?:=by
 rw[h,List.getElem?_append_right (by omega)]
 congr 1
 omega
theorem aMX (v:SV) (l:List Int) (h:v.B=some l):(Dj v)[0]? = some (.row 23 1 l.length (bI l)):=by simp[Dj,h,rl]
theorem aMY (v:SV) (l:List kO) (h:v.L=some l):(Dj v)[nB v]? = some (.row 100 34 l.length (cW l)):=by
 unfold Dj;rw[nM _ _ _ 0 (by simp[nB]),h];rfl
theorem aMZ (v:SV) (l:List Int) (h:v.Q=some l):(Dj v)[nL v]? = some (.row 3 1 l.length (aK l)):=by
 unfold Dj;rw[nM _ _ _ _ (show nL v=_+_ from rfl),nM _ _ _ 0 (by simp),h];rfl
theorem aM0 (v:SV) (l:List sG) (h:v.E=some l):(Dj v)[nQ v]? = some (.row 87 67 l.length (dM l)):=by
 unfold Dj;rw[nM _ _ _ ((rl 100 34 cW v.L).length+(rl 3 1 aK v.Q).length) (by simp[nQ,nL,nB,Nat.add_assoc]),nM _ _ _ _ rfl,nM _ _ _ 0 (by simp),h];rfl
theorem aG5 (v:SV) (l:List Block) (h:v.O=some l):(Dj v)[nE v]? = some (.row 74 238 l.length (aF l)):=by
 unfold Dj;rw[nM _ _ _ ((rl 100 34 cW v.L).length+((rl 3 1 aK v.Q).length+(rl 87 67 dM v.E).length)) (by simp[nE,nQ,nL,nB,Nat.add_assoc]),nM _ _ _ _ rfl,nM _ _ _ _ rfl,nM _ _ _ 0 (by simp),h];rfl
theorem aAh (v:SV):(Dj v)[nO v]? = some (.row 76 240 v.ns.length (bU v.ns)):=by
 unfold Dj;rw[nM _ _ _ ((rl 100 34 cW v.L).length+((rl 3 1 aK v.Q).length+((rl 87 67 dM v.E).length+(rl 74 238 aF v.O).length))) (by simp[nO,nE,nQ,nL,nB,Nat.add_assoc]),nM _ _ _ _ rfl,nM _ _ _ _ rfl,nM _ _ _ _ rfl,nM _ _ _ 0 (by simp)];rfl
theorem XE (v:SV) (l:List Table) (h:v.T=some l):(Dj v)[nO v+1]? = some (.row 118 34 l.length (aI l)):=by
 unfold Dj;rw[nM _ _ _ ((rl 100 34 cW v.L).length+((rl 3 1 aK v.Q).length+((rl 87 67 dM v.E).length+((rl 74 238 aF v.O).length+1)))) (by simp[nO,nE,nQ,nL,nB,Nat.add_assoc]),nM _ _ _ _ rfl,nM _ _ _ _ rfl,nM _ _ _ _ rfl,nM _ _ _ _ rfl,nM _ _ _ 0 (by simp),h];rfl
end Go.Ab.Tryz
