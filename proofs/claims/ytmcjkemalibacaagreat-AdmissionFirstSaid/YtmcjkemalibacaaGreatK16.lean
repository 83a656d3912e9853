/-
  Part 16 of the proof: an evaluator of programs, its soundness, and what functions of this program compute.
-/
import Derived.Test.YtmcjkemalibacaaGreatK15
import Derived.Test.YtmcjkemalibacaaGreatK10
import Derived.Test.YtmcjkemalibacaaGreatK13
import Derived.Test.YtmcjkemalibacaaGreatK14
import Derived.Test.YtmcjkemalibacaaGreatK12
import Derived.Test.YtmcjkemalibacaaGreatK11
set_option linter.all false
set_option maxRecDepth 20000
set_option maxHeartbeats 40000000
namespace Go.Ab.Tryz
open Classical Go.Proofs Go.Ab
structure SB (a r:List Node):Prop where
 blk:r.map (·.block)=a.map (·.block)
 up:r.map (·.up)=a.map (·.up)
theorem SB.refl (a:List Node):SB a a:=⟨rfl,rfl⟩
theorem SB.trans {a b c:List Node} (h:SB a b) (g:SB b c):SB a c:=⟨g.blk.trans h.blk,g.up.trans h.up⟩
theorem SB.len {a r:List Node} (h:SB a r):r.length=a.length:=by have:=congrArg List.length h.blk;simpa using this
theorem SB.block {a r:List Node} (h:SB a r) {j:Int} (j1:j.toNat < a.length):(nd r j).block=(nd a j).block:=by
 have h2:j.toNat < r.length:=by rw[h.len];exact j1
 have:=congrArg (fun l:List Block=>l[j.toNat]?) h.blk
 simpa [nd,j1,h2] using this
theorem SB.upE {a r:List Node} (h:SB a r) {j:Int} (j1:j.toNat < a.length):(nd r j).up=(nd a j).up:=by
 have h2:j.toNat < r.length:=by rw[h.len];exact j1
 have:=congrArg (fun l:List Int=>l[j.toNat]?) h.up
 simpa [nd,j1,h2] using this
theorem findR_map (l:List Node) (x:Root):findR l x=match (l.map (·.block)).findIdx? (fun b=>decide (b.root=x)) with
 | some k=>(k:Int)
 | none=>-1:=by
 unfold findR
 rw[List.findIdx?_map]
 rfl
theorem SB.findR {a r:List Node} (h:SB a r) (x:Root):findR r x=findR a x:=by rw[findR_map,findR_map,h.blk]
theorem setAt_SB (ns:List Node) (i to:Int):SB ns (setAt ns i to):=by
 have key:∀ {β:Type} (f:Node→β),(∀ n s,f (withSt n s)=f n)→(setAt ns i to).map f=ns.map f:=by
  intro β f hf
  unfold setAt
  rw[List.map_set]
  apply List.ext_getElem (by simp)
  intro j h1 h2
  rw[List.getElem_set]
  split
  ·rename_i e
   have h3:j < ns.length:=by simpa using h2
   subst e
   simp[hf,nd,h3]
  ·rfl
 exact⟨key _ fun _ _=>rfl,key _ fun _ _=>rfl⟩
theorem chg_SB {to never:Int}:∀ (l:List Int) (ns r:List Node),chg to never l ns=some r→SB ns r
 | [],ns,r,h=>by simp only[chg,Option.some.injEq] at h;rw[h];exact SB.refl _
 | i :: l,ns,r,h=>by
   simp only[chg] at h
   split at h
   ·cases h
   ·exact (setAt_SB ns i to).trans (chg_SB l _ _ h)
def JudR (ns:List Node) (x:AV):Prop:=(∃ e:Int,e≠0∧x=.tup [.agg [.v (.slice none 0 0)],.v (.int .i64 e)])∨∃ r,SB ns r∧x=.tup [.agg (cTree ⟨r⟩),.v (.int .i64 0)]
theorem JudR.err (ns:List Node) {e:Int} (h:e≠0):JudR ns (err2 e):=.inl ⟨e,h,rfl⟩
theorem ra_jud (ns:List Node) (i:Int):JudR ns (raV ns i):=by
 unfold raV
 split
 ·unfold stA
  split
  ·exact .err _ (by decide)
  ·rename_i r hr;exact .inr ⟨r,chg_SB _ _ _ hr,rfl⟩
 ·exact .err _ (by decide)
theorem co_jud (ns:List Node) (i:Int):JudR ns (coV ns i):=by
 unfold coV
 split
 ·unfold stA
  split
  ·exact .err _ (by decide)
  ·rename_i r hr;exact .inr ⟨r,chg_SB _ _ _ hr,rfl⟩
 ·exact .err _ (by decide)
theorem JudR.of {a b:List Node} (h:SB a b) {x:AV} (g:JudR b x):JudR a x:=g.imp id fun ⟨r,h1,h2⟩=>⟨r,h.trans h1,h2⟩
theorem jud_SB (ns:List Node) (i:Int) (v:Verdict) (l:List Int):JudR ns (judV ns i v l):=by
 unfold judV
 split
 ·exact .err _ (by decide)
 split
 ·exact ra_jud ns i
 split
 ·unfold cndV
  split
  ·exact .err _ (by decide)
  split
  ·split
   ·exact .err _ (by decide)
   ·rename_i r hr;exact .of (chg_SB _ _ _ hr) (co_jud _ _)
  ·exact co_jud _ _
 split
 ·exact .inr ⟨ns,SB.refl ns,rfl⟩
 ·exact .err _ (by decide)
theorem GI.tree {s:Store} {v:SV} {q:Int} (h:GI s v q) {r:List Node} (hs:SB v.ns r):GI { s with tree:=⟨.sl r.length (csNode r)⟩} { v with ns:=r } q:=by
 have hl:=hs.len
 have hp:=h.pos
 refine⟨⟨h.sd.bal,h.sd.latest,h.sd.equiv,h.sd.early,h.sd.orphans,rfl,h.sd.tables,h.sd.eV,h.sd.tB,h.sd.nB,h.sd.nL,h.sd.nQ,h.sd.nE,h.sd.nO,h.sd.nT,by rw[hl];exact h.sd.nn⟩,fun i i0 i1=>?_, ?_,by show 0 < r.length;omega,by rw[hl];exact h.nl,h.nlB,h.spe,h.lat,h.nB,h.nO,h.nOB,h.nE,h.nEB,h.nT,h.nTB,h.nQ,h.nQB, ?_⟩
 ·have i1:i < (r.length:Int):=i1
  show 0≤(nd r i).up∧(nd r i).up < i
  rw[hs.upE (by omega)];exact h.up i i0 (by omega)
 ·show (nd r 0).up=-1
  rw[hs.upE (by show (0:Nat) < _;omega)];exact h.up0
 ·show 0≤findR r s.finality.just.root
  rw[hs.findR];exact h.just
theorem RG.tree {s:Store} {v:SV} (h:RG s v) {r:List Node} (hs:SB v.ns r) (x:TreeA):RG { s with tree:=x } { v with ns:=r } :=
 ⟨h.now,h.j,h.f,fun n hn=>by
  have:n.block∈r.map (·.block):=List.mem_map.2 ⟨n,hn,rfl⟩
  rw[hs.blk] at this
  obtain⟨a,ha,e⟩:=List.mem_map.1 this
  rw[← e];exact h.nd a ha,h.or,fun n hn=>by
  have:n.block∈r.map (·.block):=List.mem_map.2 ⟨n,hn,rfl⟩
  rw[hs.blk] at this
  obtain⟨a,ha,e⟩:=List.mem_map.1 this
  rw[← e];exact h.rt a ha,h.fe,by
  have e:=congrArg (List.map fun b:Block=>b.root) hs.blk
  rw[List.map_map,List.map_map] at e
  show (r.map ((fun b:Block=>b.root) ∘ fun n=>n.block)).Nodup
  rw[e];exact h.ds,h.tb,⟨h.ne.q,h.ne.e,h.ne.o,h.ne.t,h.ne.ea,h.ne.tb⟩⟩
structure TQ (Q:List Request) (tag:Int):Prop where
 pos:1≤tag
 all:∀ r∈Q,1≤r.tagged.tag∧r.tagged.tag < tag∧r.due=0
 asc:Q.Pairwise fun a b=>a.tagged.tag < b.tagged.tag
structure TR (R:List Request) (tag:Int):Prop where
 all:∀ r∈R,r.tagged.tag < tag
 asc:R.Pairwise fun a b=>¬ lessQ b a
def InT (ns:List Node) (l:List Request):Prop:=∀ r∈l,0≤findR ns r.block
theorem TQ.sub {P Q:List Request} {tag:Int} (h:TQ Q tag) (s:P.Sublist Q):TQ P tag:=⟨h.pos,fun r hr=>h.all r (s.subset hr),h.asc.sublist s⟩
theorem TR.sub {P Q:List Request} {tag:Int} (h:TR Q tag) (s:P.Sublist Q):TR P tag:=⟨fun r hr=>h.all r (s.subset hr),h.asc.sublist s⟩
theorem TR.mono {Q:List Request} {t t':Int} (h:TR Q t) (l:t≤t'):TR Q t':=⟨fun r hr=>by have:=h.all r hr;omega,h.asc⟩
theorem InT.sub {ns:List Node} {P Q:List Request} (h:InT ns Q) (s:P.Sublist Q):InT ns P:=fun r hr=>h r (s.subset hr)
theorem TQ.app {Q:List Request} {tag:Int} (h:TQ Q tag) (b:Root) (n:Int):TQ (Q ++ [⟨⟨tag⟩,b,n,0⟩]) (tag+1):=by
 refine⟨by have:=h.pos;omega,fun r hr=>?_,List.pairwise_append.2 ⟨h.asc,List.pairwise_singleton ..,fun a ha b hb=>?_⟩⟩
 ·rcases List.mem_append.1 hr with hr | hr
  ·obtain⟨h1,h2,h3⟩:=h.all r hr;exact⟨h1,by omega,h3⟩
  ·rw[List.mem_singleton] at hr;subst hr;exact⟨h.pos,by show tag < tag+1;omega,rfl⟩
 ·rw[List.mem_singleton] at hb;subst hb;exact (h.all a ha).2.1
theorem InT.app {ns:List Node} {Q:List Request} (h:InT ns Q) {x:Request} (hx:0≤findR ns x.block):InT ns (Q ++ [x]):=fun r hr=>by
 rcases List.mem_append.1 hr with hr | hr
 ·exact h r hr
 ·rw[List.mem_singleton] at hr;subst hr;exact hx
theorem tagw {x:Int} (h1:1≤x) (h2:x≤1000000):IntKind.u64.wrap (x+1)=x+1:=wrap_u64 _ (by omega) (by omega)
theorem dueF_inv (ns:List Node) (now:Int):∀ (l:List Request) (a:(Option (List Request) × Int) × List Request),TQ (ol a.1.1) a.1.2→InT ns (ol a.1.1)→a.1.2+l.length≤1000000 →
 TQ (ol (dueF ns now a l).1.1) (dueF ns now a l).1.2∧InT ns (ol (dueF ns now a l).1.1)∧a.1.2≤(dueF ns now a l).1.2∧(dueF ns now a l).1.2≤a.1.2+l.length∧(dueF ns now a l).2=a.2 ++ l.filter fun r=>decide (now < r.due)
 | [],a,h,hi,hb=>⟨h,hi,by show a.1.2≤a.1.2;omega,by show a.1.2≤a.1.2+((0:Nat):Int);omega,(List.append_nil _).symm⟩
 | r :: l,a,h,hi,hb=>by
   have hp:=h.pos
   rw[List.length_cons] at hb
   have hw:=tagw hp (by omega)
   have e0:dueF ns now a (r :: l)=dueF ns now (dueR ns now a r) l:=rfl
   rw[e0,List.length_cons]
   by_cases g1:now < r.due
   ·have e1:dueR ns now a r=(a.1,a.2 ++ [r]):=if_pos g1
    rw[e1]
    obtain⟨h1,h2,h3,h4,h5⟩:=dueF_inv ns now l (a.1,a.2 ++ [r]) h hi (by dsimp only;omega)
    refine⟨h1,h2,h3,by dsimp only at h4;omega, ?_⟩
    rw[h5,List.filter_cons,if_pos (decide_eq_true g1)];simp
   ·rw[List.filter_cons,if_neg (by simpa using g1)]
    by_cases g2:OptN ns r.block
    ·have e1:dueR ns now a r=((some (ol a.1.1 ++ [⟨⟨a.1.2⟩,r.block,r.tries,0⟩]),IntKind.u64.wrap (a.1.2+1)),a.2):=(if_neg g1).trans (if_pos g2)
     rw[e1,hw]
     obtain⟨h1,h2,h3,h4,h5⟩:=dueF_inv ns now l ((some (ol a.1.1 ++ [(⟨⟨a.1.2⟩,r.block,r.tries,0⟩:Request)]),a.1.2+1),a.2) (h.app _ _) (hi.app g2.1) (by dsimp only;omega)
     exact⟨h1,h2,by dsimp only at h3;omega,by dsimp only at h4;omega,h5⟩
    ·have e1:dueR ns now a r=a:=(if_neg g1).trans (if_neg g2)
     rw[e1]
     obtain⟨h1,h2,h3,h4,h5⟩:=dueF_inv ns now l a h hi (by omega)
     exact⟨h1,h2,h3,by omega,h5⟩
theorem opF_inv (ns:List Node):∀ (l:List Root) (a:Option (List Request) × Int),TQ (ol a.1) a.2→InT ns (ol a.1)→a.2+l.length≤1000000 →
 TQ (ol (opF ns a l).1) (opF ns a l).2∧InT ns (ol (opF ns a l).1)∧a.2≤(opF ns a l).2∧(opF ns a l).2≤a.2+l.length
 | [],a,h,hi,hb=>⟨h,hi,by show a.2≤a.2;omega,by show a.2≤a.2+((0:Nat):Int);omega⟩
 | r :: l,a,h,hi,hb=>by
   have hp:=h.pos
   rw[List.length_cons] at hb
   have hw:=tagw hp (by omega)
   have e0:opF ns a (r :: l)=opF ns (opR ns a r) l:=rfl
   rw[e0,List.length_cons]
   by_cases g2:OptN ns r
   ·have e1:opR ns a r=(some (ol a.1 ++ [⟨⟨a.2⟩,r,0,0⟩]),IntKind.u64.wrap (a.2+1)):=if_pos g2
    rw[e1,hw]
    obtain⟨h1,h2,h3,h4⟩:=opF_inv ns l (some (ol a.1 ++ [(⟨⟨a.2⟩,r,0,0⟩:Request)]),a.2+1) (h.app _ _) (hi.app g2.1) (by dsimp only;omega)
    exact⟨h1,h2,by dsimp only at h3;omega,by dsimp only at h4;omega⟩
   ·have e1:opR ns a r=a:=if_neg g2
    rw[e1]
    obtain⟨h1,h2,h3,h4⟩:=opF_inv ns l a h hi (by omega)
    exact⟨h1,h2,h3,by omega⟩
theorem dueF_ne (ns:List Node) (now:Int):∀ (l:List Request) (a:(Option (List Request) × Int) × List Request),a.1.1≠some []→(dueF ns now a l).1.1≠some []
 | [],a,h=>h
 | r :: l,a,h=>by
   have e0:dueF ns now a (r :: l)=dueF ns now (dueR ns now a r) l:=rfl
   rw[e0]
   refine dueF_ne ns now l _ ?_
   unfold dueR
   split
   ·exact h
   split
   ·simp
   ·exact h
theorem opF_ne (ns:List Node):∀ (l:List Root) (a:Option (List Request) × Int),a.1≠some []→(opF ns a l).1≠some []
 | [],a,h=>h
 | r :: l,a,h=>by
   have e0:opF ns a (r :: l)=opF ns (opR ns a r) l:=rfl
   rw[e0]
   refine opF_ne ns l _ ?_
   unfold opR
   split
   ·simp
   ·exact h
noncomputable def bubL:List Request→Request→List Request→List Request
 | [],x,B=>x :: B
 | y :: A,x,B=>if lessQ x y then bubL A x (y :: B) else (y :: A).reverse ++ x :: B
theorem bubN_bubL:∀ (A:List Request) (x:Request) (B:List Request),bubN A.length (A.reverse ++ x :: B)=bubL A x B
 | [],x,B=>rfl
 | y :: A,x,B=>by
   have e1:gx zRequest ((y :: A).reverse ++ x :: B) ((A.length+1:Nat):Int)=x:=by
    unfold gx
    rw[Int.toNat_natCast,List.reverse_cons,List.append_assoc,List.getD_eq_getElem?_getD,List.getElem?_append_right (by simp),List.length_reverse]
    simp
   have e2:gx zRequest ((y :: A).reverse ++ x :: B) (A.length:Int)=y:=by
    unfold gx
    rw[Int.toNat_natCast,List.reverse_cons,List.append_assoc,List.getD_eq_getElem?_getD,List.getElem?_append_right (by simp),List.length_reverse]
    simp
   have e3:(((y :: A).reverse ++ x :: B).set (A.length+1) y).set A.length x=A.reverse ++ x :: y :: B:=by
    rw[List.reverse_cons,List.append_assoc,List.set_append_right _ _ (by simp),List.length_reverse,List.set_append_right _ _ (by simp),List.length_reverse]
    simp
   rw[List.length_cons]
   have e0:∀ l,bubN (A.length+1) l=if lessQ (gx zRequest l ((A.length+1:Nat):Int)) (gx zRequest l (A.length:Int)) then bubN A.length ((l.set (A.length+1) (gx zRequest l (A.length:Int))).set A.length (gx zRequest l ((A.length+1:Nat):Int))) else l:=fun l=>rfl
   rw[e0,e1,e2,e3]
   unfold bubL
   split
   ·exact bubN_bubL A x (y :: B)
   ·rfl
theorem bubL_mem {r:Request}:∀ (A:List Request) (x:Request) (B:List Request),r∈bubL A x B↔r∈A∨r=x∨r∈B
 | [],x,B=>by simp[bubL]
 | y :: A,x,B=>by
   unfold bubL
   split
   ·rw[bubL_mem A x (y :: B)];simp only[List.mem_cons]
    constructor
    ·rintro (h | h | h | h)
     ·exact .inl (.inr h)
     ·exact .inr (.inl h)
     ·exact .inl (.inl h)
     ·exact .inr (.inr h)
    ·rintro ((h | h) | h | h)
     ·exact .inr (.inr (.inl h))
     ·exact .inl h
     ·exact .inr (.inl h)
     ·exact .inr (.inr (.inr h))
   ·simp[or_assoc,or_left_comm]
theorem lessQ_asymm {a b:Request} (h:lessQ a b):¬ lessQ b a:=by unfold lessQ at *;omega
theorem lessQ_tr {a b c:Request} (h1:¬ lessQ b a) (h2:¬ lessQ c b):¬ lessQ c a:=by unfold lessQ at *;omega
theorem bubL_asc:∀ (A:List Request) (x:Request) (B:List Request),(A.reverse ++ B).Pairwise (fun a b=>¬ lessQ b a)→(∀ b∈B,lessQ x b)→(bubL A x B).Pairwise fun a b=>¬ lessQ b a
 | [],x,B,h,hb=>List.pairwise_cons.2 ⟨fun b m=>lessQ_asymm (hb b m),h⟩
 | y :: A,x,B,h,hb=>by
   unfold bubL
   have h0:=h
   rw[List.reverse_cons,List.append_assoc] at h
   split
   ·rename_i g
    exact bubL_asc A x (y :: B) h fun b m=>(List.mem_cons.1 m).elim (fun e=>by rw[e];exact g) (hb b)
   ·rename_i g
    obtain⟨p1,p2,p3⟩:=List.pairwise_append.1 h0
    refine List.pairwise_append.2 ⟨p1,List.pairwise_cons.2 ⟨fun b m=>lessQ_asymm (hb b m),p2⟩,fun a ha b m=>?_⟩
    rcases List.mem_cons.1 m with rfl | m
    ·rw[List.reverse_cons,List.mem_append,List.mem_singleton] at ha
     rcases ha with ha | rfl
     ·have:=(List.pairwise_append.1 h).2.2 a ha y (by simp)
      exact lessQ_tr this g
     ·exact g
    ·exact p3 a ha b m
theorem bub_eq (R:List Request) (x:Request):bubN R.length (R ++ [x])=bubL R.reverse x []:=by
 have:=bubN_bubL R.reverse x []
 rwa [List.reverse_reverse,List.length_reverse] at this
theorem TR.bub {R:List Request} {tag:Int} (h:TR R tag) {x:Request} (hx:x.tagged.tag < tag):TR (bubN R.length (R ++ [x])) tag:=by
 rw[bub_eq]
 refine⟨fun r hr=>?_,bubL_asc _ _ _ (by rw[List.reverse_reverse,List.append_nil];exact h.asc) (by simp)⟩
 rcases (bubL_mem _ _ _).1 hr with hr | rfl | hr
 ·exact h.all r (List.mem_reverse.1 hr)
 ·exact hx
 ·cases hr
theorem InT.bub {ns:List Node} {R:List Request} (h:InT ns R) {x:Request} (hx:0≤findR ns x.block):InT ns (bubN R.length (R ++ [x])):=by
 rw[bub_eq]
 intro r hr
 rcases (bubL_mem _ _ _).1 hr with hr | rfl | hr
 ·exact h r (List.mem_reverse.1 hr)
 ·exact hx
 ·cases hr
structure TI0 (t:State) (v:SV) (Q R:Option (List Request)) (q m:Int):Prop where
 td:TD t v Q R
 gi:GI t.store v q
 rg:RG t.store v
 cfg:∃ b,CfgOk t.store.cFg b
 tq:TQ (ol Q) t.nextTag
 tr:TR (ol R) t.nextTag
 nt:t.nextTag≤1+m
 lq:((ol Q).length:Int)≤m
 lr:((ol R).length:Int)≤t.store.cFg.lim.retryL
 mB:m≤100000
 qn:Q≠some []
 rn:R≠some []
structure TI (t:State) (v:SV) (Q R:Option (List Request)) (q m:Int):Prop extends TI0 t v Q R q m where
 inQ:InT v.ns (ol Q)
 inR:InT v.ns (ol R)
theorem TI0.mono {t:State} {v:SV} {Q R:Option (List Request)} {q m q' m':Int} (h:TI0 t v Q R q m) (h1:q≤q') (h2:q'≤900000) (h3:m≤m') (h4:m'≤100000):TI0 t v Q R q' m' :=
 ⟨h.td,h.gi.mono h1 h2,h.rg,h.cfg,h.tq,h.tr,by have:=h.nt;omega,by have:=h.lq;omega,h.lr,h4,h.qn,h.rn⟩
theorem TI.mono {t:State} {v:SV} {Q R:Option (List Request)} {q m q' m':Int} (h:TI t v Q R q m) (h1:q≤q') (h2:q'≤900000) (h3:m≤m') (h4:m'≤100000):TI t v Q R q' m':=⟨h.toTI0.mono h1 h2 h3 h4,h.inQ,h.inR⟩
theorem TI0.store {t:State} {v:SV} {Q R:Option (List Request)} {q m:Int} (h:TI0 t v Q R q m) {s':Store} {v':SV} {q':Int} (g:GI s' v' q') (r:RG s' v') (c:s'.cFg=t.store.cFg):TI0 { t with store:=s' } v' Q R q' m :=
 ⟨⟨g.sd,h.td.req,h.td.ret,h.td.nQ,h.td.nR⟩,g,r,by show ∃ b,CfgOk s'.cFg b;rw[c];exact h.cfg,h.tq,h.tr,h.nt,h.lq,by show _≤s'.cFg.lim.retryL;rw[c];exact h.lr,h.mB,h.qn,h.rn⟩
theorem TI.emit {t:State} {v:SV} {Q R:Option (List Request)} {q m:Int} (h:TI t v Q R q m) (b:Bool) (c:Command):TI { t with sent:=b,last:=c } v Q R q m :=
 ⟨⟨⟨h.td.sd,h.td.req,h.td.ret,h.td.nQ,h.td.nR⟩,h.gi,h.rg,h.cfg,h.tq,h.tr,h.nt,h.lq,h.lr,h.mB,h.qn,h.rn⟩,h.inQ,h.inR⟩
theorem TI.halt {t:State} {v:SV} {Q R:Option (List Request)} {q m:Int} (h:TI t v Q R q m) (b:Bool):TI { t with halted:=b } v Q R q m :=
 ⟨⟨⟨h.td.sd,h.td.req,h.td.ret,h.td.nQ,h.td.nR⟩,h.gi,h.rg,h.cfg,h.tq,h.tr,h.nt,h.lq,h.lr,h.mB,h.qn,h.rn⟩,h.inQ,h.inR⟩
theorem TI.over {t:State} {v:SV} {Q R:Option (List Request)} {q m:Int} (h:TI t v Q R q m) (b:Bool):TI { t with overflow:=b } v Q R q m :=
 ⟨⟨⟨h.td.sd,h.td.req,h.td.ret,h.td.nQ,h.td.nR⟩,h.gi,h.rg,h.cfg,h.tq,h.tr,h.nt,h.lq,h.lr,h.mB,h.qn,h.rn⟩,h.inQ,h.inR⟩
theorem TI0.retB {t:State} {v:SV} {Q R:Option (List Request)} {q m:Int} (h:TI0 t v Q R q m):t.store.cFg.lim.retryL≤256:=by obtain⟨b,hb⟩:=h.cfg;exact hb.retryL.2
theorem TI0.bal {t:State} {v:SV} {Q R:Option (List Request)} {q m:Int} (h:TI0 t v Q R q m):0 < (ol v.B).length∧(ol v.B).length≤64:=by
 obtain⟨b,hb⟩:=h.cfg
 have e:=h.gi.sd.bal.symm.trans hb.bal
 have n:=hb.nb
 cases hB:v.B with
 | none=>rw[hB] at e;cases e
 | some l =>
   rw[hB] at e
   have e:AV.sl l.length (csU64 l)=AV.sl b.length (csU64 b):=e
   injection e with e1 e2
   show 0 < l.length∧l.length≤64
   omega
theorem TI0.drop {t:State} {v:SV} {Q R:Option (List Request)} {q m:Int} (h:TI0 t v Q R q m):TI (drpS t v Q R) v (nz (knwL v.ns (ol Q))) (nz (knwL v.ns (ol R))) q m:=by
 have s1:(knwL v.ns (ol Q)).Sublist (ol Q):=List.filter_sublist
 have s2:(knwL v.ns (ol R)).Sublist (ol R):=List.filter_sublist
 have l1:=s1.length_le
 have l2:=s2.length_le
 have a1:=h.lq
 have a2:=h.lr
 refine⟨⟨h.td.drp,h.gi,h.rg,h.cfg, ?_, ?_,h.nt, ?_, ?_,h.mB,nz_ne _,nz_ne _⟩, ?_, ?_⟩
 ·rw[ol_nz];exact h.tq.sub s1
 ·rw[ol_nz];exact h.tr.sub s2
 ·rw[ol_nz];omega
 ·rw[ol_nz];show _≤t.store.cFg.lim.retryL;omega
 ·rw[ol_nz];intro r hr;exact of_decide_eq_true (List.mem_filter.1 hr).2
 ·rw[ol_nz];intro r hr;exact of_decide_eq_true (List.mem_filter.1 hr).2
theorem TI.due {t:State} {v:SV} {Q R:Option (List Request)} {q m:Int} (h:TI t v Q R q m) (hm:m+256≤100000):TI (dueS t v.ns Q R) v (dueP t v.ns Q R).1.1 (nz (dueP t v.ns Q R).2) q (m+256):=by
 have a1:=h.lq
 have a2:=h.lr
 have a3:=h.retB
 have a4:=h.nt
 obtain⟨h1,h2,h3,h4,h5⟩:=dueF_inv v.ns t.store.now (ol R) ((Q,t.nextTag),[]) h.tq h.inQ (by dsimp only;omega)
 have hl:=dueF_len v.ns t.store.now (ol R) ((Q,t.nextTag),[])
 rw[List.nil_append] at h5
 have e1:dueF v.ns t.store.now ((Q,t.nextTag),[]) (ol R)=dueP t v.ns Q R:=rfl
 rw[e1] at h1 h2 h3 h4 h5 hl
 dsimp only at h3 h4 hl
 have s2:(dueP t v.ns Q R).2.Sublist (ol R):=by rw[h5];exact List.filter_sublist
 have l2:=s2.length_le
 have hl1:=hl.1
 have:=h.mB
 refine⟨⟨⟨h.td.sd,rfl,rfl,by omega,by rw[ol_nz];omega⟩,h.gi,h.rg,h.cfg,h1, ?_, ?_,by omega, ?_,hm,dueF_ne v.ns t.store.now (ol R) ((Q,t.nextTag),[]) h.qn,nz_ne _⟩,h2, ?_⟩
 ·rw[ol_nz];exact (h.tr.sub s2).mono h3
 ·show (dueP t v.ns Q R).1.2≤_;omega
 ·rw[ol_nz];show _≤t.store.cFg.lim.retryL;omega
 ·rw[ol_nz];exact h.inR.sub s2
theorem TI.open {t:State} {v:SV} {Q R:Option (List Request)} {q m:Int} (h:TI t v Q R q m) (L:List Root) (hL:(L.length:Int)≤100) (hm:m+256≤100000):TI (opS t (opF v.ns (Q,t.nextTag) L)) v (opF v.ns (Q,t.nextTag) L).1 R q (m+256):=by
 have a1:=h.lq
 have a4:=h.nt
 obtain⟨h1,h2,h3,h4⟩:=opF_inv v.ns L (Q,t.nextTag) h.tq h.inQ (by dsimp only;omega)
 have hl:=opF_len v.ns (Q,t.nextTag) L
 dsimp only at h3 h4 hl
 refine⟨⟨h.td.opS _ (by omega),h.gi,h.rg,h.cfg,h1,h.tr.mono h3, ?_,by omega,h.lr,hm,opF_ne v.ns L (Q,t.nextTag) h.qn,h.rn⟩,h2,h.inR⟩
 show (opF v.ns (Q,t.nextTag) L).2≤_;omega
theorem TI.later {t:State} {v:SV} {Q R:Option (List Request)} {q m:Int} (h:TI t v Q R q m) {r:Request} (hr:r.tagged.tag < t.nextTag):∃ R',TI (ltrS t v.ns (ol R) r) v Q R' q m:=by
 unfold ltrS
 split
 ·exact⟨R,h⟩
 split
 ·exact⟨R,h.over true⟩
 ·rename_i g1 g2
  have g1:=Classical.not_not.1 g1
  have hl:(bubN (ol R).length (ol R ++ [ltrQ t r])).length=(ol R).length+1:=by rw[bubN_len,List.length_append,List.length_cons,List.length_nil]
  have a3:=h.retB
  refine⟨some (bubN (ol R).length (ol R ++ [ltrQ t r])),⟨⟨h.td.sd,h.td.req,rfl,h.td.nQ, ?_⟩,h.gi,h.rg,h.cfg,h.tq,h.tr.bub (x:=ltrQ t r) hr,h.nt,h.lq, ?_,h.mB,h.qn,fun e=>by injection e with e;rw[e] at hl;simp at hl⟩,h.inQ,h.inR.bub (x:=ltrQ t r) g1.1⟩
  ·show ((bubN (ol R).length (ol R ++ [ltrQ t r])).length:Int) < _;omega
  ·show ((bubN (ol R).length (ol R ++ [ltrQ t r])).length:Int)≤t.store.cFg.lim.retryL;omega
theorem TI.less {t:State} {v:SV} {Q R:Option (List Request)} {q m:Int} (h:TI t v Q R q m) (k:Nat):TI { t with requests:=ov csRequest (nz ((ol Q).take k ++ (ol Q).drop (k+1)))} v (nz ((ol Q).take k ++ (ol Q).drop (k+1))) R q m:=by
 have s:((ol Q).take k ++ (ol Q).drop (k+1)).Sublist (ol Q):=by rw[← List.eraseIdx_eq_take_drop_succ];exact List.eraseIdx_sublist ..
 have l1:=s.length_le
 have a1:=h.lq
 have:=h.td.nQ
 exact⟨⟨⟨h.td.sd,rfl,h.td.ret,by rw[ol_nz];omega,h.td.nR⟩,h.gi,h.rg,h.cfg,by rw[ol_nz];exact h.tq.sub s,h.tr,h.nt,by rw[ol_nz];omega,h.lr,h.mB,nz_ne _,h.rn⟩,by rw[ol_nz];exact h.inQ.sub s,h.inR⟩
theorem TI.tree {t:State} {v:SV} {Q R:Option (List Request)} {q m:Int} (h:TI t v Q R q m) {r:List Node} (hs:SB v.ns r) (b:Root):TI { t with store:={ t.store with tree:=⟨.sl r.length (csNode r)⟩,boost:=b }} { v with ns:=r } Q R q m:=by
 have g:=(h.gi.tree hs).boost b
 have e:=(h.rg.tree hs ⟨.sl r.length (csNode r)⟩).boost b
 exact⟨h.toTI0.store g e rfl,fun x hx=>by show 0≤findR r x.block;rw[hs.findR];exact h.inQ x hx,fun x hx=>by show 0≤findR r x.block;rw[hs.findR];exact h.inR x hx⟩
def mchP (Q:List Request) (tag:Int) (k:Nat):Prop:=(gx zRequest Q (k:Int)).tagged.tag=tag
theorem x27 {t:State} {v:SV} {Q R:Option (List Request)} (h:TD t v Q R) (w:Verdict):∃ x,callL Tryz.prog 27 [.agg (cState t),.agg (cVerdict w)]=some x ∧
 (((∀ j:Nat,j < (ol Q).length→¬ mchP (ol Q) w.tagged.tag j)∧x=.tup [.agg (cRequest zRequest),.agg (cState zState),.v (.int .i64 23)]) ∨
  ∃ k:Nat,k < (ol Q).length∧mchP (ol Q) w.tagged.tag k∧(∀ j:Nat,j < k→¬ mchP (ol Q) w.tagged.tag j)∧x=.tup [.agg (cRequest (gx zRequest (ol Q) (k:Int))),.agg (cState { t with requests:=ov csRequest (nz ((ol Q).take k ++ (ol Q).drop (k+1)))}),.v (.int .i64 0)]):=by
 have hfl:=h.fl
 have nQ:=h.nQ
 have nQ1:((ol Q).length:Int) < 1000000:=by omega
 have hzs:Flat (.agg (cState zState)):=by simp only[FLb,zState,zStore,zConfig,zVotes,zQueues,zTreeA,and_self]
 rw[cG Tryz.func27 rfl ok27 (by kernel_rfl) rfl]
 simp only[ZG,seval,Bool.false_and,Prod.mk.injEq,DY27]
 refine use_loopG (fun m st=>∃ k:Nat,(st.env 2=.ptr 2 0 0∧st.heap 2 0=some (.cells (cState t))∧st.env 3=.ptr 3 0 0∧st.heap 3 0=some (.cells (cVerdict w))∧st.env 4=.ptr 4 0 0∧st.heap 4 0=some (.cells (cRequest zRequest))∧st.env 5=.ptr 5 0 0∧st.heap 5 0=some (.cells (cState zState))∧st.env 7=.v (.int .i64 k))∧(∀ j:Nat,j < k→¬ mchP (ol Q) w.tagged.tag j)∧k≤(ol Q).length∧m=(ol Q).length - k)
  (fun e st=>(e=.ret∧∃ (k:Nat) (X:AV),(st.env 4=.ptr 4 0 0∧st.heap 4 0=some (.cells (cRequest (gx zRequest (ol Q) (k:Int))))∧st.env 5=.ptr 5 0 0∧st.heap 5 0=some (.cells (cState { t with requests:=X }))∧st.env 6=.v (.int .i64 0))∧((X=.v (.slice none 0 0)∧(ol Q).take k ++ (ol Q).drop (k+1)=[])∨∃ g,X=.own 42 g∧(ol Q).take k ++ (ol Q).drop (k+1)≠[]∧st.heap 42 g=some (.row 63 35 ((ol Q).take k ++ (ol Q).drop (k+1)).length (csRequest ((ol Q).take k ++ (ol Q).drop (k+1)))))∧k < (ol Q).length∧mchP (ol Q) w.tagged.tag k∧(∀ j:Nat,j < k→¬ mchP (ol Q) w.tagged.tag j)) ∨
   (e=.exit 0∧(st.env 4=.ptr 4 0 0∧st.heap 4 0=some (.cells (cRequest zRequest))∧st.env 5=.ptr 5 0 0∧st.heap 5 0=some (.cells (cState zState)))∧∀ j:Nat,j < (ol Q).length→¬ mchP (ol Q) w.tagged.tag j)) (ol Q).length ?step ?start ?rest
 case step =>
  rintro m st ⟨k,hI,hj,hk,hm⟩
  by_cases hlt:(k:Int) < (ol Q).length
  case neg =>
   apply oTG (.exit 0)
   ·simp only[ZG,seval,Bool.false_and,Prod.mk.injEq,DY27,hI,h.req,hlt]
    rfl
   ·exact .inr ⟨rfl,by simp only[E8,seval,hI],fun j hj'=>hj j (by omega)⟩
  have q0:(0:Int)≤k:=by omega
  have q2:(k:Int)≤((ol Q).length:Int):=by omega
  have q3:(0:Int)≤((k+1:Nat):Int):=by omega
  have q4:((k+1:Nat):Int)≤((ol Q).length:Int):=by omega
  have hw:IntKind.i64.wrap ((k:Int)+1)=((k+1:Nat):Int):=by rw[w64 _ (by omega) (by omega)];omega
  have n1:((((ol Q).take k).length:Nat):Int) < 1000000:=by rw[List.length_take];omega
  have n2:((((ol Q).drop (k+1)).length:Nat):Int) < 1000000:=by rw[List.length_drop];omega
  have e1:ol (Q.map (·.take k))=(ol Q).take k:=by cases Q<;>simp[ol]
  have e2:ol (Q.map (·.drop (k+1)))=(ol Q).drop (k+1):=by cases Q<;>simp[ol]
  by_cases hh:mchP (ol Q) w.tagged.tag k
  ·have hh':(gx zRequest (ol Q) (k:Int)).tagged.tag=w.tagged.tag:=hh
   obtain⟨LL,hLL⟩:∃ LL,(ol Q).take k ++ (ol Q).drop (k+1)=LL:=⟨_,rfl⟩
   by_cases hz:LL=[]
   ·have hT:((ol Q).take k).length=0:=by have:=congrArg List.length hLL;rw[hz,List.length_append] at this;simp only[List.length_nil] at this;omega
    have hD:((ol Q).drop (k+1)).length=0:=by have:=congrArg List.length hLL;rw[hz,List.length_append] at this;simp only[List.length_nil] at this;omega
    apply oTG (.ret)
    ·simp only[ZG,seval,Bool.false_and,Prod.mk.injEq,DY27,hI,h.req,hlt,q0,q2,q3,q4,hw,bt hh',Int.toNat_natCast,ev_app0,ev_app1,sl54,Option.isSome_some,Option.map_some,Option.some.injEq,hT,hD,e1,e2]
     rfl
    ·exact .inl ⟨rfl,k,.v (.slice none 0 0),by simp only[E8,seval,hI]<;>rfl,.inl ⟨rfl,hLL.trans hz⟩,by omega,hh,hj⟩
   have hLn:(LL.length=0)=False:=eq_false fun h=>hz (List.length_eq_zero_iff.1 h)
   have n3:((LL.length:Nat):Int) < 1000000:=by rw[← hLL,List.length_append,List.length_take,List.length_drop];omega
   by_cases hk0:k=0
   ·have hT:((ol Q).take k).length=0:=by rw[hk0];rfl
    have hD:(ol Q).drop (k+1)=LL:=by rw[← hLL,hk0];rfl
    apply oTG (.ret)
    ·simp only[ZG,seval,Bool.false_and,Prod.mk.injEq,DY27,hI,h.req,hlt,q0,q2,q3,q4,hw,bt hh',Int.toNat_natCast,ev_app0,ev_app1,sl54,Option.isSome_some,Option.map_some,Option.some.injEq,hT,hD,hLn,anoRequests _ n3,e1,e2]
     rfl
    ·exact .inl ⟨rfl,k,_,by simp only[E8,seval,hI]<;>rfl,.inr ⟨_,rfl,by rw[hLL];exact hz,by rw[hLL];simp only[E8,seval]<;>rfl⟩,by omega,hh,hj⟩
   ·have hT:(((ol Q).take k).length=0)=False:=eq_false (by rw[List.length_take];omega)
    apply oTG (.ret)
    ·simp only[ZG,seval,Bool.false_and,Prod.mk.injEq,DY27,hI,h.req,hlt,q0,q2,q3,q4,hw,bt hh',Int.toNat_natCast,ev_app0,ev_app1,sl54,Option.isSome_some,Option.map_some,Option.some.injEq,hT,anoRequests _ n1,aooRequests _ _ _ _ n1 n2,e1,e2]
     rfl
    ·exact .inl ⟨rfl,k,_,by simp only[E8,seval,hI]<;>rfl,.inr ⟨_,rfl,by rw[hLL];exact hz,by simp only[E8,seval]<;>rfl⟩,by omega,hh,hj⟩
  ·have hh':¬ (gx zRequest (ol Q) (k:Int)).tagged.tag=w.tagged.tag:=hh
   apply oNG ((ol Q).length - (k+1))
   ·simp only[ZG,seval,Bool.false_and,Prod.mk.injEq,DY27,hI,h.req,hlt,q0,hw,bf hh']
    rfl
   ·exact⟨k+1,by simp only[E8,seval,hI],fun j hj'=>(Nat.lt_succ_iff_lt_or_eq.1 hj').elim (hj j) fun e=>by subst e;exact hh,by omega,rfl⟩
 case start=>exact⟨0,by simp only[E8,seval]<;>rfl,fun j hj=>by omega,by omega,by omega⟩
 case rest =>
  rintro e st (⟨rfl,k,X,hI,hX,hk,hh,hj⟩ | ⟨rfl,hI,hj⟩)
  ·rcases hX with ⟨rfl,hz⟩ | ⟨g,rfl,hz,hg⟩
   ·have hfz:Flat (.agg (cState { t with requests:=.v (.slice none 0 0)})):=(fl_State _).2 ⟨hfl.1,hfl.2.1,hfl.2.2.1,hfl.2.2.2.1,hfl.2.2.2.2.1,hfl.2.2.2.2.2.1,hfl.2.2.2.2.2.2.1,.v _,hfl.2.2.2.2.2.2.2.2⟩
    simp only[ZG,seval,Bool.false_and,Prod.mk.injEq,DY27,hI]
    exact⟨_,xthree rfl (by simp only[resA,Z8,seval,hI]<;>rfl) (by simp only[resA,Z8,seval,hI]<;>rfl) (by simp only[resA,E8,seval,hI]<;>rfl) (expo_id (.agg _ (flat_cRequest _))) (expo_id hfz) (by simp only[Z8,seval]<;>rfl),.inr ⟨k,hk,hh,hj,by rw[hz,show nz ([]:List Request)=none from if_pos rfl];rfl⟩⟩
   ·simp only[ZG,seval,Bool.false_and,Prod.mk.injEq,DY27,hI,hg]
    exact⟨_,xthree rfl (by simp only[resA,Z8,seval,hI]<;>rfl) (by simp only[resA,Z8,seval,hI]<;>rfl) (by simp only[resA,E8,seval,hI]<;>rfl) (expo_id (.agg _ (flat_cRequest _))) (by simp only[Z8,seval,hI,hg,expo_aggq,exq_State,exq_Store,expo1_ownF,exFRequest,expo1_id,FLb,hfl]<;>rfl) (by simp only[Z8,seval]<;>rfl),.inr ⟨k,hk,hh,hj,by rw[show nz ((ol Q).take k ++ (ol Q).drop (k+1))=some _ from if_neg hz];rfl⟩⟩
  ·simp only[ZG,seval,Bool.false_and,Prod.mk.injEq,DY27,hI]
   exact⟨_,by apply xthree;rfl;all_goals simp only[keep_none,resA,Z8,seval,hI,hzs]<;>rfl,.inl ⟨hj,rfl⟩⟩
theorem e222 (ns:List Node) (hu:UpOk ns) (hr:(nd ns 0).up=-1) (hn:(ns.length:Int) < 1000000) (i:Int) (w:Verdict) (l:List Int) (hl:(l.length:Int) < 1000000) (st:St) (a g:Nat) (d:Option Nat) (hh:st.heap a g=some (.row 3 1 l.length (csInt l))) :
 callEat (callL Tryz.prog) 222 [.agg (cTree ⟨ns⟩),.v (.int .i64 i),.agg (cVerdict w),.own a g] st d=some { dst:=d,val:=judV ns i w l,upd:=some (a,g,none)}:=by
 rw[eat_one (s:=a) (k:=g) (by rw[List.flatMap_cons,List.flatMap_cons,List.flatMap_cons,flat_keys (flatT _),flat_keys (.v _),flat_keys (.agg _ (flat_cVerdict w))];rfl) (by intro y hy;simp only[List.mem_cons,List.not_mem_nil,or_false] at hy;rcases hy with rfl | rfl | rfl | rfl;exact .inl (flatT _);exact .inl (.v _);exact .inl (.agg _ (flat_cVerdict w));exact .inr (.inl ⟨a,g,rfl⟩)),
  List.map_cons,List.map_cons,List.map_cons,List.map_cons,List.map_nil,expo_id (flatT _),expo_id (.v _),expo_id (.agg _ (flat_cVerdict w)),expo_ownI hh,optAll_some,optAll_some,optAll_some,optAll_some,optAll_nil]
 exact EQ_of (c222 ns hu hr hn i w l hl (.inl rfl)) (flat_judV ns i w l)
theorem x206 {t:State} {v:SV} {Q R:Option (List Request)} {q m:Int} (h:TI t v Q R q m) (w:Verdict) :
 ∃ x,callL Tryz.prog 206 [.agg (cState t),.agg (cVerdict w)]=some x∧∃ (t':State) (e:Int) (v':SV) (Q' R':Option (List Request)),x=.tup [.agg (cState t'),.v (.int .i64 e)]∧TI t' v' Q' R' q m:=by
 have hf:=h.td.flat
 have hfl:=h.td.fl
 have fw:Flat (.agg (cVerdict w)):=.agg _ (flat_cVerdict w)
 have hzs:Flat (.agg (cState zState)):=by simp only[FLb,zState,zStore,zConfig,zVotes,zQueues,zTreeA,and_self]
 obtain⟨y,hy,⟨hj,rfl⟩ | ⟨k,hk,hh,hj,rfl⟩⟩:=x27 h.td w
 ·have k27:=kx hy (flat2 hf fw) (.tup _ (flat3 (.agg _ (flat_cRequest _)) hzs (.v _)))
  rw[cL Tryz.func206 rfl ok206 rfl]
  simp only[Z8,seval,k27,extA]
  exact⟨_,by apply xtwo;rfl;all_goals simp only[keep_none,resA,Z8,seval,hf]<;>rfl,t,23,v,Q,R,rfl,h⟩
 obtain⟨r,er⟩:∃ r,gx zRequest (ol Q) (k:Int)=r:=⟨_,rfl⟩
 obtain⟨t1,et⟩:∃ t1,({ t with requests:=ov csRequest (nz ((ol Q).take k ++ (ol Q).drop (k+1)))}:State)=t1:=⟨_,rfl⟩
 have hr:r.tagged.tag < t.nextTag:=by rw[← er];exact (h.tq.all _ (gx_mem (by omega) (by omega))).2.1
 have h1:=h.less k
 rw[et] at h1
 rw[er,et] at hy
 have nt1:t1.nextTag=t.nextTag:=by rw[← et]
 have hf1:=h1.td.flat
 have hfl1:=h1.td.fl
 have k27:=kx hy (flat2 hf fw) (.tup _ (flat3 (.agg _ (flat_cRequest _)) hf1 (.v _)))
 have hn:=h1.gi.sd.nn
 rw[cL Tryz.func206 rfl ok206 rfl]
 by_cases g3:w.kind=3
 ·obtain⟨R',hR'⟩:=h1.later (r:=r) (by rw[nt1];exact hr)
  have ff:=hR'.td.flat
  have k72:=kx (c72 h1.td r) (flat2 hf1 (.agg _ (flat_cRequest _))) ff
  simp only[Z8,seval,k27,extA,bt g3,k72]
  exact⟨_,by apply xtwo;rfl;all_goals simp only[keep_none,resA,Z8,seval,ff]<;>rfl,_,0,v,_,R',rfl,hR'⟩
 by_cases g4:w.kind=4
 ·obtain⟨R',hR'⟩:=h1.later (r:=r) (by rw[nt1];exact hr)
  have ff:=hR'.td.flat
  have k72:=kx (c72 h1.td r) (flat2 hf1 (.agg _ (flat_cRequest _))) ff
  simp only[Z8,seval,k27,extA,bf g3,bt g4,k72]
  exact⟨_,by apply xtwo;rfl;all_goals simp only[keep_none,resA,Z8,seval,ff]<;>rfl,_,0,v,_,R',rfl,hR'⟩
 have e222':∀ (st:St) (a g:Nat) (d:Option Nat),st.heap a g=some (.row 3 1 2 (csInt [findR v.ns t1.store.finality.just.root,findR v.ns t1.store.finality.fin.root]))→_:=fun st a g d hh=>e222 v.ns h1.gi.up h1.gi.up0 hn (findR v.ns r.block) w [findR v.ns t1.store.finality.just.root,findR v.ns t1.store.finality.fin.root] (by show ((2:Nat):Int) < _;omega) st a g d hh
 rcases jud_SB v.ns (findR v.ns r.block) w [findR v.ns t1.store.finality.just.root,findR v.ns t1.store.finality.fin.root] with ⟨e,he,ej⟩ | ⟨ns',hs,ej⟩
 ·rw[ej] at e222'
  have hH:=h.halt true
  have fH:=hH.td.flat
  simp only[Z8,seval,k27,extA,bf g3,bf g4,ev_bs22_2E,h1.gi.sd.tree,k46 _ _ hn,e222',bf he]
  exact⟨_,by apply xtwo;rfl;all_goals simp only[keep_none,resA,Z8,seval,fH]<;>rfl,_,21,v,Q,R,rfl,hH⟩
 rw[ej] at e222'
 have hn':(ns'.length:Int) < 1000000:=by rw[hs.len];exact hn
 have fr:=findR_range ns' t1.store.boost
 by_cases b0:0≤findR ns' t1.store.boost
 case neg =>
  have T:=h1.tree hs t1.store.boost
  have ft:=T.td.flat
  simp only[Z8,seval,k27,extA,bf g3,bf g4,ev_bs22_2E,h1.gi.sd.tree,k46 _ _ hn,k46 _ _ hn',e222',b0]
  exact⟨_,by apply xtwo;rfl;all_goals simp only[keep_none,resA,Z8,seval,ft]<;>rfl,_,0,_,_,R,rfl,T⟩
 by_cases b1:(nd ns' (findR ns' t1.store.boost)).status=2
 case neg =>
  have T:=h1.tree hs t1.store.boost
  have ft:=T.td.flat
  simp only[Z8,seval,k27,extA,bf g3,bf g4,ev_bs22_2E,h1.gi.sd.tree,k46 _ _ hn,k46 _ _ hn',e222',b0,fr.2,bf b1]
  exact⟨_,by apply xtwo;rfl;all_goals simp only[keep_none,resA,Z8,seval,ft]<;>rfl,_,0,_,_,R,rfl,T⟩
 have T:=h1.tree hs zRoot
 have ft:=T.td.flat
 simp only[Z8,seval,k27,extA,bf g3,bf g4,ev_bs22_2E,h1.gi.sd.tree,k46 _ _ hn,k46 _ _ hn',e222',b0,fr.2,bt b1]
 exact⟨_,by apply xtwo;rfl;all_goals simp only[keep_none,resA,Z8,seval,ft]<;>rfl,_,0,_,_,R,rfl,T⟩
def BlkR (s:Store) (v:SV) (q:Int) (r:AV):Prop:=∃ (s':Store) (R:Option (List Root)) (e:Int),r=.tup [.agg (cStore s'),ov csRoot R,.v (.int .i64 e)]∧Flat (.agg (cStore s'))∧((ol R).length:Int)≤70∧e≠21∧(e=0→∃ v',GI s' v' q∧RG s' v'∧s'.cFg=s.cFg)
theorem x203 {s:Store} {v:SV} {q:Int} (h:GI s v q) (r:RG s v) (b:Block) (rb:RB b∧Pr b.root):∃ r,callL Tryz.prog 203 [.agg (cStore s),.agg (cBlock b)]=some r∧BlkR s v q r:=by
 have hf:=h.sd.flat
 have hfl:=h.sd.fl
 have hz:=hz_zStore
 have k52':=k52 h.sd h.up h.sp
 have nO:=h.nO
 have nOB:=h.nOB
 have nn':=h.sd.nO
 rw[cL Tryz.func203 rfl ok203 rfl]
 by_cases g1:cbV s v b=10
 ·by_cases g2:s.cFg.lim.orphL≤((ol v.O).length:Int)
  ·simp only[Z8,seval,k52',bt g1,h.sd.orphans,g2]
   exact⟨_,by apply xthree;rfl;all_goals simp only[keep_none,resA,Z8,seval,hz]<;>rfl,zStore,none,11,rfl,hz,by simp[ol],by decide,fun h=>by cases h⟩
  ·have hw:=h.orph (some (ol v.O ++ [{ b with timely:=false }])) (by show (((ol v.O ++ [{ b with timely:=false }]).length:Nat):Int)≤s.cFg.lim.orphL;rw[List.length_append,List.length_cons,List.length_nil];omega)
   have hwr:=r.orph (some (ol v.O ++ [{ b with timely:=false }])) (ov csBlock (some (ol v.O ++ [{ b with timely:=false }]))) (fun c hc=>(List.mem_append.1 hc).elim (r.or c) fun e=>by rw[List.mem_singleton] at e;subst e;exact⟨⟨rb.1.sl,rb.1.j,rb.1.f,rb.1.pj,rb.1.pf⟩,rb.2⟩) (by simp)
   simp only[Z8,seval,k52',bt g1,h.sd.orphans,g2,anoBlocks _ nn',aooBlock1 _ _ _ _ nn']
   exact⟨_,by apply xthree;rfl;all_goals simp only[keep_none,resA,Z8,seval,expo_aggq,exq_Store,expo1_ownF,exFBlock,expo1_id,FLb,hfl]<;>rfl,_,none,0,rfl,hw.sd.flat,by simp[ol],by decide,fun _=>⟨_,hw,hwr,rfl⟩⟩
 by_cases g2:cbV s v b=0
 case neg =>
  simp only[Z8,seval,k52',bf g1,bf g2]
  exact⟨_,by apply xthree;rfl;all_goals simp only[keep_none,resA,Z8,seval,hz]<;>rfl,zStore,none,_,rfl,hz,by simp[ol],cbV_ne _ _ _,fun h=>absurd h g2⟩
 have e217':=e217 h g2
 have hins:=h.ins g2
 have hinr:=r.ins rb g2
 have hcf:=insS_config s v b
 have hO1:=insW_O s v b
 cases g3:b.timely
 · -- not timely
  have hG:GI (insS s v b) (insW s v b) q:=hins
  have hRG:RG (insS s v b) (insW s v b):=hinr
  have hC:((insS s v b)).cFg=s.cFg:=hcf.1
  have k218':=k218 hG.sd
  simp only[Z8,seval,k52',bf g1,bt g2,e217',g3,k218']
  refine use_midX (a:=loop203) (BlkO s v q) (run203 (by omega) (m:=(ol (insW s v b).O).length) ⟨(insS s v b),insW s v b,_,[b.root],66,0, ?start,.inl ⟨rfl,rfl⟩,.inl rfl,hG,hRG,hC,by simp;omega,rfl⟩) ?rest
  case start =>
   rw[orS_id hG.sd]
   simp only[E8,seval,csRoot,List.flatMap_cons,List.flatMap_nil,List.append_nil]<;>rfl
  case rest =>
   rintro e st ⟨rfl,S0,w,X,R,a,g,hI,ha,hX,hG,hRG,hC,hR⟩
   have ha4:(a=4)=False:=eq_false ha
   have hfl0:=hG.sd.fl
   have hfo:=hG.sd.orphans
   rcases hX with rfl | ⟨g',L,hL,rfl,hg'⟩
   ·rw[orS_id hG.sd] at hI
    have hf0:=hG.sd.flat
    simp only[Z8,seval,hI]
    exact⟨_,by apply xthree;rfl;all_goals simp only[keep_none,resA,Z8,seval,hI,ha4,hf0,exFRoot]<;>rfl,S0,some R,0,rfl,hf0,by simp only[ol,Option.getD_some];omega,by decide,fun _=>⟨w,hG,hRG,hC⟩⟩
   ·have hex:=fun st' hh=>expo_orS (O:=L) (a:=91) (g:=g') hG.sd st' hh
    have hfl1:orS S0 (ov csBlock (some L))=S0:=by rw[← hL];exact orS_id hG.sd
    rw[hfl1] at hex
    simp only[Z8,seval,hI]
    exact⟨_,by apply xthree;rfl;all_goals simp only[keep_none,resA,Z8,seval,hI,ha4,hg',hex,exFRoot]<;>rfl,S0,some R,0,rfl,hG.sd.flat,by simp only[ol,Option.getD_some];omega,by decide,fun _=>⟨w,hG,hRG,hC⟩⟩
 by_cases g4:b.slot=s.now
 case neg =>
  have hG:GI (insS s v b) (insW s v b) q:=hins
  have hRG:RG (insS s v b) (insW s v b):=hinr
  have hC:((insS s v b)).cFg=s.cFg:=hcf.1
  have k218':=k218 hG.sd
  simp only[Z8,seval,k52',bf g1,bt g2,e217',g3,bf g4,k218']
  refine use_midX (a:=loop203) (BlkO s v q) (run203 (by omega) (m:=(ol (insW s v b).O).length) ⟨(insS s v b),insW s v b,_,[b.root],66,0, ?start,.inl ⟨rfl,rfl⟩,.inl rfl,hG,hRG,hC,by simp;omega,rfl⟩) ?rest
  case start =>
   rw[orS_id hG.sd]
   simp only[E8,seval,csRoot,List.flatMap_cons,List.flatMap_nil,List.append_nil]<;>rfl
  case rest =>
   rintro e st ⟨rfl,S0,w,X,R,a,g,hI,ha,hX,hG,hRG,hC,hR⟩
   have ha4:(a=4)=False:=eq_false ha
   have hfl0:=hG.sd.fl
   have hfo:=hG.sd.orphans
   rcases hX with rfl | ⟨g',L,hL,rfl,hg'⟩
   ·rw[orS_id hG.sd] at hI
    have hf0:=hG.sd.flat
    simp only[Z8,seval,hI]
    exact⟨_,by apply xthree;rfl;all_goals simp only[keep_none,resA,Z8,seval,hI,ha4,hf0,exFRoot]<;>rfl,S0,some R,0,rfl,hf0,by simp only[ol,Option.getD_some];omega,by decide,fun _=>⟨w,hG,hRG,hC⟩⟩
   ·have hex:=fun st' hh=>expo_orS (O:=L) (a:=91) (g:=g') hG.sd st' hh
    have hfl1:orS S0 (ov csBlock (some L))=S0:=by rw[← hL];exact orS_id hG.sd
    rw[hfl1] at hex
    simp only[Z8,seval,hI]
    exact⟨_,by apply xthree;rfl;all_goals simp only[keep_none,resA,Z8,seval,hI,ha4,hg',hex,exFRoot]<;>rfl,S0,some R,0,rfl,hG.sd.flat,by simp only[ol,Option.getD_some];omega,by decide,fun _=>⟨w,hG,hRG,hC⟩⟩
 by_cases g5:s.boost=zRoot
 case neg =>
  have hG:GI (insS s v b) (insW s v b) q:=hins
  have hRG:RG (insS s v b) (insW s v b):=hinr
  have hC:((insS s v b)).cFg=s.cFg:=hcf.1
  have k218':=k218 hG.sd
  simp only[Z8,seval,k52',bf g1,bt g2,e217',g3,bt g4,g5,k218']
  refine use_midX (a:=loop203) (BlkO s v q) (run203 (by omega) (m:=(ol (insW s v b).O).length) ⟨(insS s v b),insW s v b,_,[b.root],66,0, ?start,.inl ⟨rfl,rfl⟩,.inl rfl,hG,hRG,hC,by simp;omega,rfl⟩) ?rest
  case start =>
   rw[orS_id hG.sd]
   simp only[E8,seval,csRoot,List.flatMap_cons,List.flatMap_nil,List.append_nil]<;>rfl
  case rest =>
   rintro e st ⟨rfl,S0,w,X,R,a,g,hI,ha,hX,hG,hRG,hC,hR⟩
   have ha4:(a=4)=False:=eq_false ha
   have hfl0:=hG.sd.fl
   have hfo:=hG.sd.orphans
   rcases hX with rfl | ⟨g',L,hL,rfl,hg'⟩
   ·rw[orS_id hG.sd] at hI
    have hf0:=hG.sd.flat
    simp only[Z8,seval,hI]
    exact⟨_,by apply xthree;rfl;all_goals simp only[keep_none,resA,Z8,seval,hI,ha4,hf0,exFRoot]<;>rfl,S0,some R,0,rfl,hf0,by simp only[ol,Option.getD_some];omega,by decide,fun _=>⟨w,hG,hRG,hC⟩⟩
   ·have hex:=fun st' hh=>expo_orS (O:=L) (a:=91) (g:=g') hG.sd st' hh
    have hfl1:orS S0 (ov csBlock (some L))=S0:=by rw[← hL];exact orS_id hG.sd
    rw[hfl1] at hex
    simp only[Z8,seval,hI]
    exact⟨_,by apply xthree;rfl;all_goals simp only[keep_none,resA,Z8,seval,hI,ha4,hg',hex,exFRoot]<;>rfl,S0,some R,0,rfl,hG.sd.flat,by simp only[ol,Option.getD_some];omega,by decide,fun _=>⟨w,hG,hRG,hC⟩⟩
 have hG:GI { insS s v b with boost:=b.root } (insW s v b) q:=hins.boost b.root
 have hRG:RG { insS s v b with boost:=b.root } (insW s v b):=hinr.boost b.root
 have hC:({ insS s v b with boost:=b.root }).cFg=s.cFg:=hcf.1
 have k218':=k218 hG.sd
 simp only[Z8,seval,k52',bf g1,bt g2,e217',g3,bt g4,g5,k218']
 refine use_midX (a:=loop203) (BlkO s v q) (run203 (by omega) (m:=(ol (insW s v b).O).length) ⟨{ insS s v b with boost:=b.root },insW s v b,_,[b.root],66,0, ?start,.inl ⟨rfl,rfl⟩,.inl rfl,hG,hRG,hC,by simp;omega,rfl⟩) ?rest
 case start =>
  rw[orS_id hG.sd]
  simp only[E8,seval,csRoot,List.flatMap_cons,List.flatMap_nil,List.append_nil]<;>rfl
 case rest =>
  rintro e st ⟨rfl,S0,w,X,R,a,g,hI,ha,hX,hG,hRG,hC,hR⟩
  have ha4:(a=4)=False:=eq_false ha
  have hfl0:=hG.sd.fl
  have hfo:=hG.sd.orphans
  rcases hX with rfl | ⟨g',L,hL,rfl,hg'⟩
  ·rw[orS_id hG.sd] at hI
   have hf0:=hG.sd.flat
   simp only[Z8,seval,hI]
   exact⟨_,by apply xthree;rfl;all_goals simp only[keep_none,resA,Z8,seval,hI,ha4,hf0,exFRoot]<;>rfl,S0,some R,0,rfl,hf0,by simp only[ol,Option.getD_some];omega,by decide,fun _=>⟨w,hG,hRG,hC⟩⟩
  ·have hex:=fun st' hh=>expo_orS (O:=L) (a:=91) (g:=g') hG.sd st' hh
   have hfl1:orS S0 (ov csBlock (some L))=S0:=by rw[← hL];exact orS_id hG.sd
   rw[hfl1] at hex
   simp only[Z8,seval,hI]
   exact⟨_,by apply xthree;rfl;all_goals simp only[keep_none,resA,Z8,seval,hI,ha4,hg',hex,exFRoot]<;>rfl,S0,some R,0,rfl,hG.sd.flat,by simp only[ol,Option.getD_some];omega,by decide,fun _=>⟨w,hG,hRG,hC⟩⟩
def PfR (q m:Int) (r:AV):Prop:=∃ (t':State) (e:Int),r=.tup [.agg (cState t'),.v (.int .i64 e)]∧Flat (.agg (cState t'))∧(e=0∨e=21→∃ v' Q' R',TI t' v' Q' R' (q+1000) (m+256))
theorem fl_st {t:State} (h:Flat (.agg (cState t))) {s':Store} (hs:Flat (.agg (cStore s'))):Flat (.agg (cState { t with store:=s' })):=by
 obtain⟨_,_,_,_,_,_,_,h8,h9⟩:=(fl_State t).1 h
 obtain⟨h1,h2,h3,h4,h5,h6,h7⟩:=(fl_Store s').1 hs
 exact (fl_State _).2 ⟨h1,h2,h3,h4,h5,h6,h7,h8,h9⟩
theorem x185 {t:State} {v:SV} {Q R:Option (List Request)} {q m:Int} (h:TI t v Q R q m) (x:OpS) (hx:OpOk x) (hp:x.kind=2→Pr x.block.root) (hq:q+1000≤900000) (hm:m+256≤100000) :
 ∃ r,callL Tryz.prog 185 [.agg (cState t),.agg (cOpS x)]=some r∧PfR q m r:=by
 have hf:=h.td.flat
 have hfs:=h.gi.sd.flat
 have hfx:=hx.flat
 have hfx':=hx.fl
 have up:∀ {t':State} {v':SV} {Q' R':Option (List Request)} {q' m':Int},TI t' v' Q' R' q' m'→q'≤q+1000→m'≤m+256→∃ v' Q' R',TI t' v' Q' R' (q+1000) (m+256):=fun g a b=>⟨_,_,_,g.mono a hq b hm⟩
 have nt:=h.nt
 have mB:=h.mB
 have lq:=h.lq
 have lr:=h.lr
 have rB:=h.retB
 rw[cL Tryz.func185 rfl ok185 rfl]
 by_cases k1:x.kind=1
 ·obtain⟨y,hy,s',e,rfl,fs',ne,ho⟩:=x202 h.gi h.rg
  have k202:=kx hy (flat1 hfs) (.tup _ (flat2 fs' (.v _)))
  have ft:=fl_st hf fs'
  by_cases e0:e=0
  ·obtain⟨v',g,r,c⟩:=ho e0
   have T0:=h.toTI0.store g r c
   have T1:=T0.drop
   have T2:=T1.due hm
   have k36:=kx (c36 T0.td) (flat1 ft) T1.td.flat
   have k74:=kx (c74 T1.td (by have:=T1.lq;have:=T1.lr;have:=T1.retB;omega)) (flat1 T1.td.flat) T2.td.flat
   have ft2:=T2.td.flat
   simp only[Z8,seval,bt k1,k202,extA,bt e0,k36,k74]
   exact⟨_,by apply xtwo;rfl;all_goals simp only[keep_none,resA,Z8,seval,ft2]<;>rfl,_,e,rfl,ft2,fun _=>up T2 (by omega) (by omega)⟩
  ·simp only[Z8,seval,bt k1,k202,extA,bf e0]
   exact⟨_,by apply xtwo;rfl;all_goals simp only[keep_none,resA,Z8,seval,ft]<;>rfl,_,e,rfl,ft,fun h=>absurd h (by omega)⟩
 by_cases k2:x.kind=2
 ·obtain⟨y,hy,s',L,e,rfl,fs',nL,ne,ho⟩:=x203 h.gi h.rg x.block ⟨hx.rb,hp k2⟩
  have k203:=kx hy (flat2 hfs (flatB _)) (.tup _ (flat3 fs' (flat_ovRoot L) (.v _)))
  have ft:=fl_st hf fs'
  by_cases e0:e=0
  ·obtain⟨v',g,r,c⟩:=ho e0
   have T0:=h.toTI0.store g r c
   have T1:=T0.drop
   have T2:=T1.open (ol L) (by omega) hm
   have k36:=kx (c36 T0.td) (flat1 ft) T1.td.flat
   have k32:∀ (st:St) (d:Option Nat),callEat (callL Tryz.prog) 32 _ st d=_:=fun st d=>eat_call (flat2 T1.td.flat (flat_ovRoot L)) (c32 T1.td L (by have:=T1.lq;omega)) T2.td.flat
   have ft2:=T2.td.flat
   simp only[Z8,seval,bf k1,bt k2,k203,extA,bt e0,k36,k32]
   exact⟨_,by apply xtwo;rfl;all_goals simp only[keep_none,resA,Z8,seval,ft2]<;>rfl,_,e,rfl,ft2,fun _=>up T2 (by omega) (by omega)⟩
  ·simp only[Z8,seval,bf k1,bt k2,k203,extA,bf e0]
   exact⟨_,by apply xtwo;rfl;all_goals simp only[keep_none,resA,Z8,seval,ft]<;>rfl,_,e,rfl,ft,fun h=>absurd h (by omega)⟩
 by_cases k3:x.kind=3
 ·obtain⟨V,hV,nV⟩:=hx.att
  obtain⟨y,hy,s',e,rfl,fs',ne,ho⟩:=x204 h.gi h.rg x.att V hV (by omega)
  have k204:=kx hy (flat2 hfs ((fl_Att _).2 hfx'.1)) (.tup _ (flat2 fs' (.v _)))
  have ft:=fl_st hf fs'
  have fin:e=0∨e=21→∃ v' Q' R',TI { t with store:=s' } v' Q' R' (q+1000) (m+256):=fun he=>by
   obtain⟨v',g,r,c,en⟩:=ho (by omega)
   exact up ⟨h.toTI0.store g r c,by rw[en];exact h.inQ,by rw[en];exact h.inR⟩ (by omega) (by omega)
  simp only[Z8,seval,bf k1,bf k2,bt k3,k204,extA]
  exact⟨_,by apply xtwo;rfl;all_goals simp only[keep_none,resA,Z8,seval,ft]<;>rfl,_,e,rfl,ft,fin⟩
 by_cases k4:x.kind=4
 ·obtain⟨V,hV,nV⟩:=hx.c1
  obtain⟨W,hW,nW⟩:=hx.c2
  obtain⟨y,hy,s',e,rfl,fs',ne,ho⟩:=x205 h.gi h.rg x.slash V W hV hW nV nW hq
  have k205:=kx hy (flat2 hfs ((fl_Slashing _).2 ⟨hfx'.2.1,hfx'.2.2.1⟩)) (.tup _ (flat2 fs' (.v _)))
  have ft:=fl_st hf fs'
  have fin:e=0∨e=21→∃ v' Q' R',TI { t with store:=s' } v' Q' R' (q+1000) (m+256):=fun he=>by
   obtain⟨v',g,r,c,en⟩:=ho (by omega)
   exact up ⟨h.toTI0.store g r c,by rw[en];exact h.inQ,by rw[en];exact h.inR⟩ (by omega) (by omega)
  simp only[Z8,seval,bf k1,bf k2,bf k3,bt k4,k205,extA]
  exact⟨_,by apply xtwo;rfl;all_goals simp only[keep_none,resA,Z8,seval,ft]<;>rfl,_,e,rfl,ft,fin⟩
 by_cases k5:x.kind=5
 ·have nT:=h.gi.nT
  have nTB:=h.gi.nTB
  obtain⟨y,hy,s',e,rfl,fs',ne,ho⟩:=x117 h.gi.sd (by omega) x.table hx.tabOk
  have k117:=kx hy (flat2 hfs ((fl_Table _).2 hfx'.2.2.2)) (.tup _ (flat2 fs' (.v _)))
  have ft:=fl_st hf fs'
  have fin:e=0∨e=21→∃ v' Q' R',TI { t with store:=s' } v' Q' R' (q+1000) (m+256):=fun he=>by
   obtain⟨o',rfl,nl,tb,sub,ne1,ne2⟩:=ho (by omega)
   have g:GI { t.store with tables:=ov csTable o' } { v with T:=o' } q :=
    ⟨⟨h.gi.sd.bal,h.gi.sd.latest,h.gi.sd.equiv,h.gi.sd.early,h.gi.sd.orphans,h.gi.sd.tree,rfl,h.gi.sd.eV,tb,h.gi.sd.nB,h.gi.sd.nL,h.gi.sd.nQ,h.gi.sd.nE,h.gi.sd.nO,by show ((ol o').length:Int) < _;omega,h.gi.sd.nn⟩,h.gi.up,h.gi.up0,h.gi.pos,h.gi.nl,h.gi.nlB,h.gi.spe,h.gi.lat,h.gi.nB,h.gi.nO,h.gi.nOB,h.gi.nE,h.gi.nEB,by show ((ol o').length:Int)≤t.store.cFg.lim.tableL;omega,h.gi.nTB,h.gi.nQ,h.gi.nQB,h.gi.just⟩
   have r:RG { t.store with tables:=ov csTable o' } { v with T:=o' }:=⟨h.rg.now,h.rg.j,h.rg.f,h.rg.nd,h.rg.or,h.rg.rt,h.rg.fe,h.rg.ds,by obtain⟨tb,h1,h2⟩:=h.rg.tb;exact⟨tb,sub h1,h2⟩,⟨h.rg.ne.q,h.rg.ne.e,h.rg.ne.o,ne1,h.rg.ne.ea,fun x hx=>(ne2 x hx).elim (h.rg.ne.tb x) fun ⟨B,h1,h2⟩=>⟨B,h1,fun e=>by have h3:=h.bal.1;rw[e] at h2;simp at h2;omega⟩⟩⟩
   exact up ⟨h.toTI0.store g r rfl,h.inQ,h.inR⟩ (by omega) (by omega)
  simp only[Z8,seval,bf k1,bf k2,bf k3,bf k4,bt k5,k117,extA]
  exact⟨_,by apply xtwo;rfl;all_goals simp only[keep_none,resA,Z8,seval,ft]<;>rfl,_,e,rfl,ft,fin⟩
 by_cases k6:x.kind=6
 ·obtain⟨y,hy,t',e,v',Q',R',rfl,g⟩:=x206 h x.verdict
  have k206:=kx hy (flat2 hf (.agg _ (flat_cVerdict _))) (.tup _ (flat2 g.td.flat (.v _)))
  have ft:=g.td.flat
  simp only[Z8,seval,bf k1,bf k2,bf k3,bf k4,bf k5,bt k6,k206,extA]
  exact⟨_,by apply xtwo;rfl;all_goals simp only[keep_none,resA,Z8,seval,ft]<;>rfl,_,e,rfl,ft,fun _=>up g (by omega) (by omega)⟩
 simp only[Z8,seval,bf k1,bf k2,bf k3,bf k4,bf k5,bf k6]
 exact⟨_,by apply xtwo;rfl;all_goals simp only[keep_none,resA,Z8,seval,hf]<;>rfl,t,2,rfl,hf,fun h=>absurd h (by omega)⟩
theorem x147 {t:State} {v:SV} {Q R:Option (List Request)} {q m:Int} (h:TI t v Q R q m) (x:OpS) (hx:OpOk x) (hp:x.kind=2→Pr x.block.root) (hq:q+1000≤900000) (hm:m+256≤100000) :
 ∃ r,callL Tryz.prog 147 [.agg (cState t),.agg (cOpS x)]=some r∧∃ (t':State) (y:AV) (e:Int) (v':SV) (Q' R':Option (List Request)),r=.tup [.agg (cState t'),y,.v (.int .i64 e)]∧Flat y∧TI t' v' Q' R' (q+1000) (m+256):=by
 have hf:=h.td.flat
 have hfx:=hx.flat
 have h':=h.mono (q':=q+1000) (m':=m+256) (by omega) hq (by omega) hm
 obtain⟨y1,hy1,e1,rfl⟩:=x184 x hx
 have k184:=kx hy1 (flat1 hfx) (.v _)
 obtain⟨y2,hy2,t2,e2,rfl,ft2,ho⟩:=x185 h x hx hp hq hm
 have k185:=kx hy2 (flat2 hf hfx) (.tup _ (flat2 ft2 (.v _)))
 rw[cL Tryz.func147 rfl ok147 rfl]
 cases g0:t.halted
 case true =>
  simp only[Z8,seval,g0]
  exact⟨_,by apply xthree;rfl;all_goals simp only[keep_none,resA,Z8,seval,hf]<;>rfl,t,_,22,v,Q,R,rfl,.v _,h'⟩
 by_cases g1:e1=0
 case neg =>
  simp only[Z8,seval,g0,k184,bf g1]
  exact⟨_,by apply xthree;rfl;all_goals simp only[keep_none,resA,Z8,seval,hf]<;>rfl,t,_,e1,v,Q,R,rfl,.v _,h'⟩
 by_cases g2:e2=21
 ·obtain⟨v',Q',R',T⟩:=ho (.inr g2)
  simp only[Z8,seval,g0,k184,bt g1,k185,extA,bt g2]
  exact⟨_,by apply xthree;rfl;all_goals simp only[keep_none,resA,Z8,seval,ft2]<;>rfl,t2,_,e2,v',Q',R',rfl,.v _,T⟩
 by_cases g3:e2=0
 case neg =>
  simp only[Z8,seval,g0,k184,bt g1,k185,extA,bf g2,bf g3]
  exact⟨_,by apply xthree;rfl;all_goals simp only[keep_none,resA,Z8,seval,hf]<;>rfl,t,_,e2,v,Q,R,rfl,.v _,h'⟩
 obtain⟨v',Q',R',T⟩:=ho (.inl g3)
 obtain⟨y3,hy3,b,c,y,rfl,fy⟩:=x181 t2 ft2 T.gi
 have T':=T.emit b c
 have ft3:=T'.td.flat
 have k181:=kx hy3 (flat1 ft2) (.tup _ (flat2 ft3 fy))
 simp only[Z8,seval,g0,k184,bt g1,k185,extA,bf g2,bt g3,k181]
 exact⟨_,xthree rfl (by simp only[resA,Z8,seval]<;>rfl) (by simp only[resA,Z8,seval]<;>rfl) (by simp only[resA,E8,seval]<;>rfl) (expo_id ft3) (expo_id fy) (expo_id (.v _)),_,y,0,v',Q',R',rfl,fy,T'⟩
theorem mkRoot_get0 (n:Int):(mkRoot n)[0]=IntKind.u8.wrap n:=by
 simp[mkRoot]
theorem u8_small {n:Int} (h0:0≤n) (h1:n < 256):IntKind.u8.wrap n=n:=by
 simp only[IntKind.wrap,IntKind.bits,IntKind.signed]
 simp
 omega
theorem Pr_mk {n:Int} (h0:1≤n) (h1:n≤98):Pr (mkRoot n):=by
 refine⟨fun e=>?_,fun e=>?_⟩
 ·have e1:IntKind.u8.wrap n=zRoot[0]:=by rw[← mkRoot_get0,e]
  rw[u8_small (by omega) (by omega),show zRoot[0]=0 from rfl] at e1
  omega
 ·have e1:IntKind.u8.wrap n=IntKind.u8.wrap 99:=by rw[← mkRoot_get0,← mkRoot_get0,e]
  rw[u8_small (by omega) (by omega),u8_small (by omega) (by omega)] at e1
  omega
theorem RG.new {c:Config} {b:List Int} (h:CfgOk c b):RG (newS c b) (newW c b):=by
 have hg:Pr c.genesis:=by rw[h.gen];exact Pr_mk (by omega) (by omega)
 have z:Rg 0:=Rg0
 refine⟨⟨by show (0:Int)≤0;omega,by show (0:Int)≤_;omega⟩,z,z,fun n hn=>?_,(fun o ho=>by cases ho),fun n hn=>?_,⟨by show (0:Int)≤0;omega, ?_⟩, ?_, ?_, ?_⟩
 ·rw[show n=⟨genB c,-1,1⟩ from List.mem_singleton.1 hn]
  exact⟨⟨z,z,z,z,z⟩,by show (0:Int)≤0;omega⟩
 ·rw[show n=⟨genB c,-1,1⟩ from List.mem_singleton.1 hn]
  exact hg
 ·show (0:Int)≤IntKind.u64.wrap (Int.tdiv 0 c.spe)
  rw[Int.zero_tdiv];decide
 ·show ([c.genesis]:List Root).Nodup
  simp
 ·exact⟨⟨⟨0,c.genesis⟩,ov csU64 (some b)⟩,List.mem_singleton.2 rfl,rfl⟩
 ·exact⟨nofun,nofun,nofun,by simp[newW],(fun a ha=>by cases ha),fun t ht=>⟨b,by rw[show t=⟨⟨0,c.genesis⟩,ov csU64 (some b)⟩ from List.mem_singleton.1 ht],fun e=>by have:=h.nb.1;rw[e] at this;simp at this⟩⟩
def begS (c:Config) (b:List Int):State:={ zState with store:=newS c b,nextTag:=1 }
theorem TI.new {c:Config} {b:List Int} (h:CfgOk c b):TI (begS c b) (newW c b) none none 0 0:=by
 have g:=GI.new h
 have r:=RG.new h
 have hr:=h.retryL
 exact⟨⟨⟨g.sd,rfl,rfl,by show ((0:Nat):Int) < _;omega,by show ((0:Nat):Int) < _;omega⟩,g,r,⟨b,h⟩,⟨by show (1:Int)≤1;omega,(fun r hr=>by cases hr),List.Pairwise.nil⟩,⟨(fun r hr=>by cases hr),List.Pairwise.nil⟩,by show (1:Int)≤1+0;omega,by show ((0:Nat):Int)≤0;omega,by show ((0:Nat):Int)≤c.lim.retryL;omega,by omega,nofun,nofun⟩,(fun r hr=>by cases hr),(fun r hr=>by cases hr)⟩
theorem x144 {c:Config} {b:List Int} (h:CfgOk c b):∃ r,callL Tryz.prog 144 [.agg (cConfig c)]=some r∧∃ (sent:Bool) (last:Command) (y:AV),r=.tup [.agg (cState { begS c b with sent:=sent,last:=last }),y,.v (.int .i64 0)]∧Flat y:=by
 have T:=TI.new h
 have fc:Flat (.agg (cConfig c)):=(fl_Config c).2 (by rw[h.bal];exact flat_ovU64 _)
 have fs:=T.gi.sd.flat
 have k102:=kx (c102 h) (flat1 fc) (.tup _ (flat2 fs (.v _)))
 obtain⟨y3,hy3,s,l,y,rfl,fy⟩:=x181 (begS c b) T.td.flat T.gi
 have ft3:=(T.emit s l).td.flat
 have k181:=kx hy3 (flat1 T.td.flat) (.tup _ (flat2 ft3 fy))
 have eb:({ zState with store:=newS c b,nextTag:=1 }:State)=begS c b:=rfl
 rw[cL Tryz.func144 rfl ok144 rfl]
 simp only[Z8,seval,k102,extA,eb,k181]
 exact⟨_,xthree rfl (by simp only[resA,Z8,seval]<;>rfl) (by simp only[resA,Z8,seval]<;>rfl) (by simp only[resA,E8,seval]<;>rfl) (expo_id ft3) (expo_id fy) (expo_id (.v _)),s,l,y,rfl,fy⟩
def csOp (l:List OpS):List AV:=l.flatMap cOpS
theorem anoOp1 (x:OpS):anE 190 446 720 (some (1,cOpS x))=some (none,.row 190 446 [x].length (csOp [x])):=by simp[anE,maxLen,csOp]
theorem aooOp1 (l:List OpS) (x:OpS) (s g:Nat) (h:(l.length:Int) < 1000000):aoE 190 446 720 (some (.row 190 446 l.length (csOp l))) s g (some (1,cOpS x))=some (some (s,g),.row 190 446 (l ++ [x]).length (csOp (l ++ [x]))):=by
 simp only[aoE]
 rw[if_pos ⟨by simp,trivial,trivial,by omega,by simp only[maxLen];omega⟩]
 simp[csOp,List.flatMap_append]
theorem flat_csOp (l:List OpS) (h:∀ y∈l,OpOk y):∀ x∈csOp l,Flat x:=by
 intro x hx
 obtain⟨y,hm,hy⟩:=List.mem_flatMap.1 hx
 have hf:=(h y hm).flat
 cases hf with
 | agg _ hc=>exact hc x hy
theorem exFOp (n:Nat) (l:List OpS) (h:∀ y∈l,OpOk y):expoF (some (.row 190 446 n (csOp l)))=some (.sl n (csOp l)):=by
 unfold expoF;simp only;rw[if_pos (flat_csOp l h)]
theorem x75 (l:List Int) (hl:(l.length:Int)≤9223372036854775807):∃ r,callL Tryz.prog 75 [.sl l.length (csInt l)]=some r∧∃ (c:Config) (X:AV) (t:State) (v:SV) (Q R:Option (List Request)),r=.tup [.agg (cConfig c),X,.agg (cState t)]∧Flat (.agg (cConfig c))∧Flat X∧TI t v Q R 24000 6144:=by
 obtain⟨y1,hy1,c,b,rfl,hc⟩:=x101 l hl
 have fc:Flat (.agg (cConfig c)):=(fl_Config c).2 (by rw[hc.bal];exact flat_ovU64 _)
 have k101:∀ (st:St) (d:Option Nat),callEat (callL Tryz.prog) 101 _ st d=_:=fun st d=>eat_call (flat1 (flatSl l)) hy1 fc
 obtain⟨y2,hy2,sent,last,y,rfl,fy⟩:=x144 hc
 have T0:=(TI.new hc).emit sent last
 have k144:=kx hy2 (flat1 fc) (.tup _ (flat3 T0.td.flat fy (.v _)))
 have k16:=k145 l hl 16 (by omega) (by omega)
 have k17:=k145 l hl 17 (by omega) (by omega)
 have n0:=(c145 l hl 16 (by omega) (by omega)).2.1
 obtain⟨n1,n2⟩:=tmod_bound (n:=25) n0 (by omega)
 obtain⟨N,hN⟩:∃ N,(bAt l 16).tmod 25=N:=⟨_,rfl⟩
 rw[hN] at n1 n2
 rw[cG Tryz.func75 rfl ok75 (by kernel_rfl) rfl]
 have body:∀ (M:Int),0≤M→M≤24→∀ st:St,(st.env 0=.sl l.length (csInt l)∧st.env 2=.ptr 2 0 0∧st.heap 2 0=some (.cells (cConfig zConfig))∧st.env 4=.ptr 4 0 0∧st.heap 4 0=some (.cells (cState zState))∧st.env 5=.ptr 5 0 0∧st.heap 5 0=some (.cells (cConfig c))∧st.env 6=.ptr 6 0 0∧st.heap 6 0=some (.cells (cState { begS c b with sent:=sent,last:=last }))∧st.env 9=.v (.slice none 0 0)∧st.env 10=.v (.int .i64 M)∧st.env 11=.v (.int .i64 0))→∃ e st',evG Tryz.prog true (firstLoop (Tryz.f75.body.getD .skip)) st=some (e,st')∧(e=.exit 0∧∃ (t:State) (v:SV) (Q R:Option (List Request)),(st'.env 2=.ptr 2 0 0∧st'.heap 2 0=some (.cells (cConfig zConfig))∧st'.env 4=.ptr 4 0 0∧st'.heap 4 0=some (.cells (cState zState))∧st'.env 5=.ptr 5 0 0∧st'.heap 5 0=some (.cells (cConfig c))∧st'.env 6=.ptr 6 0 0∧st'.heap 6 0=some (.cells (cState t)))∧(st'.env 9=.v (.slice none 0 0)∨∃ (L:List OpS) (g:Nat),st'.env 9=.own 48 g∧st'.heap 48 g=some (.row 190 446 L.length (csOp L))∧∀ y∈L,OpOk y)∧TI t v Q R 24000 6144):=by
  intro M hM0 hM1 st hs
  suffices key:∃ r,bnd (evG Tryz.prog true (firstLoop (Tryz.f75.body.getD .skip)) st) some=some r∧(r.1=.exit 0∧∃ (t:State) (v:SV) (Q R:Option (List Request)),(r.2.env 2=.ptr 2 0 0∧r.2.heap 2 0=some (.cells (cConfig zConfig))∧r.2.env 4=.ptr 4 0 0∧r.2.heap 4 0=some (.cells (cState zState))∧r.2.env 5=.ptr 5 0 0∧r.2.heap 5 0=some (.cells (cConfig c))∧r.2.env 6=.ptr 6 0 0∧r.2.heap 6 0=some (.cells (cState t)))∧(r.2.env 9=.v (.slice none 0 0)∨∃ (L:List OpS) (g:Nat),r.2.env 9=.own 48 g∧r.2.heap 48 g=some (.row 190 446 L.length (csOp L))∧∀ y∈L,OpOk y)∧TI t v Q R 24000 6144) by
   obtain⟨r,h,hq⟩:=key
   cases hx:evG Tryz.prog true (firstLoop (Tryz.f75.body.getD .skip)) st with
   | none=>rw[hx] at h;cases h
   | some y=>rw[hx] at h;simp only[bnd_some,Option.some.injEq] at h;subst h;exact⟨y.1,y.2,rfl,hq⟩
  simp only[Tryz.f75,Option.getD_some,firstLoop]
  refine use_loopG (fun m st=>∃ (k:Nat) (t:State) (v:SV) (Q R:Option (List Request)),(st.env 0=.sl l.length (csInt l)∧st.env 2=.ptr 2 0 0∧st.heap 2 0=some (.cells (cConfig zConfig))∧st.env 4=.ptr 4 0 0∧st.heap 4 0=some (.cells (cState zState))∧st.env 5=.ptr 5 0 0∧st.heap 5 0=some (.cells (cConfig c))∧st.env 6=.ptr 6 0 0∧st.heap 6 0=some (.cells (cState t))∧st.env 10=.v (.int .i64 M)∧st.env 11=.v (.int .i64 k))∧(st.env 9=.v (.slice none 0 0)∨∃ (L:List OpS) (g:Nat),(st.env 9=.own 48 g∧st.heap 48 g=some (.row 190 446 L.length (csOp L)))∧g < st.cnt 48∧(∀ y∈L,OpOk y)∧L.length≤k)∧TI t v Q R (1000 * k) (256 * k)∧(k:Int)≤M∧m=(M - k).toNat)
   (fun e st=>e=.exit 0∧∃ (t:State) (v:SV) (Q R:Option (List Request)),(st.env 2=.ptr 2 0 0∧st.heap 2 0=some (.cells (cConfig zConfig))∧st.env 4=.ptr 4 0 0∧st.heap 4 0=some (.cells (cState zState))∧st.env 5=.ptr 5 0 0∧st.heap 5 0=some (.cells (cConfig c))∧st.env 6=.ptr 6 0 0∧st.heap 6 0=some (.cells (cState t)))∧(st.env 9=.v (.slice none 0 0)∨∃ (L:List OpS) (g:Nat),st.env 9=.own 48 g∧st.heap 48 g=some (.row 190 446 L.length (csOp L))∧∀ y∈L,OpOk y)∧TI t v Q R 24000 6144) M.toNat ?step ?start ?rest
  case start=>exact⟨0,_,_,_,_,⟨hs.1,hs.2.1,hs.2.2.1,hs.2.2.2.1,hs.2.2.2.2.1,hs.2.2.2.2.2.1,hs.2.2.2.2.2.2.1,hs.2.2.2.2.2.2.2.1,hs.2.2.2.2.2.2.2.2.1,hs.2.2.2.2.2.2.2.2.2.2.1,hs.2.2.2.2.2.2.2.2.2.2.2⟩,.inl hs.2.2.2.2.2.2.2.2.2.1,T0,by omega,by omega⟩
  case rest=>exact fun e st h=>⟨_,rfl,h⟩
  case step =>
   clear hs
   rintro m st ⟨k,t,v,Q,R,hI,hX,T,hk,hm⟩
   by_cases hlt:(k:Int) < M
   case neg =>
    have hX':st.env 9=.v (.slice none 0 0)∨∃ (L:List OpS) (g:Nat),st.env 9=.own 48 g∧st.heap 48 g=some (.row 190 446 L.length (csOp L))∧∀ y∈L,OpOk y:=hX.imp id fun ⟨L,g,h1,_,h3,_⟩=>⟨L,g,h1.1,h1.2,h3⟩
    apply oTG (.exit 0)
    ·simp only[ZG,seval,Bool.false_and,Prod.mk.injEq,DY75,hI,hlt]
     rfl
    ·exact⟨rfl,t,v,Q,R,by simp only[E8,seval,hI],by simpa only[E8,seval] using hX',T.mono (by omega) (by omega) (by omega) (by omega)⟩
   have hw:IntKind.i64.wrap ((k:Int)+1)=((k+1:Nat):Int):=by rw[w64 _ (by omega) (by omega)];omega
   obtain⟨j,hj⟩:∃ j:Int,j=18+(k:Int):=⟨_,rfl⟩
   have hwj:IntKind.i64.wrap (18+(k:Int))=j:=by rw[w64 _ (by omega) (by omega),hj]
   obtain⟨n,hn⟩:∃ n:Int,n=10+(k:Int):=⟨_,rfl⟩
   have hwn:IntKind.i64.wrap (10+(k:Int))=n:=by rw[w64 _ (by omega) (by omega),hn]
   have kj:=k145 l hl j (by omega) (by omega)
   have j0:=(c145 l hl j (by omega) (by omega)).2.1
   have op:∀ z:Int,0≤z→∃ (y:OpS) (t':State) (w:AV) (e:Int) (v':SV) (Q' R':Option (List Request)),(∀ (st:St) (d:Option Nat),callFn (callL Tryz.prog) 146 [.agg (cState t),.v (.int .i64 n),.v (.int .i64 z)] st d=some { dst:=d,val:=.agg (cOpS y)})∧(∀ (st:St) (d:Option Nat),callFn (callL Tryz.prog) 147 [.agg (cState t),.agg (cOpS y)] st d=some { dst:=d,val:=.tup [.agg (cState t'),w,.v (.int .i64 e)]})∧OpOk y∧TI t' v' Q' R' (1000 * ((k+1:Nat):Int)) (256 * ((k+1:Nat):Int)):=by
    intro z hz
    obtain⟨y3,hy3,o,rfl,ho,hr⟩:=x146 T.td T.gi T.rg T.bal (fun r hr=>by obtain⟨h1,h2,_⟩:=T.tq.all r hr;have:=T.nt;exact⟨by omega,by omega⟩) n z hz
    have hp:o.kind=2→Pr o.block.root:=fun h2=>by
     rcases hr h2 with h | ⟨a,ha,h⟩
     ·rw[h];exact Pr_mk (by omega) (by omega)
     ·rw[h];exact T.rg.rt a ha
    obtain⟨y4,hy4,t',w,e,v',Q',R',rfl,fw,T'⟩:=x147 T o ho hp (by omega) (by omega)
    exact⟨o,t',w,e,v',Q',R',kx hy3 (flat3 T.td.flat (.v _) (.v _)) ho.flat,kx hy4 (flat2 T.td.flat ho.flat) (.tup _ (flat3 T'.td.flat fw (.v _))),ho,T'.mono (by omega) (by omega) (by omega) (by omega)⟩
   by_cases k0:(k:Int)=0
   ·obtain⟨o,t',w,e,v',Q',R',k146,k147,ho,T'⟩:=op 0 (by omega)
    rcases hX with hX | ⟨L,g,hX,hg,hL,hLk⟩
    ·apply oNG ((M - ((k+1:Nat):Int)).toNat)
     ·simp only[ZG,seval,Bool.false_and,Prod.mk.injEq,DY75,hI,hX,hlt,hwj,kj,bt k0,hwn,k146,anoOp1,k147,extA,hw]
      rfl
     ·exact⟨k+1,t',v',Q',R',by simp only[E8,seval,hI],.inr ⟨[o],_,⟨by simp only[E8,seval]<;>rfl,by simp only[E8,seval]<;>rfl⟩,by simp only[E8,seval]<;>omega,(fun y hy=>by rw[List.mem_singleton] at hy;rw[hy];exact ho),by simp⟩,T',by omega,rfl⟩
    ·have nL:(L.length:Int) < 1000000:=by omega
     have hgn:(g=st.cnt 48)=False:=eq_false (by omega)
     apply oNG ((M - ((k+1:Nat):Int)).toNat)
     ·simp only[ZG,seval,Bool.false_and,Prod.mk.injEq,DY75,hI,hX,hgn,hlt,hwj,kj,bt k0,hwn,k146,aooOp1 _ _ _ _ nL,k147,extA,hw]
      rfl
     ·exact⟨k+1,t',v',Q',R',by simp only[E8,seval,hI],.inr ⟨L ++ [o],_,⟨by simp only[E8,seval]<;>rfl,by simp only[E8,seval]<;>rfl⟩,by simp only[E8,seval]<;>omega,(fun y hy=>(List.mem_append.1 hy).elim (hL y) fun h=>by rw[List.mem_singleton] at h;rw[h];exact ho),by rw[List.length_append,List.length_cons,List.length_nil];omega⟩,T',by omega,rfl⟩
   ·obtain⟨o,t',w,e,v',Q',R',k146,k147,ho,T'⟩:=op (bAt l j) j0
    rcases hX with hX | ⟨L,g,hX,hg,hL,hLk⟩
    ·apply oNG ((M - ((k+1:Nat):Int)).toNat)
     ·simp only[ZG,seval,Bool.false_and,Prod.mk.injEq,DY75,hI,hX,hlt,hwj,kj,bf k0,hwn,k146,anoOp1,k147,extA,hw]
      rfl
     ·exact⟨k+1,t',v',Q',R',by simp only[E8,seval,hI],.inr ⟨[o],_,⟨by simp only[E8,seval]<;>rfl,by simp only[E8,seval]<;>rfl⟩,by simp only[E8,seval]<;>omega,(fun y hy=>by rw[List.mem_singleton] at hy;rw[hy];exact ho),by simp⟩,T',by omega,rfl⟩
    ·have nL:(L.length:Int) < 1000000:=by omega
     have hgn:(g=st.cnt 48)=False:=eq_false (by omega)
     apply oNG ((M - ((k+1:Nat):Int)).toNat)
     ·simp only[ZG,seval,Bool.false_and,Prod.mk.injEq,DY75,hI,hX,hgn,hlt,hwj,kj,bf k0,hwn,k146,aooOp1 _ _ _ _ nL,k147,extA,hw]
      rfl
     ·exact⟨k+1,t',v',Q',R',by simp only[E8,seval,hI],.inr ⟨L ++ [o],_,⟨by simp only[E8,seval]<;>rfl,by simp only[E8,seval]<;>rfl⟩,by simp only[E8,seval]<;>omega,(fun y hy=>(List.mem_append.1 hy).elim (hL y) fun h=>by rw[List.mem_singleton] at h;rw[h];exact ho),by rw[List.length_append,List.length_cons,List.length_nil];omega⟩,T',by omega,rfl⟩
 by_cases g1:0 < (bAt l 17).tmod 4
 ·simp only[ZG,seval,Bool.false_and,Prod.mk.injEq,DY75,k101,k144,extA,k16,hN,k17,g1]
  refine use_midGX (a:=firstLoop (Tryz.f75.body.getD .skip)) (fun e st'=>e=.exit 0∧∃ (t:State) (v:SV) (Q R:Option (List Request)),(st'.env 2=.ptr 2 0 0∧st'.heap 2 0=some (.cells (cConfig zConfig))∧st'.env 4=.ptr 4 0 0∧st'.heap 4 0=some (.cells (cState zState))∧st'.env 5=.ptr 5 0 0∧st'.heap 5 0=some (.cells (cConfig c))∧st'.env 6=.ptr 6 0 0∧st'.heap 6 0=some (.cells (cState t)))∧(st'.env 9=.v (.slice none 0 0)∨∃ (L:List OpS) (g:Nat),st'.env 9=.own 48 g∧st'.heap 48 g=some (.row 190 446 L.length (csOp L))∧∀ y∈L,OpOk y)∧TI t v Q R 24000 6144) (body 24 (by omega) (by omega) _ (by simp only[E8,seval]<;>rfl)) ?rest
  rintro e st ⟨rfl,t,v,Q,R,hI,hX | ⟨L,g,hX,hh,hL⟩,T⟩
  ·have ft:=T.td.flat
   simp only[ZG,seval,Bool.false_and,Prod.mk.injEq,DY75,hI,hX]
   exact⟨_,xthree rfl (by simp only[resA,Z8,seval,hI]<;>rfl) (by simp only[resA,Z8,seval,hX]<;>rfl) (by simp only[resA,Z8,seval,hI]<;>rfl) (expo_id fc) (expo_id (.v _)) (expo_id ft),c,_,t,v,Q,R,rfl,fc,.v _,T⟩
  ·have ft:=T.td.flat
   have ex:=exFOp L.length L hL
   simp only[ZG,seval,Bool.false_and,Prod.mk.injEq,DY75,hI,hX,hh]
   exact⟨_,xthree rfl (by simp only[resA,Z8,seval,hI]<;>rfl) (by simp only[resA,Z8,seval,hX]<;>rfl) (by simp only[resA,Z8,seval,hI]<;>rfl) (expo_id fc) (by simp only[Z8,seval,hh,ex]<;>rfl) (expo_id ft),c,_,t,v,Q,R,rfl,fc,.sl _ _ (flat_csOp L hL),T⟩
 ·simp only[ZG,seval,Bool.false_and,Prod.mk.injEq,DY75,k101,k144,extA,k16,hN,k17,g1]
  refine use_midGX (a:=firstLoop (Tryz.f75.body.getD .skip)) (fun e st'=>e=.exit 0∧∃ (t:State) (v:SV) (Q R:Option (List Request)),(st'.env 2=.ptr 2 0 0∧st'.heap 2 0=some (.cells (cConfig zConfig))∧st'.env 4=.ptr 4 0 0∧st'.heap 4 0=some (.cells (cState zState))∧st'.env 5=.ptr 5 0 0∧st'.heap 5 0=some (.cells (cConfig c))∧st'.env 6=.ptr 6 0 0∧st'.heap 6 0=some (.cells (cState t)))∧(st'.env 9=.v (.slice none 0 0)∨∃ (L:List OpS) (g:Nat),st'.env 9=.own 48 g∧st'.heap 48 g=some (.row 190 446 L.length (csOp L))∧∀ y∈L,OpOk y)∧TI t v Q R 24000 6144) (body N (by omega) (by omega) _ (by simp only[E8,seval]<;>rfl)) ?rest2
  rintro e st ⟨rfl,t,v,Q,R,hI,hX | ⟨L,g,hX,hh,hL⟩,T⟩
  ·have ft:=T.td.flat
   simp only[ZG,seval,Bool.false_and,Prod.mk.injEq,DY75,hI,hX]
   exact⟨_,xthree rfl (by simp only[resA,Z8,seval,hI]<;>rfl) (by simp only[resA,Z8,seval,hX]<;>rfl) (by simp only[resA,Z8,seval,hI]<;>rfl) (expo_id fc) (expo_id (.v _)) (expo_id ft),c,_,t,v,Q,R,rfl,fc,.v _,T⟩
  ·have ft:=T.td.flat
   have ex:=exFOp L.length L hL
   simp only[ZG,seval,Bool.false_and,Prod.mk.injEq,DY75,hI,hX,hh]
   exact⟨_,xthree rfl (by simp only[resA,Z8,seval,hI]<;>rfl) (by simp only[resA,Z8,seval,hX]<;>rfl) (by simp only[resA,Z8,seval,hI]<;>rfl) (expo_id fc) (by simp only[Z8,seval,hh,ex]<;>rfl) (expo_id ft),c,_,t,v,Q,R,rfl,fc,.sl _ _ (flat_csOp L hL),T⟩
theorem x24 (l:List Int) (hl:(l.length:Int)≤9223372036854775807):∃ (t:State) (v:SV) (Q R:Option (List Request)),callL Tryz.prog 24 [.sl l.length (csInt l)]=some (.agg (cState t))∧TI t v Q R 24000 6144:=by
 suffices h:∃ r,callL Tryz.prog 24 [.sl l.length (csInt l)]=some r∧∃ (t:State) (v:SV) (Q R:Option (List Request)),r=.agg (cState t)∧TI t v Q R 24000 6144 by
  obtain⟨r,h,t,v,Q,R,rfl,T⟩:=h
  exact⟨t,v,Q,R,h,T⟩
 obtain⟨y,hy,c,X,t,v,Q,R,rfl,fc,fX,T⟩:=x75 l hl
 have ft:=T.td.flat
 have k75:=kx hy (flat1 (flatSl l)) (.tup _ (flat3 fc fX ft))
 rw[cL Tryz.func24 rfl ok24 rfl]
 simp only[Z8,seval,k75,extA]
 exact⟨_,xcell rfl (by simp only[E8,seval,ft]<;>rfl) (by simp only[Z8,seval,ft]<;>rfl) (by simp only[FLb,and_self,ft]),t,v,Q,R,rfl,T⟩
theorem c116 (b:Block) (r:Root):callL Tryz.prog 116 [.agg (cBlock b),.ip (cRoot r) 0]=some (.v (.bool (decide (b.root=r)))):=by
 rw[cL Tryz.func116 rfl ok116 rfl]
 simp only[Z8,seval]
 exact xtmp rfl (by simp only[E8,seval]) (.v _)
theorem k116 (b:Block) (r:Root) (st:St) (d:Option Nat):callFn (callL Tryz.prog) 116 ([.agg (cBlock b)] ++ [.ip (cRoot r) 0]) st d=some { dst:=d,val:=.v (.bool (decide (b.root=r)))}:=call_flat (flat2 (flatB b) (flatIpR r)) (c116 b r) (.v _)
theorem c171 (o:Option (List Block)) (hn:((ol o).length:Int) < 1000000) (r:Root):callL Tryz.prog 171 [ov csBlock o,.clo 116 [.ip (cRoot r) 0]]=some (.v (.int .i64 (fst1 (fun k=>(gx zBlock (ol o) k).root=r) (ol o).length))):=by
 rw[cL Tryz.func171 rfl ok171 (by cases o<;>rfl)]
 refine ex_eq ?_
 simp only[Z8,seval]
 refine use_loopX (fun m st=>∃ k:Nat,(st.env 0=ov csBlock o∧st.env 1=.clo 116 [.ip (cRoot r) 0]∧st.env 7=.v (.int .i64 (ol o).length)∧st.env 8=.v (.int .i64 k))∧(∀ j:Nat,j < k→¬ (gx zBlock (ol o) (j:Int)).root=r)∧k≤(ol o).length∧m=(ol o).length - k)
  (fun e st=>(e=.ret∧∃ k:Nat,k < (ol o).length∧(gx zBlock (ol o) (k:Int)).root=r∧(∀ j:Nat,j < k→¬ (gx zBlock (ol o) (j:Int)).root=r)∧st.env 4=.v (.int .i64 k))∨(e=.exit 0∧∀ j:Nat,j < (ol o).length→¬ (gx zBlock (ol o) (j:Int)).root=r)) (ol o).length ?step ?start ?rest
 case step =>
  rintro m st ⟨k,hI,hj,hk,hm⟩
  by_cases hlt:(k:Int) < (ol o).length
  ·have q0:(0:Int)≤k:=by omega
   have hw:IntKind.i64.wrap ((k:Int)+1)=((k+1:Nat):Int):=by rw[w64 _ (by omega) (by omega)];omega
   by_cases hr:(gx zBlock (ol o) (k:Int)).root=r
   ·have hd:decide ((gx zBlock (ol o) (k:Int)).root=r)=true:=decide_eq_true hr
    apply oT (.ret)
    ·simp only[Z8,seval,hI,hlt,q0,k116,hd]
     rfl
    ·exact .inl ⟨rfl,k,by omega,hr,hj,by simp only[E8,seval]⟩
   ·have hd:decide ((gx zBlock (ol o) (k:Int)).root=r)=false:=decide_eq_false hr
    apply oN ((ol o).length - (k+1))
    ·simp only[Z8,seval,hI,hlt,q0,k116,hd,hw]
     rfl
    ·exact⟨k+1,by simp only[E8,seval,hI],fun j h=>(Nat.lt_succ_iff_lt_or_eq.1 h).elim (hj j) fun e=>by subst e;exact hr,by omega,rfl⟩
  ·apply oT (.exit 0)
   ·simp only[Z8,seval,hI,hlt]
    rfl
   ·exact .inr ⟨rfl,fun j h=>hj j (by omega)⟩
 case start=>exact⟨0,by simp only[E8,seval]<;>rfl,fun j h=>by omega,by omega,by omega⟩
 case rest =>
  rintro e st (⟨rfl,k,hk,hh,hj,h⟩ | ⟨rfl,hj⟩)
  ·have hv:fst1 (fun k=>(gx zBlock (ol o) k).root=r) (ol o).length=k:=fst1_at hh hj _ hk
   simp only[Z8,seval]
   exact⟨_,xtmp rfl (by simp only[E8,seval,h]<;>rfl) (by first | exact .v _ | simp only[FLb,h]),by rw[hv]⟩
  ·have hv:fst1 (fun k=>(gx zBlock (ol o) k).root=r) (ol o).length=-1:=fst1_none _ hj
   simp only[Z8,seval]
   exact⟨_,xtmp rfl (by simp only[E8,seval]<;>rfl) (by first | exact .v _ | simp only[FLb]),by rw[hv]⟩
theorem c115 (o:Option (List Block)) (hn:((ol o).length:Int) < 1000000) (r:Root):callL Tryz.prog 115 [ov csBlock o,.clo 116 [.ip (cRoot r) 0]]=some (.v (.bool (decide (∃ j:Nat,j < (ol o).length∧(gx zBlock (ol o) j).root=r)))):=by
 have fcl:Flat (.clo 116 [.ip (cRoot r) 0]):=.clo _ _ (flat1 (flatIpR r))
 have k171:=kx (c171 o hn r) (flat2 (flat_ovBlock o) fcl) (.v _)
 rw[cL Tryz.func115 rfl ok115 (by cases o<;>rfl)]
 refine ex_eq ?_
 rcases fst1_cases (fun k=>(gx zBlock (ol o) k).root=r) (ol o).length with ⟨e,hj⟩ | ⟨k,hk,hh,hj,e⟩
 ·have hv:decide (∃ j:Nat,j < (ol o).length∧(gx zBlock (ol o) j).root=r)=false:=decide_eq_false fun ⟨j,h1,h2⟩=>hj j h1 h2
  rw[e] at k171
  simp only[Z8,seval,k171]
  exact⟨_,xtmp rfl (by simp only[E8,seval]<;>rfl) (by first | exact .v _ | simp only[FLb]),by rw[hv]⟩
 ·have hv:decide (∃ j:Nat,j < (ol o).length∧(gx zBlock (ol o) j).root=r)=true:=decide_eq_true ⟨k,hk,hh⟩
  have q0:(0:Int)≤k:=by omega
  rw[e] at k171
  simp only[Z8,seval,k171,q0]
  exact⟨_,xtmp rfl (by simp only[E8,seval]<;>rfl) (by first | exact .v _ | simp only[FLb]),by rw[hv]⟩
theorem c53 {s:Store} {v:SV} (hs:SD s v) (r:Root):callL Tryz.prog 53 [.agg (cStore s),.agg (cRoot r)]=some (.v (.bool (decide (KnB v r)))):=by
 have q115:∀ (args:List AV) (st:St) (d:Option Nat),callFn (callL Tryz.prog) 115 args st d=callQ (callL Tryz.prog) 115 (optAll (args.map (expo st))) (decide (∀ x∈args,Flat x)) st d:=fun args st d=>callFn_Q _ _ _ _ _
 have k115:∀ (fl:Bool) (st:St) (d:Option Nat),callQ (callL Tryz.prog) 115 (some [ov csBlock v.O,.clo 116 [.ip (cRoot r) 0]]) fl st d=some { dst:=d,val:=.v (.bool (decide (∃ j:Nat,j < (ol v.O).length∧(gx zBlock (ol v.O) j).root=r)))}:=fun fl st d=>Q_bool (c115 v.O hs.nO r)
 rw[cL Tryz.func53 rfl ok53 rfl]
 refine ex_eq ?_
 by_cases g:0≤findR v.ns r
 ·have hv:decide (KnB v r)=true:=decide_eq_true (.inr g)
  simp only[Z8,seval,hs.tree,k89 _ _ hs.nn,g]
  exact⟨_,xtmp rfl (by simp only[E8,seval]<;>rfl) (by first | exact .v _ | simp only[FLb]),by rw[hv]⟩
 ·have hv:decide (KnB v r)=decide (∃ j:Nat,j < (ol v.O).length∧(gx zBlock (ol v.O) j).root=r):=decide_eq_decide.2 ⟨fun h=>h.resolve_right g,.inl⟩
  simp only[Z8,seval,hs.tree,k89 _ _ hs.nn,g,hs.orphans,q115,expo_clo1,expoP_root,k115]
  exact⟨_,xtmp rfl (by simp only[E8,seval]<;>rfl) (by first | exact .v _ | simp only[FLb]),by rw[hv]⟩
theorem k53 {s:Store} {v:SV} (hs:SD s v) (r:Root) (st:St) (d:Option Nat):callFn (callL Tryz.prog) 53 [.agg (cStore s),.agg (cRoot r)] st d=some { dst:=d,val:=.v (.bool (decide (KnB v r)))}:=call_flat (flat2 hs.flat (flatR r)) (c53 hs r) (.v _)
theorem c135 {s:Store} (h:1≤s.cFg.spe∧s.cFg.spe≤64) (hf:Flat (.agg (cStore s))) (b:Block):callL Tryz.prog 135 [.agg (cStore s),.agg (cBlock b)]=some (.v (.bool (decide (OrdB s b)))):=by
 rw[cL Tryz.func135 rfl ok135 rfl]
 have h94:=k94 h b.slot
 unfold OrdB
 by_cases h1:b.fin.epoch≤b.just.epoch
 ·by_cases h2:b.just.epoch≤b.pulled.pj.epoch
  ·by_cases h3:b.fin.epoch≤b.pulled.pf.epoch
   ·by_cases h4:b.pulled.pf.epoch≤b.pulled.pj.epoch
    ·by_cases h5:b.pulled.pj.epoch≤epV s b.slot
     ·simp only[*,true_and,false_and,and_true,and_false,decide_true,decide_false]
      simp only[Z8,seval,extA, *]
      exact xtmp rfl (by simp only[E8,seval, *]<;>rfl) (.v _)
     ·simp only[*,true_and,false_and,and_true,and_false,decide_true,decide_false]
      simp only[Z8,seval,extA, *]
      exact xtmp rfl (by simp only[E8,seval, *]<;>rfl) (.v _)
    ·simp only[*,true_and,false_and,and_true,and_false,decide_true,decide_false]
     simp only[Z8,seval,extA, *]
     exact xtmp rfl (by simp only[E8,seval, *]<;>rfl) (.v _)
   ·simp only[*,true_and,false_and,and_true,and_false,decide_true,decide_false]
    simp only[Z8,seval,extA, *]
    exact xtmp rfl (by simp only[E8,seval, *]<;>rfl) (.v _)
  ·simp only[*,true_and,false_and,and_true,and_false,decide_true,decide_false]
   simp only[Z8,seval,extA, *]
   exact xtmp rfl (by simp only[E8,seval, *]<;>rfl) (.v _)
 ·simp only[*,true_and,false_and,and_true,and_false,decide_true,decide_false]
  simp only[Z8,seval,extA, *]
  exact xtmp rfl (by simp only[E8,seval, *]<;>rfl) (.v _)
theorem k135 {s:Store} (h:1≤s.cFg.spe∧s.cFg.spe≤64) (hf:Flat (.agg (cStore s))) (b:Block) (st:St) (d:Option Nat):callFn (callL Tryz.prog) 135 [.agg (cStore s),.agg (cBlock b)] st d=some { dst:=d,val:=.v (.bool (decide (OrdB s b)))}:=call_flat (flat2 hf (flatB _)) (c135 h hf b) (.v _)
theorem sof_ok {s:Store} (h:1≤s.cFg.spe∧s.cFg.spe≤64) {e x:Int} (e0:0≤e) (he:e≤epV s x) (hx:Rg x):stV s e=(e * s.cFg.spe,0)∧e * s.cFg.spe≤x:=by
 have h1:epV s x=x / s.cFg.spe:=by
  unfold epV
  rw[Int.tdiv_eq_ediv_of_nonneg hx.1]
  have:=Int.ediv_le_self s.cFg.spe hx.1
  have:=hx.2
  exact wu64 _ (Int.ediv_nonneg hx.1 (by omega)) (by omega)
 rw[h1] at he
 have hm:e * s.cFg.spe≤x:=(Int.le_ediv_iff_mul_le (by omega)).1 he
 have h0:0≤e * s.cFg.spe:=Int.mul_nonneg e0 (by omega)
 have hb:=hx.2
 refine⟨?_,hm⟩
 unfold stV sofV mulV
 rw[if_pos h]
 have ht:Int.tdiv 18446744073709551615 s.cFg.spe=18446744073709551615 / s.cFg.spe:=Int.tdiv_eq_ediv_of_nonneg (by omega)
 have hq:=Int.ediv_le_self s.cFg.spe (show (0:Int)≤18446744073709551615 by omega)
 have hq0:=Int.ediv_nonneg (show (0:Int)≤18446744073709551615 by omega) (show 0≤s.cFg.spe by omega)
 rw[ht,wu64 _ hq0 (by omega),if_neg (fun k=>by have:=(Int.ediv_lt_iff_lt_mul (by omega)).1 k.2;omega),wu64 _ h0 (by omega)]
def LdB (s:Store) (v:SV) (b:Block) (c:Ckpt):Prop:=if (stV s c.epoch).1 < b.slot then 0≤atV v.ns (findR v.ns b.parent) (stV s c.epoch).1∧(nd v.ns (atV v.ns (findR v.ns b.parent) (stV s c.epoch).1)).block.root=c.root else b.root=c.root
theorem c136 {s:Store} {v:SV} {q:Int} (h:GI s v q) (b:Block) (c:Ckpt) (c0:Rg c.epoch) (c1:(stV s c.epoch).2=0):callL Tryz.prog 136 [.agg (cStore s),.agg (cBlock b),.v (.int .i64 (findR v.ns b.parent)),.agg (cCkpt c)]=some (.v (.bool (decide (LdB s v b c)))):=by
 have hs:=h.sd
 have k95':∀ (st:St) (d:Option Nat),callFn (callL Tryz.prog) 95 [.v (.int .u64 c.epoch),.v (.int .u64 s.cFg.spe)] st d=some { dst:=d,val:=.tup [.v (.int .u64 (stV s c.epoch).1),.v (.int .i64 0)]}:=fun st d=>by rw[← c1];exact k95 c0 st d
 have ra:=atV_range h.up (findR v.ns b.parent) (stV s c.epoch).1
 rw[cL Tryz.func136 rfl ok136 rfl]
 refine ex_eq ?_
 by_cases g1:(stV s c.epoch).1 < b.slot
 case neg =>
  have g1':b.slot≤(stV s c.epoch).1:=by omega
  by_cases g2:c.root=b.root
  ·simp only[Z8,seval,k95',extA,g1',g2,decide_true]
   exact⟨_,xtmp rfl (by simp only[E8,seval,g2]<;>rfl) (by first | exact .v _ | simp only[FLb,g2]),by rw[decide_eq_true (show LdB s v b c by unfold LdB;rw[if_neg g1];exact g2.symm)]⟩
  ·simp only[Z8,seval,k95',extA,g1',g2,decide_false]
   exact⟨_,xtmp rfl (by simp only[E8,seval,g2]<;>rfl) (by first | exact .v _ | simp only[FLb,g2]),by rw[decide_eq_false (show ¬ LdB s v b c by unfold LdB;rw[if_neg g1];exact fun e=>g2 e.symm)]⟩
 have g1':¬ b.slot≤(stV s c.epoch).1:=by omega
 by_cases g3:0≤atV v.ns (findR v.ns b.parent) (stV s c.epoch).1
 case neg =>
  simp only[Z8,seval,k95',extA,g1',hs.tree,k96 _ h.up h.up0,g3]
  exact⟨_,xtmp rfl (by simp only[E8,seval]<;>rfl) (by first | exact .v _ | simp only[FLb]),by rw[decide_eq_false (show ¬ LdB s v b c by unfold LdB;rw[if_pos g1];exact fun e=>g3 e.1)]⟩
 by_cases g4:(nd v.ns (atV v.ns (findR v.ns b.parent) (stV s c.epoch).1)).block.root=c.root
 ·simp only[Z8,seval,k95',extA,g1',hs.tree,k96 _ h.up h.up0,g3,ra,g4,decide_true]
  exact⟨_,xtmp rfl (by simp only[E8,seval]<;>rfl) (by first | exact .v _ | simp only[FLb]),by rw[decide_eq_true (show LdB s v b c by unfold LdB;rw[if_pos g1];exact⟨g3,g4⟩)]⟩
 ·simp only[Z8,seval,k95',extA,g1',hs.tree,k96 _ h.up h.up0,g3,ra,g4,decide_false]
  exact⟨_,xtmp rfl (by simp only[E8,seval]<;>rfl) (by first | exact .v _ | simp only[FLb]),by rw[decide_eq_false (show ¬ LdB s v b c by unfold LdB;rw[if_pos g1];exact fun e=>g4 e.2)]⟩
theorem c68 {s:Store} {v:SV} {q:Int} (h:GI s v q) (r:RG s v) (b:Block) (hb:Rg b.slot):callL Tryz.prog 68 [.agg (cStore s),.agg (cBlock b)]=some (.v (.bool (decide (FitB s v b)))):=by
 have hs:=h.sd
 have hf:=hs.flat
 rw[cL Tryz.func68 rfl ok68 rfl]
 refine ex_eq ?_
 have r1:=findR_range v.ns b.parent
 by_cases g1:findR v.ns b.parent < 0
 ·have hv:decide (FitB s v b)=false:=decide_eq_false (fun h=>by have:=h.1;omega)
  simp only[Z8,seval,hs.tree,k89 _ _ hs.nn,g1]
  exact⟨_,xtmp rfl (by simp only[E8,seval]<;>rfl) (by first | exact .v _ | simp only[FLb]),by rw[hv]⟩
 by_cases g2:OrdB s b
 case neg =>
  have hv:decide (FitB s v b)=false:=decide_eq_false (fun h=>g2 h.2.1)
  simp only[Z8,seval,hs.tree,k89 _ _ hs.nn,g1,k135 h.spe hf,g2,decide_false]
  exact⟨_,xtmp rfl (by simp only[E8,seval]<;>rfl) (by first | exact .v _ | simp only[FLb]),by rw[hv]⟩
 have k136:∀ c∈cksB b,s.finality.fin.epoch < c.epoch→∀ (st:St) (d:Option Nat),callFn (callL Tryz.prog) 136 [.agg (cStore s),.agg (cBlock b),.v (.int .i64 (findR v.ns b.parent)),.agg (cCkpt c)] st d=some { dst:=d,val:=.v (.bool (decide (LdB s v b c)))}:=by
  intro c hc hlt
  have h0:0≤c.epoch:=by have:=r.f.1;omega
  have hle:c.epoch≤epV s b.slot:=by
   obtain⟨o1,o2,o3,o4,o5⟩:=g2
   simp only[cksB,List.mem_cons,List.not_mem_nil,or_false] at hc
   rcases hc with rfl | rfl | rfl | rfl<;>omega
  have hsof:=sof_ok h.spe h0 hle hb
  have hrg:Rg c.epoch:=⟨h0,by have:epV s b.slot < 18446744073709551616:=(u64_Rg _).2;omega⟩
  exact kx (c136 h b c hrg (by rw[hsof.1])) (by simp only[List.mem_cons,List.not_mem_nil,or_false,forall_eq_or_imp,forall_eq];exact⟨hf,flatB b,.v _,.agg _ (flat_cCkpt c)⟩) (.v _)
 simp only[Z8,seval,hs.tree,k89 _ _ hs.nn,g1,k135 h.spe hf,g2,decide_true,ev_bs4,elC_c]
 have h4:(cksB b).length=4:=rfl
 refine use_loopX (fun m st=>∃ k:Nat,(st.env 2=.ptr 2 0 0∧st.heap 2 0=some (.cells (cStore s))∧st.env 3=.ptr 3 0 0∧st.heap 3 0=some (.cells (cBlock b))∧st.env 5=.v (.int .i64 (findR v.ns b.parent))∧st.env 31=.own 31 0∧st.heap 31 0=some (.row 41 33 (cksB b).length (csCkpt (cksB b)))∧st.env 32=.v (.int .i64 (cksB b).length)∧st.env 33=.v (.int .i64 k))∧(∀ j:Nat,j < k→FitC s v b (gx zCkpt (cksB b) j))∧k≤4∧m=4 - k)
  (fun e st=>(e=.ret∧st.env 4=.v (.bool false)∧∃ j:Nat,j < 4∧¬ FitC s v b (gx zCkpt (cksB b) j))∨(e=.exit 0∧∀ j:Nat,j < 4→FitC s v b (gx zCkpt (cksB b) j))) 4 ?step ?start ?rest
 case step =>
  rintro m st ⟨k,hI,hj,hk,hm⟩
  by_cases hlt':k < 4
  ·have hlt:(k:Int) < (cksB b).length:=by rw[h4];omega
   have q0:(0:Int)≤k:=by omega
   have hw:IntKind.i64.wrap ((k:Int)+1)=((k+1:Nat):Int):=by rw[w64 _ (by omega) (by omega)];omega
   obtain⟨c,hc⟩:∃ c,gx zCkpt (cksB b) k=c:=⟨_,rfl⟩
   have hcm:c∈cksB b:=by rw[← hc];exact gx_mem q0 hlt
   have ld0:∀ T kk,ldK Tryz.prog T=some kk→0 < kk→kk≤33→loadE Tryz.prog T (some (.row 41 33 (cksB b).length (csCkpt (cksB b)))) ((k:Int).toNat * 33)=ldAt Tryz.prog T (cCkpt c) 0:=fun T kk h1 h2 h3=>by rw[ldaCkpt q0 hlt h1 h2 h3,hc]
   have nxt:FitC s v b c→∀ j:Nat,j < k+1→FitC s v b (gx zCkpt (cksB b) j):=fun h j hj'=>(Nat.lt_succ_iff_lt_or_eq.1 hj').elim (hj j) fun e=>by subst e;rw[hc];exact h
   have ld1:=ld0 41 33 lk41 (by decide) (by decide)
   by_cases h1:s.finality.fin.epoch < c.epoch
   case neg =>
    apply oN (4 - (k+1))
    ·simp only[Z8,seval,hI,hlt,q0,ld1,h1,hw]
     rfl
    ·exact⟨k+1,by simp only[E8,seval,hI],nxt (.inl (by omega)),by omega,rfl⟩
   have k136':=k136 c hcm h1
   by_cases h2:LdB s v b c
   ·apply oN (4 - (k+1))
    ·simp only[Z8,seval,hI,hlt,q0,ld1,h1,k136',h2,decide_true,hw]
     rfl
    ·exact⟨k+1,by simp only[E8,seval,hI],nxt (.inr h2),by omega,rfl⟩
   ·apply oT (.ret)
    ·simp only[Z8,seval,hI,hlt,q0,ld1,h1,k136',h2,decide_false]
     rfl
    ·exact .inl ⟨rfl,by simp only[E8,seval],k,hlt',by rw[hc];exact fun h=>h.elim (fun h=>by omega) h2⟩
  ·have hlt:¬ ((k:Int) < (cksB b).length):=by rw[h4];omega
   apply oT (.exit 0)
   ·simp only[Z8,seval,hI,hlt]
    rfl
   ·exact .inr ⟨rfl,fun j h=>hj j (by omega)⟩
 case start=>exact⟨0,by simp only[E8,seval]<;>exact⟨rfl,rfl⟩,fun j h=>by omega,by omega,by omega⟩
 case rest =>
  rintro e st (⟨rfl,h,j,hj,hn⟩ | ⟨rfl,h⟩)
  ·have hv:decide (FitB s v b)=false:=decide_eq_false (fun h=>hn (h.2.2 j hj))
   simp only[Z8,seval]
   exact⟨_,xtmp rfl (by simp only[E8,seval,h]<;>rfl) (by first | exact .v _ | simp only[FLb,h]),by rw[hv]⟩
  ·have hv:decide (FitB s v b)=true:=decide_eq_true ⟨by omega,g2,h⟩
   simp only[Z8,seval]
   exact⟨_,xtmp rfl (by simp only[E8,seval]<;>rfl) (by first | exact .v _ | simp only[FLb]),by rw[hv]⟩
theorem k68 {s:Store} {v:SV} {q:Int} (h:GI s v q) (r:RG s v) (b:Block) (hb:Rg b.slot) (st:St) (d:Option Nat):callFn (callL Tryz.prog) 68 [.agg (cStore s),.agg (cBlock b)] st d=some { dst:=d,val:=.v (.bool (decide (FitB s v b)))}:=call_flat (flat2 h.sd.flat (flatB b)) (c68 h r b hb) (.v _)
theorem c51 {s:Store} {v:SV} {q:Int} (h:GI s v q) (r:RG s v) (b:Block) (hb:Rg b.slot):callL Tryz.prog 51 [.agg (cStore s),.agg (cBlock b)]=some (.v (.int .i64 (cbV s v b))):=by
 have hs:=h.sd
 have hf:=hs.flat
 have k95':∀ (st:St) (d:Option Nat),callFn (callL Tryz.prog) 95 [.v (.int .u64 s.finality.fin.epoch),.v (.int .u64 s.cFg.spe)] st d=some { dst:=d,val:=.tup [.v (.int .u64 (stV s s.finality.fin.epoch).1),.v (.int .i64 (stV s s.finality.fin.epoch).2)]}:=fun st d=>k95 r.f st d
 rw[cL Tryz.func51 rfl ok51 rfl]
 refine ex_eq ?_
 have r1:=findR_range v.ns b.parent
 by_cases g1:b.root=zRoot
 ·simp only[Z8,seval,k95',extA,k112,k53 hs,hs.tree,k89 _ _ hs.nn,k68 h r b hb,k113,decide_true,decide_false,g1]
  exact⟨_,xtmp rfl (by simp only[E8,seval]<;>rfl) (by first | exact .v _ | simp only[FLb]),by simp only[cbV,g1,not_true_eq_false,not_false_eq_true,if_true,if_false]⟩
 by_cases g2:KnB v b.root
 ·simp only[Z8,seval,k95',extA,k112,k53 hs,hs.tree,k89 _ _ hs.nn,k68 h r b hb,k113,decide_true,decide_false,g1,g2]
  exact⟨_,xtmp rfl (by simp only[E8,seval]<;>rfl) (by first | exact .v _ | simp only[FLb]),by simp only[cbV,g1,g2,not_true_eq_false,not_false_eq_true,if_true,if_false]⟩
 by_cases g3:s.now < b.slot
 ·simp only[Z8,seval,k95',extA,k112,k53 hs,hs.tree,k89 _ _ hs.nn,k68 h r b hb,k113,decide_true,decide_false,g1,g2,g3]
  exact⟨_,xtmp rfl (by simp only[E8,seval]<;>rfl) (by first | exact .v _ | simp only[FLb]),by simp only[cbV,g1,g2,g3,not_true_eq_false,not_false_eq_true,if_true,if_false]⟩
 by_cases g4:b.slot≤(stV s s.finality.fin.epoch).1
 ·simp only[Z8,seval,k95',extA,k112,k53 hs,hs.tree,k89 _ _ hs.nn,k68 h r b hb,k113,decide_true,decide_false,g1,g2,g3,g4]
  exact⟨_,xtmp rfl (by simp only[E8,seval]<;>rfl) (by first | exact .v _ | simp only[FLb]),by simp only[cbV,g1,g2,g3,g4,not_true_eq_false,not_false_eq_true,if_true,if_false]⟩
 by_cases g5:findR v.ns b.parent < 0
 ·simp only[Z8,seval,k95',extA,k112,k53 hs,hs.tree,k89 _ _ hs.nn,k68 h r b hb,k113,decide_true,decide_false,g1,g2,g3,g4,g5]
  exact⟨_,xtmp rfl (by simp only[E8,seval]<;>rfl) (by first | exact .v _ | simp only[FLb]),by simp only[cbV,g1,g2,g3,g4,g5,not_true_eq_false,not_false_eq_true,if_true,if_false]⟩
 have q0:0≤findR v.ns b.parent:=by omega
 by_cases g6:b.slot≤(nd v.ns (findR v.ns b.parent)).block.slot
 ·simp only[Z8,seval,k95',extA,k112,k53 hs,hs.tree,k89 _ _ hs.nn,k68 h r b hb,k113,decide_true,decide_false,g1,g2,g3,g4,g5,q0,r1,g6]
  exact⟨_,xtmp rfl (by simp only[E8,seval]<;>rfl) (by first | exact .v _ | simp only[FLb]),by simp only[cbV,g1,g2,g3,g4,g5,g6,not_true_eq_false,not_false_eq_true,if_true,if_false]⟩
 by_cases g7:(nd v.ns (findR v.ns b.parent)).status=2
 ·simp only[Z8,seval,k95',extA,k112,k53 hs,hs.tree,k89 _ _ hs.nn,k68 h r b hb,k113,decide_true,decide_false,g1,g2,g3,g4,g5,q0,r1,g6,bt g7]
  exact⟨_,xtmp rfl (by simp only[E8,seval]<;>rfl) (by first | exact .v _ | simp only[FLb]),by simp only[cbV,g1,g2,g3,g4,g5,g6,g7,not_true_eq_false,not_false_eq_true,if_true,if_false]⟩
 by_cases g8:¬ FitB s v b
 ·simp only[Z8,seval,k95',extA,k112,k53 hs,hs.tree,k89 _ _ hs.nn,k68 h r b hb,k113,decide_true,decide_false,g1,g2,g3,g4,g5,q0,r1,g6,bf g7,g8]
  exact⟨_,xtmp rfl (by simp only[E8,seval]<;>rfl) (by first | exact .v _ | simp only[FLb]),by simp only[cbV,g1,g2,g3,g4,g5,g6,g7,g8,not_true_eq_false,not_false_eq_true,if_true,if_false]⟩
 replace g8:=Classical.not_not.1 g8
 by_cases g9:¬ MFit s.cFg.ttd (nd v.ns (findR v.ns b.parent)).block b
 ·simp only[Z8,seval,k95',extA,k112,k53 hs,hs.tree,k89 _ _ hs.nn,k68 h r b hb,k113,decide_true,decide_false,g1,g2,g3,g4,g5,q0,r1,g6,bf g7,g8,g9]
  exact⟨_,xtmp rfl (by simp only[E8,seval]<;>rfl) (by first | exact .v _ | simp only[FLb]),by simp only[cbV,g1,g2,g3,g4,g5,g6,g7,g8,g9,not_true_eq_false,not_false_eq_true,if_true,if_false]⟩
 replace g9:=Classical.not_not.1 g9
 by_cases g10:s.cFg.lim.nodeL≤(v.ns.length:Int)
 ·simp only[Z8,seval,k95',extA,k112,k53 hs,hs.tree,k89 _ _ hs.nn,k68 h r b hb,k113,decide_true,decide_false,g1,g2,g3,g4,g5,q0,r1,g6,bf g7,g8,g9,g10]
  exact⟨_,xtmp rfl (by simp only[E8,seval]<;>rfl) (by first | exact .v _ | simp only[FLb]),by simp only[cbV,g1,g2,g3,g4,g5,g6,g7,g8,g9,g10,not_true_eq_false,not_false_eq_true,if_true,if_false]⟩
 simp only[Z8,seval,k95',extA,k112,k53 hs,hs.tree,k89 _ _ hs.nn,k68 h r b hb,k113,decide_true,decide_false,g1,g2,g3,g4,g5,q0,r1,g6,bf g7,g8,g9,g10]
 exact⟨_,xtmp rfl (by simp only[E8,seval]<;>rfl) (by first | exact .v _ | simp only[FLb]),by simp only[cbV,g1,g2,g3,g4,g5,g6,g7,g8,g9,g10,not_true_eq_false,not_false_eq_true,if_true,if_false]⟩
theorem k51 {s:Store} {v:SV} {q:Int} (h:GI s v q) (r:RG s v) (b:Block) (hb:Rg b.slot) (st:St) (d:Option Nat):callFn (callL Tryz.prog) 51 [.agg (cStore s),.agg (cBlock b)] st d=some { dst:=d,val:=.v (.int .i64 (cbV s v b))}:=call_flat (flat2 h.sd.flat (flatB b)) (c51 h r b hb) (.v _)
theorem findR_one (n:Node) (r:Root):findR [n] r=if n.block.root=r then 0 else -1:=by
 unfold findR
 by_cases h:n.block.root=r<;>simp[List.findIdx?_cons,h]
theorem mk_ne {a b:Int} (a0:0≤a) (a1:a < 256) (b0:0≤b) (b1:b < 256) (h:a≠b):mkRoot a≠mkRoot b:=fun e=>by
 have e1:IntKind.u8.wrap a=IntKind.u8.wrap b:=by rw[← mkRoot_get0,← mkRoot_get0,e]
 rw[u8_small a0 a1,u8_small b0 b1] at e1
 exact h e1
theorem GI.now {s:Store} {v:SV} {q:Int} (h:GI s v q) (n:Int):GI { s with now:=n } v q :=
 ⟨⟨h.sd.bal,h.sd.latest,h.sd.equiv,h.sd.early,h.sd.orphans,h.sd.tree,h.sd.tables,h.sd.eV,h.sd.tB,h.sd.nB,h.sd.nL,h.sd.nQ,h.sd.nE,h.sd.nO,h.sd.nT,h.sd.nn⟩,h.up,h.up0,h.pos,h.nl,h.nlB,h.spe,h.lat,h.nB,h.nO,h.nOB,h.nE,h.nEB,h.nT,h.nTB,h.nQ,h.nQB,h.just⟩
theorem RG.later {s:Store} {v:SV} (r:RG s v) (hs:1≤s.cFg.spe) {n:Int} (h0:s.now≤n) (h1:n≤1099511627776):RG { s with now:=n } v :=
 ⟨⟨by have:=r.now.1;show 0≤n;omega,h1⟩,r.j,r.f,fun a ha=>⟨(r.nd a ha).1,by have:=(r.nd a ha).2;show a.block.slot≤n;omega⟩,r.or,r.rt,⟨r.fe.1,Int.le_trans r.fe.2 (show epV s s.now≤epV s n from epV_mono hs r.now.1 h0 (by omega))⟩,r.ds,r.tb,r.ne⟩
def awkB (c:Config):Block:={ zBlock with root:=mkRoot 9,parent:=c.genesis,slot:=1,just:=⟨0,c.genesis⟩,fin:=⟨0,c.genesis⟩,pulled:=⟨⟨0,c.genesis⟩,⟨0,c.genesis⟩⟩}
theorem gen_find {c:Config} {b:List Int} (h:CfgOk c b):findR (newW c b).ns c.genesis=0∧findR (newW c b).ns (mkRoot 9)=-1:=by
 have e:(newW c b).ns=[⟨genB c,-1,1⟩]:=rfl
 rw[e,findR_one,findR_one,if_pos (show (genB c).root=c.genesis from rfl),if_neg (show ¬ (genB c).root=mkRoot 9 by show ¬ c.genesis=mkRoot 9;rw[h.gen];exact mk_ne (by omega) (by omega) (by omega) (by omega) (by omega))]
 exact⟨rfl,rfl⟩
theorem awk_new {c:Config} {b:List Int} (h:CfgOk c b) (n:Int):¬ KnB (newW c b) (mkRoot 9):=by
 rintro (⟨j,h1,_⟩ | h1)
 ·exact absurd h1 (by show ¬ j < 0;omega)
 ·rw[(gen_find h).2] at h1;omega
theorem nine_ne:mkRoot 9≠zRoot:=(Pr_mk (by omega) (by omega)).1
theorem awk1 {c:Config} {b:List Int} (h:CfgOk c b):cbV (newS c b) (newW c b) (awkB c)=12:=by
 unfold cbV
 rw[if_neg (show ¬ (awkB c).root=zRoot from nine_ne),if_neg (show ¬ KnB (newW c b) (awkB c).root from awk_new h 0),if_pos (show (newS c b).now < (awkB c).slot by show (0:Int) < 1;omega)]
theorem cbV_ok {s:Store} {v:SV} {b:Block} (h1:¬ b.root=zRoot) (h2:¬ KnB v b.root) (h3:¬ s.now < b.slot) (h4:¬ b.slot≤(stV s s.finality.fin.epoch).1) (h5:¬ findR v.ns b.parent < 0) (h6:¬ b.slot≤(nd v.ns (findR v.ns b.parent)).block.slot)
 (h7:¬ (nd v.ns (findR v.ns b.parent)).status=2) (h8:FitB s v b) (h9:MFit s.cFg.ttd (nd v.ns (findR v.ns b.parent)).block b) (h10:¬ s.cFg.lim.nodeL≤(v.ns.length:Int)):cbV s v b=0:=by
 unfold cbV
 rw[if_neg h1,if_neg h2,if_neg h3,if_neg h4,if_neg h5,if_neg h6,if_neg h7,if_neg (fun x=>x h8),if_neg (fun x=>x h9),if_neg h10]
theorem awk2 {c:Config} {b:List Int} (h:CfgOk c b):cbV { newS c b with now:=1 } (newW c b) (awkB c)=0:=by
 have g:=gen_find h
 have hs:1≤(newS c b).cFg.spe∧(newS c b).cFg.spe≤64:=h.spe
 have s0:=sof_ok (s:={ newS c b with now:=1 }) hs (e:=0) (x:=0) (by omega) (u64_Rg _).1 ⟨by omega,by omega⟩
 have st0:(stV { newS c b with now:=1 } ({ newS c b with now:=1 }:Store).finality.fin.epoch).1=0:=by
  show (stV { newS c b with now:=1 } 0).1=0
  rw[s0.1];show (0:Int) * _=0;rw[Int.zero_mul]
 have nd0:nd (newW c b).ns 0=⟨genB c,-1,1⟩:=rfl
 have hfit:FitB { newS c b with now:=1 } (newW c b) (awkB c):=by
  refine⟨by show 0≤findR (newW c b).ns c.genesis;rw[g.1];omega,⟨by show (0:Int)≤0;omega,by show (0:Int)≤0;omega,by show (0:Int)≤0;omega,by show (0:Int)≤0;omega,(u64_Rg _).1⟩,fun j hj=>.inl ?_⟩
  rcases (by omega:j=0∨j=1∨j=2∨j=3) with rfl | rfl | rfl | rfl<;>exact Int.le_refl _
 have n6:=h.n6
 refine cbV_ok nine_ne (awk_new h 0) (show ¬ (1:Int) < 1 by omega) (by rw[st0];show ¬ (1:Int)≤0;omega) (by show ¬ findR (newW c b).ns c.genesis < 0;rw[g.1];omega) ?_ ?_ hfit ⟨fun _=>?_,fun h=>absurd rfl h⟩ (show ¬ c.lim.nodeL≤((1:Nat):Int) by omega)
 ·show ¬ (1:Int)≤(nd (newW c b).ns (findR (newW c b).ns c.genesis)).block.slot
  rw[g.1,nd0];show ¬ (1:Int)≤0;omega
 ·show ¬ (nd (newW c b).ns (findR (newW c b).ns c.genesis)).status=2
  rw[g.1,nd0];show ¬ (1:Int)=2;omega
 ·show (nd (newW c b).ns (findR (newW c b).ns c.genesis)).block.payload=zRoot
  rw[g.1,nd0];rfl
theorem awk3 {c:Config} {b:List Int} (h:CfgOk c b):cbV { newS c b with now:=1 } (newW c b) { awkB c with root:=c.genesis }=9:=by
 unfold cbV
 rw[if_neg (show ¬ c.genesis=zRoot by rw[h.gen];exact mkRoot1),if_pos (show KnB (newW c b) c.genesis from .inr (by rw[(gen_find h).1];omega))]
theorem c55:callL Tryz.prog 55 []=some (.v (.bool true)):=by
 obtain⟨y,hy,c,b,rfl,hc⟩:=x101 [3] (by decide)
 have fc:Flat (.agg (cConfig c)):=(fl_Config c).2 (by rw[hc.bal];exact flat_ovU64 _)
 have k101:∀ (st:St) (a g:Nat) (d:Option Nat),st.heap a g=some (.row 3 1 1 [.v (.int .i64 3)])→callEat (callL Tryz.prog) 101 [.own a g] st d=some { dst:=d,val:=.agg (cConfig c),upd:=some (a,g,none)}:=fun st a g d hh=>by
  rw[eat_one (s:=a) (k:=g) rfl (by intro y hy;simp only[List.mem_cons,List.not_mem_nil,or_false] at hy;subst hy;exact .inr (.inl ⟨a,g,rfl⟩)),List.map_cons,List.map_nil,expo_ownI (L:=[3]) hh,optAll_some,optAll_nil]
  exact EQ_of hy fc
 have g0:=GI.new hc
 have r0:=RG.new hc
 have fs:=g0.sd.flat
 have k102:=kx (c102 hc) (flat1 fc) (.tup _ (flat2 fs (.v _)))
 have g1:=g0.now 1
 have r1:=r0.later (n:=1) hc.spe.1 (by show (0:Int)≤1;omega) (by omega)
 have ka:=k51 g0 r0 (awkB c) ⟨by show (0:Int)≤1;omega,by show (1:Int) < _;omega⟩
 have kb:=k51 g1 r1 (awkB c) ⟨by show (0:Int)≤1;omega,by show (1:Int) < _;omega⟩
 have kc:=k51 g1 r1 { awkB c with root:=c.genesis } ⟨by show (0:Int)≤1;omega,by show (1:Int) < _;omega⟩
 rw[awk1 hc] at ka
 rw[awk2 hc] at kb
 rw[awk3 hc] at kc
 have kn:=k53 g1.sd
 have n1:decide (KnB (newW c b) c.genesis)=true:=decide_eq_true (.inr (by rw[(gen_find hc).1];omega))
 have n2:decide (KnB (newW c b) (mkRoot 9))=false:=decide_eq_false (awk_new hc 0)
 have ef:(newS c b).finality.fin=⟨0,c.genesis⟩:=rfl
 have eb:({ zBlock with root:=mkRoot 9,parent:=c.genesis,slot:=1,just:=⟨0,c.genesis⟩,fin:=⟨0,c.genesis⟩,pulled:=⟨⟨0,c.genesis⟩,⟨0,c.genesis⟩⟩}:Block)=awkB c:=rfl
 rw[cL Tryz.func55 rfl ok55 rfl]
 refine ex_eq ?_
 simp only[Z8,seval,k101,k102,extA,ef,k30,eb,ka,kb,kc,kn,n1,n2]
 exact⟨_,xtmp rfl (by simp only[E8,seval]<;>rfl) (by first | exact .v _ | simp only[FLb]),rfl⟩
theorem k55 (st:St) (d:Option Nat):callFn (callL Tryz.prog) 55 [] st d=some { dst:=d,val:=.v (.bool true)}:=call_flat (fun x h=>by cases h) c55 (.v _)
theorem c11 (l:List Int) (k:Int) (hl:(l.length:Int)≤9223372036854775807):callL Tryz.prog 11 [.sl l.length (csInt l),.v (.int .i64 k)]=some (.v (.bool true)):=by
 obtain⟨t,v,Q,R,hy,T⟩:=x24 l hl
 have k24:=kx hy (flat1 (flatSl l)) T.td.flat
 obtain⟨b0,b1⟩:=and_bound k 16777215 (by decide)
 obtain⟨kk,hkk⟩:∃ kk,IntKind.i64.wrap ((BitVec.ofInt IntKind.i64.bits k &&& BitVec.ofInt IntKind.i64.bits 16777215).toNat:Int)=kk:=⟨_,rfl⟩
 rw[hkk] at b0
 obtain⟨y,hy2,b,rfl,rb⟩:=x50 T.gi T.rg 99 kk b0
 have k50:=kx hy2 (flat3 T.gi.sd.flat (.v _) (.v _)) (flatB b)
 have ka:=k51 T.gi T.rg b rb.sl
 have kb:=k52 T.gi.sd T.gi.up T.gi.sp b
 rw[cL Tryz.func11 rfl ok11 rfl]
 refine ex_eq ?_
 simp only[Z8,seval,k24,hkk,k50,ka,kb,k53 T.gi.sd,k54 T.gi.sd,k55,beq_self_eq_true,lapC,lapN]
 exact⟨_,xtmp rfl (by simp only[E8,seval]<;>rfl) (by first | exact .v _ | simp only[FLb]),rfl⟩
theorem cbV_inv {s:Store} {v:SV} {b:Block} (h:cbV s v b=0):¬ b.root=zRoot∧¬ KnB v b.root∧¬ s.now < b.slot∧¬ b.slot≤(stV s s.finality.fin.epoch).1∧¬ findR v.ns b.parent < 0∧¬ b.slot≤(nd v.ns (findR v.ns b.parent)).block.slot ∧
 ¬ (nd v.ns (findR v.ns b.parent)).status=2∧FitB s v b∧MFit s.cFg.ttd (nd v.ns (findR v.ns b.parent)).block b∧¬ s.cFg.lim.nodeL≤(v.ns.length:Int):=by
 unfold cbV at h
 by_cases g1:b.root=zRoot
 ·rw[if_pos g1] at h;omega
 rw[if_neg g1] at h
 by_cases g2:KnB v b.root
 ·rw[if_pos g2] at h;omega
 rw[if_neg g2] at h
 by_cases g3:s.now < b.slot
 ·rw[if_pos g3] at h;omega
 rw[if_neg g3] at h
 by_cases g4:b.slot≤(stV s s.finality.fin.epoch).1
 ·rw[if_pos g4] at h;omega
 rw[if_neg g4] at h
 by_cases g5:findR v.ns b.parent < 0
 ·rw[if_pos g5] at h;omega
 rw[if_neg g5] at h
 by_cases g6:b.slot≤(nd v.ns (findR v.ns b.parent)).block.slot
 ·rw[if_pos g6] at h;omega
 rw[if_neg g6] at h
 by_cases g7:(nd v.ns (findR v.ns b.parent)).status=2
 ·rw[if_pos g7] at h;omega
 rw[if_neg g7] at h
 by_cases g8:¬ FitB s v b
 ·rw[if_pos g8] at h;omega
 rw[if_neg g8] at h
 by_cases g9:¬ MFit s.cFg.ttd (nd v.ns (findR v.ns b.parent)).block b
 ·rw[if_pos g9] at h;omega
 rw[if_neg g9] at h
 by_cases g10:s.cFg.lim.nodeL≤(v.ns.length:Int)
 ·rw[if_pos g10] at h;omega
 exact⟨g1,g2,g3,g4,g5,g6,g7,Classical.not_not.1 g8,Classical.not_not.1 g9,g10⟩
theorem c13 (l:List Int) (k:Int) (hl:(l.length:Int)≤9223372036854775807):callL Tryz.prog 13 [.sl l.length (csInt l),.v (.int .i64 k)]=some (.v (.bool true)):=by
 obtain⟨t,v,Q,R,hy,T⟩:=x24 l hl
 have k24:=kx hy (flat1 (flatSl l)) T.td.flat
 obtain⟨b0,b1⟩:=and_bound k 16777215 (by decide)
 obtain⟨kk,hkk⟩:∃ kk,IntKind.i64.wrap ((BitVec.ofInt IntKind.i64.bits k &&& BitVec.ofInt IntKind.i64.bits 16777215).toNat:Int)=kk:=⟨_,rfl⟩
 rw[hkk] at b0
 obtain⟨y,hy2,b,rfl,rb⟩:=x50 T.gi T.rg 99 kk b0
 have k50:=kx hy2 (flat3 T.gi.sd.flat (.v _) (.v _)) (flatB b)
 have ka:=k51 T.gi T.rg b rb.sl
 rw[cL Tryz.func13 rfl ok13 rfl]
 refine ex_eq ?_
 by_cases g:cbV t.store v b=0
 case neg =>
  simp only[Z8,seval,k24,hkk,k50,ka,bf g,k55]
  exact⟨_,xtmp rfl (by simp only[E8,seval]<;>rfl) (by first | exact .v _ | simp only[FLb]),rfl⟩
 obtain⟨g1,g2,g3,g4,g5,g6,g7,g8,g9,g10⟩:=cbV_inv g
 have hn:=T.gi.sd.nn
 have r1:=findR_range v.ns b.parent
 have q0:0≤findR v.ns b.parent:=by omega
 have hnow:Rg t.store.now:=⟨T.rg.now.1,by have:=T.rg.now.2;omega⟩
 have hst:=sof_ok T.gi.spe T.rg.f.1 (Int.le_trans T.rg.fe.1 T.rg.fe.2) hnow
 have hw:IntKind.u64.wrap (t.store.finality.fin.epoch * t.store.cFg.spe)=(stV t.store t.store.finality.fin.epoch).1:=by
  rw[hst.1]
  exact wu64 _ (Int.mul_nonneg T.rg.f.1 (by have:=T.gi.spe.1;omega)) (by have:=hst.2;have:=hnow.2;omega)
 have hk:decide (KnB v b.root)=false:=decide_eq_false g2
 by_cases p:b.payload=zRoot
 ·have pp:=g9.1 p
  simp only[Z8,seval,k24,hkk,k50,ka,bt g,k46 _ _ hn,T.gi.sd.tree,q0,g5,r1,bf g7,g6,g3,hw,g4,k53 T.gi.sd,hk,g10,p,pp,k55,lapC,lapN]
  exact⟨_,xtmp rfl (by simp only[E8,seval]<;>rfl) (by first | exact .v _ | simp only[FLb]),rfl⟩
 ·simp only[Z8,seval,k24,hkk,k50,ka,bt g,k46 _ _ hn,T.gi.sd.tree,q0,g5,r1,bf g7,g6,g3,hw,g4,k53 T.gi.sd,hk,g10,p,k55,lapC,lapN]
  exact⟨_,xtmp rfl (by simp only[E8,seval]<;>rfl) (by first | exact .v _ | simp only[FLb]),rfl⟩
theorem c14 (l:List Int) (k f:Int) (hl:(l.length:Int)≤9223372036854775807):callL Tryz.prog 14 [.sl l.length (csInt l),.v (.int .i64 k),.v (.int .i64 f)]=some (.v (.bool true)):=by
 obtain⟨t,v,Q,R,hy,T⟩:=x24 l hl
 have k24:=kx hy (flat1 (flatSl l)) T.td.flat
 obtain⟨b0,b1⟩:=and_bound k 16777215 (by decide)
 obtain⟨kk,hkk⟩:∃ kk,IntKind.i64.wrap ((BitVec.ofInt IntKind.i64.bits k &&& BitVec.ofInt IntKind.i64.bits 16777215).toNat:Int)=kk:=⟨_,rfl⟩
 rw[hkk] at b0
 obtain⟨y,hy2,b,rfl,rb⟩:=x50 T.gi T.rg 99 kk b0
 have k50:=kx hy2 (flat3 T.gi.sd.flat (.v _) (.v _)) (flatB b)
 have hnow:Rg t.store.now:=⟨T.rg.now.1,by have:=T.rg.now.2;omega⟩
 have hw:IntKind.u64.wrap (t.store.now+1)=t.store.now+1:=wu64 _ (by have:=T.rg.now.1;omega) (by have:=T.rg.now.2;omega)
 have hpos:(0:Int) < (v.ns.length:Int):=by have:=T.gi.pos;omega
 have hn:=T.gi.sd.nn
 obtain⟨r0,hr0⟩:∃ r0,(nd v.ns 0).block.root=r0:=⟨_,rfl⟩
 have hp0:Pr r0:=by rw[← hr0];exact T.rg.rt _ (nd_mem (by omega) hpos)
 have nk:¬ KnB v (mkRoot 99):=by
  rintro (⟨j,h1,h2⟩ | h1)
  ·exact (T.rg.or _ (gx_mem (z:=zBlock) (i:=(j:Int)) (by omega) (by omega))).2.2 h2
  ·have r1:=findR_range v.ns (mkRoot 99)
   exact (T.rg.rt _ (nd_mem h1 r1.2)).2 (findR_some _ _ h1)
 have n99:mkRoot 99≠zRoot:=fun e=>by
  have e1:IntKind.u8.wrap 99=zRoot[0]:=by rw[← mkRoot_get0,e]
  rw[show zRoot[0]=0 from rfl] at e1
  exact absurd e1 (by decide)
 have ka:∀ b':Block,Rg b'.slot→∀ (st:St) (d:Option Nat),callFn (callL Tryz.prog) 51 [.agg (cStore t.store),.agg (cBlock b')] st d=_:=fun b' hb=>k51 T.gi T.rg b' hb
 have kb:=k52 T.gi.sd T.gi.up T.gi.sp
 have hA:∀ b':Block,b'.root=zRoot→cbV t.store v b'=2:=fun b' h=>if_pos h
 have hB:∀ b':Block,b'.root=r0→cbV t.store v b'=9:=fun b' h=>by
  unfold cbV
  rw[if_neg (by rw[h];exact hp0.1),if_pos (.inr (by rw[h];exact findR_ge (j:=0) (by omega) hpos hr0))]
 have hC:∀ b':Block,b'.root=mkRoot 99→b'.slot=t.store.now+1→cbV t.store v b'=12:=fun b' h h2=>by
  unfold cbV
  rw[if_neg (by rw[h];exact n99),if_neg (by rw[h];exact nk),if_pos (by omega)]
 have hD:∀ b':Block,b'.root=mkRoot 99→b'.slot=0→cbV t.store v b'=13:=fun b' h h2=>by
  have hst:=sof_ok T.gi.spe T.rg.f.1 (Int.le_trans T.rg.fe.1 T.rg.fe.2) hnow
  unfold cbV
  rw[if_neg (by rw[h];exact n99),if_neg (by rw[h];exact nk),if_neg (by have:=T.rg.now.1;omega),if_pos (by rw[h2,hst.1];exact Int.mul_nonneg T.rg.f.1 (by have:=T.gi.spe.1;omega))]
 have s1:Rg (t.store.now+1):=⟨by have:=T.rg.now.1;omega,by have:=T.rg.now.2;omega⟩
 have s2:=rb.sl
 have s3:Rg 0:=Rg0
 clear rb hy2 hy b1 b0 hl nk n99 hp0
 rw[cL Tryz.func14 rfl ok14 rfl]
 refine ex_eq ?_
 cases h1:(IntKind.i64.wrap ((BitVec.ofInt IntKind.i64.bits f &&& BitVec.ofInt IntKind.i64.bits 1).toNat:Int) == 1) <;>
 cases h2:(IntKind.i64.wrap ((BitVec.ofInt IntKind.i64.bits f &&& BitVec.ofInt IntKind.i64.bits 2).toNat:Int) == 2) <;>
 cases h3:(IntKind.i64.wrap ((BitVec.ofInt IntKind.i64.bits f &&& BitVec.ofInt IntKind.i64.bits 4).toNat:Int) == 4) <;>
 cases h4:(IntKind.i64.wrap ((BitVec.ofInt IntKind.i64.bits f &&& BitVec.ofInt IntKind.i64.bits 8).toNat:Int) == 8) <;>
 cases h5:(IntKind.i64.wrap ((BitVec.ofInt IntKind.i64.bits f &&& BitVec.ofInt IntKind.i64.bits 16).toNat:Int) == 16)
 all_goals
  simp only[Z8,seval,k24,hkk,k50,k30,h1,h2,h3,h4,h5,hw,T.gi.sd.tree,hpos,Int.le_refl,hr0,ka,kb,s1,s2,s3,hA,hB,hC,hD,k55,beq_self_eq_true]
  exact⟨_,xtmp rfl (by simp only[E8,seval]<;>rfl) (.v _),rfl⟩
theorem c12 (l:List Int) (b:Block) (k:Int) (hl:(l.length:Int)≤9223372036854775807) (rb:RB b):callL Tryz.prog 12 [.sl l.length (csInt l),.agg (cBlock b),.v (.int .i64 k)]=some (.v (.bool true)):=by
 obtain⟨t,v,Q,R,hy,T⟩:=x24 l hl
 have k24:=kx hy (flat1 (flatSl l)) T.td.flat
 have hpos:(0:Int) < (v.ns.length:Int):=by have:=T.gi.pos;omega
 have hb:=rb.sl
 have hne:¬ ((v.ns.length:Int)=0):=by omega
 obtain⟨b0,b1⟩:=and_bound (k.fdiv (2 ^ min 8 IntKind.i64.bits)) 255 (by decide)
 obtain⟨kk,hkk⟩:∃ kk,IntKind.i64.wrap ((BitVec.ofInt IntKind.i64.bits (k.fdiv (2 ^ min 8 IntKind.i64.bits)) &&& BitVec.ofInt IntKind.i64.bits 255).toNat:Int)=kk:=⟨_,rfl⟩
 rw[hkk] at b0
 obtain⟨m1,m2⟩:=tmod_bound (n:=(v.ns.length:Int)) b0 hpos
 obtain⟨p,hp⟩:∃ p,kk.tmod (v.ns.length:Int)=p:=⟨_,rfl⟩
 rw[hp] at m1 m2
 have ka:∀ b':Block,Rg b'.slot→∀ (st:St) (d:Option Nat),callFn (callL Tryz.prog) 51 [.agg (cStore t.store),.agg (cBlock b')] st d=_:=fun b' hb=>k51 T.gi T.rg b' hb
 have kb:=k52 T.gi.sd T.gi.up T.gi.sp
 rw[cG Tryz.func12 rfl ok12 (by kernel_rfl) rfl]
 refine ex_eq ?_
 cases h1:(IntKind.i64.wrap ((BitVec.ofInt IntKind.i64.bits k &&& BitVec.ofInt IntKind.i64.bits 1).toNat:Int) == 1) <;>
 cases h2:(IntKind.i64.wrap ((BitVec.ofInt IntKind.i64.bits k &&& BitVec.ofInt IntKind.i64.bits 2).toNat:Int) == 2) <;>
 cases h3:(IntKind.i64.wrap ((BitVec.ofInt IntKind.i64.bits k &&& BitVec.ofInt IntKind.i64.bits 4).toNat:Int) == 4) <;>
 cases h4:(IntKind.i64.wrap ((BitVec.ofInt IntKind.i64.bits k &&& BitVec.ofInt IntKind.i64.bits 8).toNat:Int) == 8) <;>
 cases h5:(IntKind.i64.wrap ((BitVec.ofInt IntKind.i64.bits k &&& BitVec.ofInt IntKind.i64.bits 16).toNat:Int) == 16)
 all_goals
  simp only[ZG,seval,Bool.false_and,Prod.mk.injEq,DY12,k24,hkk,hp,hne,m1,m2,k30,h1,h2,h3,h4,h5,T.gi.sd.tree,ka,kb,hb,u64_Rg,k55,beq_self_eq_true]
  exact⟨_,xtmp rfl (by simp only[E8,seval]<;>rfl) (.v _),rfl⟩
theorem RB_of {x:Block} (h:∀ k n,AV.v (.int k n)∈cBlock x→k.has n):RB x:=by
 have u:∀ n:Int,IntKind.u64.has n→Rg n:=fun n hn=>by
  simp only[IntKind.has,IntKind.min,IntKind.max,IntKind.signed,IntKind.bits] at hn
  simp at hn
  exact⟨by omega,by omega⟩
 have m:∀ n:Int,AV.v (.int .u64 n)∈cBlock x→Rg n:=fun n hn=>u n (h _ _ hn)
 refine⟨m _ ?_,m _ ?_,m _ ?_,m _ ?_,m _ ?_⟩<;>simp[cBlock,cPulled,cCkpt,cU64]
end Go.Ab.Tryz
