/-
  Part 2 of the proof: an evaluator of programs, its soundness, and what functions of this program compute.
-/
import Derived.Test.YtmcjkemalibacaaGreatK1
import Derived.MapKept
set_option linter.all false
set_option maxRecDepth 20000
set_option maxHeartbeats 40000000
section
namespace Go.Ab
open Classical
section
variable {P:Program}
noncomputable def xU (x:Value):List MapEntry→Nat→Option (Nat × Value)
 | [],_=>none
 | e :: r,i=>if x=e.key then some (i,e.val) else xU x r (i+1)
theorem mk_inj {agg:Bool} {l:List Bool} {us vs:List Value} (h:gC l us vs) (ha:agg=false→l.length=1):mk agg us=mk agg vs↔us=vs:=by
 cases agg with
 | true=>simp[mk]
 | false =>
   have h1:=ha rfl
   obtain⟨e1,e2⟩:=lS _ _ _ h
   obtain⟨a,rfl⟩:=List.length_eq_one_iff.1 (e1.trans h1)
   obtain⟨b,rfl⟩:=List.length_eq_one_iff.1 (e2.trans h1)
   simp[mk]
theorem Ue (w:World) {k:Nat} {l:List Bool} {us vs:List Value} (hl:eI P 20 k=some l) (h:gC l us vs) :
 (Op.equal k (mk (cY P k) us) (mk (cY P k) vs)).run P w=.ok (decide (mk (cY P k) us=mk (cY P k) vs)) w:=by
 have:=Bt (P:=P) 20 10000 (by omega) w k l hl us vs h
 unfold Op.equal Op.maxDepth;rw[this];congr 1
 rw[Bool.eq_iff_iff];simp[mk_inj h (oD 20 k l hl)]
def aAs (P:Program) (k:Nat) (l:List Bool) (us:List Value) (es:List MapEntry):Prop:=∀e∈es,∃vs,e.key=mk (cY P k) vs∧gC l us vs
theorem Hp (w:World) {k:Nat} {l:List Bool} {us:List Value} (hl:eI P 20 k=some l):∀(es:List MapEntry) (i:Nat),aAs P k l us es →
 (Instr.findAsking k (mk (cY P k) us) es i).run P w=.ok (xU (mk (cY P k) us) es i) w
 | [],i,_=>by simp[Instr.findAsking,xU]
 | e :: es,i,h=>by
   obtain⟨vs,hk,hv⟩:=h e (by simp)
   have ih:=Hp w hl es (i+1) (fun x hx=>h x (by simp[hx]))
   have he:=Ue w hl hv
   simp only[Instr.findAsking,hk,Sem.run_bind,he,Result.andThen_ok,xU];by_cases hq:mk (cY P k) us=mk (cY P k) vs
   ·simp[hq]
   ·simp[hq,ih]
theorem Tf {q k0:IntKind} {a:Int}:∀(es:List MapEntry) (i:Nat),(∀e∈es,∃b,e.key=.int k0 b)→Instr.findNow (.int q) (.int k0 a) es i=some (xU (.int k0 a) es i)
 | [],i,_=>rfl
 | e :: es,i,h=>by
   obtain⟨b,hk⟩:=h e (by simp)
   have ih:=Tf (q:=q) (a:=a) es (i+1) (fun x hx=>h x (by simp[hx]))
   simp only[Instr.findNow,Instr.sameNow,hk,if_true,xU];by_cases hq:a=b
   ·subst hq;simp
   ·have:(a == b)=false:=by simp[hq]
    simp[this,ih,hq]
theorem Ob {a:Bool}:∀(es:List MapEntry) (i:Nat),(∀e∈es,∃b,e.key=.bool b)→Instr.findNow .bool (.bool a) es i=some (xU (.bool a) es i)
 | [],i,_=>rfl
 | e :: es,i,h=>by
   obtain⟨b,hk⟩:=h e (by simp)
   have ih:=Ob (a:=a) es (i+1) (fun x hx=>h x (by simp[hx]))
   simp only[Instr.findNow,Instr.sameNow,hk,xU];by_cases hq:a=b
   ·subst hq;simp
   ·have:(a == b)=false:=by simp[hq]
    simp[this,ih,hq]
theorem Ke {l:List Bool} {k:Nat} (h:Ci P l k=true):(∃q,P.underlying k=some (.int q))∨P.underlying k=some .bool ∨
 ∃n e q i,P.underlying k=some (.array n e)∧P.underlying e=some (.int q)∧P.info? e=some i∧i.size=1∧l.length=n:=by
 unfold Ci at h;split at h
 ·rename_i q hq;exact .inl ⟨q,hq⟩
 ·rename_i hq;exact .inr (.inl hq)
 ·rename_i n e hu;split at h
  ·rename_i q hq;simp only[Bool.and_eq_true,decide_eq_true_eq] at h;obtain⟨⟨⟨h1,h2⟩,h3⟩,_⟩:=h
   obtain⟨i,hi⟩:=Option.isSome_iff_exists.1 h3
   exact .inr (.inr ⟨n,e,q,i,hu,hq,hi,by rw[← rQ hi];exact h1,h2⟩)
  ·cases h
 ·cases h
theorem Oc (w:World) {k:Nat} {l:List Bool} {us:List Value} (hl:eI P 20 k=some l) (hm:Ci P l k=true) (hu:gC l us us) {es:List MapEntry} (h:aAs P k l us es) :
 (Instr.findKey k (mk (cY P k) us) es).run P w=.ok (xU (mk (cY P k) us) es 0) w:=by
 rcases Ke hm with ⟨q,hk⟩|hk|⟨n,e,q,i,hk,_⟩
 ·have lA:cY P k=false:=by simp[cY,hk]
  have Gj:l=[true]:=by simpa [eI,hk] using hl.symm
  subst Gj
  have hus:∀vs,gC [true] us vs→∃k0 a b,us=[.int k0 a]∧vs=[.int k0 b]:=fun vs h=>by
   cases us with
   | nil=>simp[gC] at h
   | cons u us=>cases vs with
     | nil=>cases u<;>simp[gC] at h
     | cons v vs =>
       cases u<;>cases v<;>simp[gC] at h
       cases us<;>cases vs<;>simp[gC] at h
       subst h;exact⟨_,_,_,rfl,rfl⟩
  obtain⟨k0,a,_,e1,_⟩:=hus us hu
  have Od:∀e∈es,∃b,e.key=.int k0 b:=fun e he=>by
   obtain⟨vs,h1,h2⟩:=h e he
   obtain⟨k1,a1,b1,e2,e3⟩:=hus vs h2
   rw[e1] at e2;simp at e2
   exact⟨b1,by rw[h1,lA,e3];simp[mk,e2.1]⟩
  have hx:mk (cY P k) us=.int k0 a:=by rw[lA,e1];rfl
  rw[hx];simp only[Instr.findKey,Sem.run_bind,aW hk,Result.andThen_ok,Tf es 0 Od];rfl
 ·have lA:cY P k=false:=by simp[cY,hk]
  have Gj:l=[false]:=by simpa [eI,hk] using hl.symm
  subst Gj
  have hus:∀vs,gC [false] us vs→∃a b,us=[.bool a]∧vs=[.bool b]:=fun vs h=>by
   cases us with
   | nil=>simp[gC] at h
   | cons u us=>cases vs with
     | nil=>cases u<;>simp[gC] at h
     | cons v vs =>
       cases u<;>cases v<;>simp[gC] at h
       cases us<;>cases vs<;>simp[gC] at h
       exact⟨_,_,rfl,rfl⟩
  obtain⟨a,_,e1,_⟩:=hus us hu
  have Od:∀e∈es,∃b,e.key=.bool b:=fun e he=>by
   obtain⟨vs,h1,h2⟩:=h e he
   obtain⟨a1,b1,e2,e3⟩:=hus vs h2
   exact⟨b1,by rw[h1,lA,e3];rfl⟩
  have hx:mk (cY P k) us=.bool a:=by rw[lA,e1];rfl
  rw[hx];simp only[Instr.findKey,Sem.run_bind,aW hk,Result.andThen_ok,Ob es 0 Od];rfl
 ·have lA:cY P k=true:=by simp[cY,hk]
  cases es with
  | nil =>
    simp[Instr.findKey,aW hk,Instr.findNow,xU]
  | cons m es =>
    have hn:Instr.findNow (.array n e) (mk (cY P k) us) (m :: es) 0=none:=by
     simp[Instr.findNow,Instr.sameNow]
    simp only[Instr.findKey,Sem.run_bind,aW hk,Result.andThen_ok,hn];exact Hp w hl (m :: es) 0 h
theorem Kf (w:World) {k:Nat} {l:List Bool} {us:List Value} (hl:eI P 20 k=some l) (hm:Ci P l k=true) (hu:gC l us us) (em:Bool) :
 (Instr.checkKey em 10000 k (mk (cY P k) us)).run P w=.ok () w:=by
 have plain:∀(n t:Nat) (q:IntKind) (x:Value),P.underlying t=some (.int q)→(Instr.checkKey em (n+1) t x).run P w=.ok () w:=fun n t q x ht=>by
  simp[Instr.checkKey,aW ht]
 rcases Ke hm with ⟨q,hk⟩|hk|⟨n,e,q,i,hk,he,hi,hs,hn⟩
 ·exact plain 9999 k q _ hk
 ·have plainB:∀(n t:Nat) (x:Value),P.underlying t=some .bool→(Instr.checkKey em (n+1) t x).run P w=.ok () w:=fun n t x ht=>by
   simp[Instr.checkKey,aW ht]
  exact plainB 9999 k _ hk
 ·have lA:cY P k=true:=by simp[cY,hk]
  have hea:cY P e=false:=by simp[cY,he]
  have hlen:=(lS _ _ _ hu).1
  rw[lA];simp only[mk,if_true];rw[show (10000:Nat)=9999+1 from rfl,Instr.checkKey];simp only[Sem.run_bind,aW hk,Result.andThen_ok];simp only[Std.Legacy.Range.forIn_eq_forIn_range',Std.Legacy.Range.size,Nat.sub_zero,Nat.add_one_sub_one,Nat.div_one];have each:∀j∈List.range' 0 n,j<us.length:=fun j hj=>by
   have:=List.mem_range'_1.1 hj
   omega
  generalize List.range' 0 n=is at each
  induction is with
  | nil=>simp
  | cons j is ih =>
    have hj:=each j (by simp)
    have p1:=Gq w he hi us j (fun _=>hs) (by omega)
    simp only[List.forIn_cons,Sem.run_bind,run_sizeOf w hi,hs,Nat.mul_one,Result.andThen_ok,p1,plain 9998 e q _ he,Sem.run_pure];exact ih fun y hy=>each y (by simp[hy])
theorem wN:∀(l:List Bool) (us:List Value),gC l us us→∀x∈us,∀n,Instr.sameBits n x x=true
 | [],[],_,x,hx,n=>by simp at hx
 | true :: l,.int k a :: us,h,x,hx,n=>by
   rcases List.mem_cons.1 hx with rfl|hx
   ·cases n<;>simp[Instr.sameBits]
   ·exact wN l us h.2 x hx n
 | false :: l,.bool a :: us,h,x,hx,n=>by
   rcases List.mem_cons.1 hx with rfl|hx
   ·cases n<;>simp[Instr.sameBits]
   ·exact wN l us h x hx n
theorem G1 (w:World) {agg:Bool} {l:List Bool} {us:List Value} (hu:gC l us us) (ha:agg=false→l.length=1):(Instr.keyThatStays (mk agg us) (mk agg us)).run P w=.ok (mk agg us) w:=by
 have hs:Instr.sameBits 10000 (mk agg us) (mk agg us)=true:=by
  cases agg with
  | true =>
    simp only[mk,if_true];show Instr.sameBits (9999+1) _ _=true
    simp only[Instr.sameBits,beq_self_eq_true,Bool.true_and];have Kx:∀x∈us,Instr.sameBits 9999 x x=true:=fun x hx=>wN l us hu x hx 9999
    clear hu
    induction us with
    | nil=>rfl
    | cons x us ih =>
      simp only[List.zip_cons_cons,List.all_cons,Bool.and_eq_true];exact⟨Kx x (by simp),ih fun y hy=>Kx y (by simp[hy])⟩
  | false =>
    obtain⟨a,rfl⟩:=List.length_eq_one_iff.1 ((lS _ _ _ hu).1.trans (ha rfl))
    exact wN l [a] hu a (by simp) 10000
 simp[Instr.keyThatStays,hs]
theorem Oe {k:Nat} {x y:AV} {C:Ctx} {u v:Value} (h:Dz P k x y) (hu:cV C x u) (hv:cV C y v) :
 ∃l us vs,eI P 20 k=some l∧gC l us vs∧u=mk (cY P k) us∧v=mk (cY P k) vs∧(x=y↔u=v):=by
 unfold Dz at h;cases hl:eI P 20 k with
 | none=>simp[hl] at h
 | some l =>
   simp only[hl] at h;obtain⟨h1,h2,h3⟩:=h
   cases lA:cY P k with
   | true =>
     obtain⟨⟨cs,rfl⟩,ds,rfl⟩:=h2 lA
     obtain⟨us,vs,e1,e2,e3⟩:=Cm _ _ _ h1
     simp only[AV.cells] at e1 e2;subst e1;subst e2;have eu:=As hu
     have ev:=As hv
     refine⟨l,us,vs,rfl,e3,by rw[eu];rfl,by rw[ev];rfl, ?_⟩
     rw[eu,ev];simp[DU]
   | false =>
     obtain⟨⟨a,rfl⟩,b,rfl⟩:=h3 lA
     obtain⟨us,vs,e1,e2,e3⟩:=Cm _ _ _ h1
     have eu:=iN hu
     have ev:=iN hv
     subst eu;subst ev;have f1:us=[u]:=by
      cases us with
      | nil=>simp[AV.cells] at e1
      | cons c us=>simp[AV.cells] at e1;simp[e1.1,← e1.2]
     have f2:vs=[v]:=by
      cases vs with
      | nil=>simp[AV.cells] at e2
      | cons c vs=>simp[AV.cells] at e2;simp[e2.1,← e2.2]
     subst f1;subst f2;exact⟨l,_,_,rfl,e3,rfl,rfl,by simp⟩
theorem Yn {k:Nat} {x:AV} {C:Ctx} {u:Value} {l:List Bool} {us:List Value} (hl:eI P 20 k=some l) (hu:cV C x u) (he:u=mk (cY P k) us) (hx:gC l us us):∀ {es:List (AV × AV)} {ms:List MapEntry},
 (∀p∈es,Dz P k x p.1)→Wa C es ms→aAs P k l us ms
 | [],[],_,_=>fun e h=>by simp at h
 | p :: es,m :: ms,hk,h=>by
   have ih:=Yn hl hu he hx (es:=es) (ms:=ms) (fun q hq=>hk q (by simp[hq])) h.2.2
   intro e hem;rcases List.mem_cons.1 hem with rfl|hem
   ·obtain⟨l',us',vs,e1,e2,e3,e4,_⟩:=Oe (hk p (by simp)) hu h.1
    rw[hl] at e1;cases e1
    refine⟨vs,e4, ?_⟩
    have:us'=us:=by
     rw[he] at e3;have hlen1:=(lS _ _ _ hx).1
     have hlen2:=(lS _ _ _ e2).1
     cases lA:cY P k with
     | true=>rw[lA] at e3;simpa [mk] using e3.symm
     | false =>
       have h1:=oD 20 k l hl lA
       obtain⟨a,rfl⟩:=List.length_eq_one_iff.1 (hlen1.trans h1)
       obtain⟨b,rfl⟩:=List.length_eq_one_iff.1 (hlen2.trans h1)
       rw[lA] at e3;simpa [mk] using e3.symm
    rw[← this];exact e2
   ·exact ih e hem
 | [],_ :: _,_,h=>h.elim
 | _ :: _,[],_,h=>h.elim
theorem FK {k:Nat} {x:AV} {C:Ctx} {u:Value} (hu:cV C x u):∀ {es:List (AV × AV)} {ms:List MapEntry} (i:Nat),(∀p∈es,Dz P k x p.1)→Wa C es ms →
 (O2 es x=none∧xU u ms i=none)∨∃v y j,O2 es x=some v∧xU u ms i=some (i+j,y)∧cV C v y∧j<ms.length
 | [],[],i,_,_=>.inl ⟨rfl,rfl⟩
 | p :: es,m :: ms,i,hk,h=>by
   obtain⟨l',us',vs,e1,e2,e3,e4,e5⟩:=Oe (hk p (by simp)) hu h.1
   simp only[O2,xU];by_cases hq:x=p.1
   ·rw[if_pos hq.symm,if_pos (e5.1 hq)];exact .inr ⟨_,_,0,rfl,rfl,h.2.1,by simp⟩
   ·rw[if_neg (Ne.symm hq),if_neg (fun h'=>hq (e5.2 h'))]
    rcases FK hu (es:=es) (ms:=ms) (i+1) (fun q hq=>hk q (by simp[hq])) h.2.2 with ⟨h1,h2⟩|⟨v,y,j,h1,h2,h3,h4⟩
    ·exact .inl ⟨h1,h2⟩
    ·exact .inr ⟨v,y,j+1,h1,by rw[h2];congr 2;omega,h3,by simp;omega⟩
 | [],_ :: _,_,_,h=>h.elim
 | _ :: _,[],_,_,h=>h.elim
theorem FL {k:Nat} {x z:AV} {C:Ctx} {u y:Value} (hu:cV C x u) (hz:cV C z y):∀ {es:List (AV × AV)} {ms:List MapEntry} (i:Nat),(∀p∈es,Dz P k x p.1)→Wa C es ms →
 (xU u ms i=none∧∀c,Wa C (O3 es x z) (ms++[{ key:=u,val:=y,born:=c }])) ∨
 ∃v j,xU u ms i=some (i+j,v)∧(∃m,ms[j]? = some m∧m.key=u)∧Wa C (O3 es x z) (ms.modify j fun e=>{ e with key:=u,val:=y })
 | [],[],i,_,_=>.inl ⟨rfl,fun c=>⟨hu,hz,trivial⟩⟩
 | p :: es,m :: ms,i,hk,h=>by
   obtain⟨l',us',vs,e1,e2,e3,e4,e5⟩:=Oe (hk p (by simp)) hu h.1
   simp only[O3,xU];by_cases hq:x=p.1
   ·rw[if_pos hq.symm,if_pos (e5.1 hq)];exact .inr ⟨_,0,rfl,⟨m,rfl,(e5.1 hq).symm⟩,by simp[List.modify];exact⟨hu,hz,h.2.2⟩⟩
   ·rw[if_neg (Ne.symm hq),if_neg (fun h'=>hq (e5.2 h'))]
    rcases FL hu hz (es:=es) (ms:=ms) (i+1) (fun q hq=>hk q (by simp[hq])) h.2.2 with ⟨h1,h2⟩|⟨v,j,h1,h2,h3⟩
    ·exact .inl ⟨h1,fun c=>⟨h.1,h.2.1,h2 c⟩⟩
    ·exact .inr ⟨v,j+1,by rw[h1];congr 2;omega,by simpa using h2,by simp[List.modify_succ_cons];exact⟨h.1,h.2.1,h3⟩⟩
 | [],_ :: _,_,_,h=>h.elim
 | _ :: _,[],_,_,h=>h.elim
theorem Of {T k:Nat} {z:AV} (h:Uz P T=some (k,z)):∃e l zv,P.underlying T=some (.map k e)∧eI P 20 k=some l∧Ci P l k=true ∧
 (∀w,(zeroValue e).run P w=.ok zv w)∧∀C:Ctx,cV C z zv:=by
 unfold Uz at h;split at h
 ·rename_i k' e hT
  split at h
  ·rename_i l z' hl hz
   split at h
   ·rename_i hm;simp only[Option.some.injEq,Prod.mk.injEq] at h;obtain⟨rfl,rfl⟩:=h
    unfold aFw at hz;split at hz
    ·rename_i i hi;split at hz
     ·rename_i cs LM;split at hz
      ·rename_i Kx;simp only[Option.some.injEq] at hz;subst hz;refine⟨e,l,_,hT,hl,hm,fun w=>Bs w hi LM,fun C=>?_⟩
       have hc:=gB.vs C cs.toList (List.all_eq_true.1 Kx)
       exact .agg _ _ (by simp) (fun j x y hx hy=>hc.rel j x y hx (by simpa using hy)) (fun j y hy=>hc.one j y (by simpa using hy))
      ·cases hz
     ·rename_i y hy LM;split at hz
      ·simp only[Option.some.injEq] at hz;subst hz;exact⟨e,l,_,hT,hl,hm,fun w=>Bs w hi LM,fun C=>.v _⟩
      ·cases hz
     ·cases hz
    ·cases hz
   ·cases h
  ·cases h
 ·cases h
end
section
variable {P:Program} {h0:Nat→Obj→Prop} {w0:World} {F:Gp} {nt:Nat} {ρ:Nat→Nat→Value} {st:St} {a:Act} {w:World}
theorem VP (S:kZ F h0 w0 nt ρ st a w) {T:Nat} {m x z:AV} {ok:Bool} {mv xv:Value} (h:Sp P st T m x ok=some z) (hm:cV (ctx h0 w0 ρ st w) m mv) (hx:cV (ctx h0 w0 ρ st w) x xv) :
 ∃r,(Instr.lookup T mv xv ok).run P w=.ok r w∧cV (ctx h0 w0 ρ st w) z r:=by
 unfold Sp at h;split at h
 ·rename_i s g;split at h
  ·rename_i es k zd he hi;split at h
   ·rename_i hk;obtain⟨e,l,zv,hT,hl,hmk,hz,hzr⟩:=Of hi
    obtain⟨_,_,b,arr,clock,lE,_,hh,hml⟩:=S.sX s g _ he
    obtain⟨l',us,vs,e1,e2,e3,e4,_⟩:=Oe hk.1 hx hx
    rw[hl] at e1;cases e1
    have hvs:vs=us:=by
     rw[e3] at e4;have hlen:=lS _ _ _ e2
     cases lA:cY P k with
     | true=>rw[lA] at e4;simpa [mk] using e4.symm
     | false =>
       have h1:=oD 20 k l hl lA
       obtain⟨p,rfl⟩:=List.length_eq_one_iff.1 (hlen.1.trans h1)
       obtain⟨q,rfl⟩:=List.length_eq_one_iff.1 (hlen.2.trans h1)
       rw[lA] at e4;simpa [mk] using e4.symm
    subst hvs;have Od:=Yn hl hx e3 e2 hk.2 hml
    cases hm with
    | mp _ _ hg ho =>
      show ∃r,(Instr.lookup T (ρ s g) xv ok).run P w=.ok r w∧_
      rw[lE,e3];have hck:=Kf w hl hmk e2 arr.isEmpty
      have hfk:=Oc w hl hmk e2 Od
      rcases FK hx 0 hk.2 hml with ⟨h1,h2⟩|⟨v,y,j,h1,h2,h3,_⟩
      ·rw[h1] at h;simp only[Option.some.injEq] at h;subst h;rw[e3] at h2;rw[h2] at hfk;refine⟨if ok=true then .tuple #[zv,.bool false] else zv,by
        simp[Instr.lookup,aW hT,MapKept.run_getObj_map hh,hck,hfk,hz w], ?_⟩
       cases ok
       ·exact hzr _
       ·exact .dZ _ _ rfl fun i x y hx hy=>by
         match i with
         | 0=>simp at hx hy;subst hx;subst hy;exact hzr _
         | 1=>simp at hx hy;subst hx;subst hy;exact .v _
         | i+2=>simp at hx
      ·rw[h1] at h;simp only[Option.some.injEq] at h;subst h;rw[e3] at h2;rw[h2] at hfk;refine⟨if ok=true then .tuple #[y,.bool true] else y,by
        simp[Instr.lookup,aW hT,MapKept.run_getObj_map hh,hck,hfk], ?_⟩
       cases ok
       ·exact h3
       ·exact .dZ _ _ rfl fun i x y hx hy=>by
         match i with
         | 0=>simp at hx hy;subst hx;subst hy;exact h3
         | 1=>simp at hx hy;subst hx;subst hy;exact .v _
         | i+2=>simp at hx
   ·cases h
  ·cases h
 ·cases h
theorem HU (S:kZ F h0 w0 nt ρ st a w) {T s g:Nat} {m x y:AV} {e:jI} {mv xv yv:Value} (h:uA P st T m x y=some (s,g,e))
 (hm:cV (ctx h0 w0 ρ st w) m mv) (hx:cV (ctx h0 w0 ρ st w) x xv) (hy:cV (ctx h0 w0 ρ st w) y yv) :
 ∃w',(Instr.mapUpdate T mv xv yv).run P w=.ok () w'∧kZ F h0 w0 nt ρ (st.iH s g (some e)) a w':=by
 unfold uA at h;split at h
 ·rename_i s' g'
  split at h
  ·rename_i es k zd he hi;split at h
   ·rename_i hk;obtain⟨hk,uW⟩:=hk
    simp only[Option.some.injEq,Prod.mk.injEq] at h;obtain⟨rfl,rfl,rfl⟩:=h
    obtain⟨e,l,zv,hT,hl,hmk,hz,hzr⟩:=Of hi
    obtain⟨_,_,b,arr,clock,lE,xA,hh,hml⟩:=S.sX s' g' _ he
    obtain⟨l',us,vs,e1,e2,e3,e4,_⟩:=Oe hk.1 hx hx
    rw[hl] at e1;cases e1
    have hvs:vs=us:=by
     rw[e3] at e4;have hlen:=lS _ _ _ e2
     cases lA:cY P k with
     | true=>rw[lA] at e4;simpa [mk] using e4.symm
     | false =>
       have h1:=oD 20 k l hl lA
       obtain⟨p,rfl⟩:=List.length_eq_one_iff.1 (hlen.1.trans h1)
       obtain⟨q,rfl⟩:=List.length_eq_one_iff.1 (hlen.2.trans h1)
       rw[lA] at e4;simpa [mk] using e4.symm
    subst hvs;have Od:=Yn hl hx e3 e2 hk.2 hml
    clear e4
    subst e3;have nX:dF (ρ s' g')=some b:=by rw[lE];rfl
    have grown:∀o,w.grownBy { w with heap:=w.heap.setIfInBounds b o } (some b):=fun o=>⟨rfl,rfl,rfl,by simp,fun k _ hk=>by
     have gT:b≠k:=fun e=>hk (by rw[e])
     simp[gT]⟩
    cases hm with
    | mp _ _ hg ho =>
      show ∃w',(Instr.mapUpdate T (ρ s' g') _ yv).run P w=.ok () w'∧_
      have hck:=Kf w hl hmk e2 false
      have hfk:=Oc w hl hmk e2 Od
      have aZ:b<w.heap.size:=(Array.getElem?_eq_some_iff.1 hh).1
      rcases FL (z:=y) hx hy 0 hk.2 hml with ⟨h1,h2⟩|⟨v,j,h1,⟨m0,hm0,hmk0⟩,h3⟩
      ·rw[h1] at hfk;refine⟨_,by
        rw[lE];simp only[Instr.mapUpdate,Sem.run_bind,aW hT,MapKept.run_getObj_map hh,Result.andThen_ok,hck,hfk,MapKept.run_setObj_map _ hh];rfl,S.store he nX (grown _) fun C kk=>?_⟩
       refine⟨b,arr.push { key:=mk (cY P k) vs,val:=yv,born:=clock },clock+1,lE,xA,by simp[aZ], ?_⟩
       have:=(h2 clock).le kk
       simpa using this
      ·rw[h1] at hfk;have uW:=G1 (P:=P) w (agg:=cY P k) e2 (oD 20 k l hl)
       have hm0':arr[j]? = some m0:=by simpa using hm0
       have hkey:((arr[0+j]?).map (·.key)).getD (mk (cY P k) vs)=mk (cY P k) vs:=by
        rw[Nat.zero_add,hm0'];simp[hmk0]
       refine⟨_,by
        rw[lE];simp only[Instr.mapUpdate,Sem.run_bind,aW hT,MapKept.run_getObj_map hh,Result.andThen_ok,hck,hfk,hkey,uW,MapKept.run_setObj_map _ hh];rfl,S.store he nX (grown _) fun C kk=>?_⟩
       refine⟨b,arr.modify (0+j) fun e=>{ e with key:=mk (cY P k) vs,val:=yv },clock,lE,xA,by simp[aZ], ?_⟩
       have:=h3.le kk
       simpa [Array.toList_modify] using this
   ·cases h
  ·cases h
 ·cases h
end
end Go.Ab
end
section
namespace Go.Ab
open Classical
section
variable {P:Program} {h0:Nat→Obj→Prop} {w0:World} {F:Gp} {nt:Nat} {ρ:Nat→Nat→Value} {st:St} {a:Act} {w:World}
theorem OQ (S:kZ F h0 w0 nt ρ st a w) {T:Nat} {x z:AV} {lo hi:Option Operand} {u:Value} (h:cS P st T x lo hi=some z) (hu:cV (ctx h0 w0 ρ st w) x u) :
 ∃r,(Instr.sliceAt T u (lo.map a.eval) (hi.map a.eval) none).run P w=.ok r w∧cV (ctx h0 w0 ρ st w) z r:=by
 unfold cS at h;cases hs:dN P T with
 | none =>
   simp only[hs] at h;split at h
   ·rename_i n sz s g o ha;obtain⟨e,ei,hT,hi,rfl,gT⟩:=Mx ha
    cases he:st.heap s g with
    | none=>simp[he] at h
    | some en =>
      cases en with
      | cells es =>
        simp only[he,Option.some.injEq] at h;subst h;obtain⟨_,_,b1,arr,T1,lE,_⟩:=S.sX s g _ he
        cases hu with
        | ptr _ _ _ b hg hb =>
          refine⟨.slice (some ⟨b,o,none⟩) n n, ?_,.vw s g o n b n hg hb (Nat.le_refl _) (fun ho p n0 c0 hc=>by
           have h2:ρ s g=.slice p n0 c0:=hc
           rw[lE] at h2;cases h2)⟩
          simp[Instr.sliceAt,aW hT,Instr.sureAddr,Instr.sliceBounds,run_sizeOf w hi,lU]
      | _=>simp[he] at h
   ·cases h
 | some t =>
   obtain⟨e,sz,by_⟩:=t
   simp only[hs] at h;obtain⟨ei,ez,hT,Bu,BL,rfl,BE,rfl,Ec⟩:=kF hs
   have hiv:∀(o:Option Operand) (n:Int) (k:IntKind) (i:Int),(match o with|some h=>st.ev h|none=>AV.v (.int .i64 n))=.v (.int k i) →
    (match o with|some h=>a.eval h|none=>Value.int .i64 n)=.int k i:=fun o n k i ho=>by
    cases o with
    | none=>simp only at ho ⊢;cases ho;rfl
    | some p =>
      simp only at ho ⊢
      have:=S.ev p
      rw[ho] at this;exact iN this
   have qJ:∀(p:Option Addr) (n cap:Nat) (kh kl:IntKind) (H L:Int),n≤cap→(match hi with|some h=>a.eval h|none=>Value.int .i64 n)=.int kh H→(match lo with|some l=>a.eval l|none=>Value.int .i64 0)=.int kl L →
    0≤L→L≤H→H≤n →
    (Instr.sliceAt T (.slice p n cap) (lo.map a.eval) (hi.map a.eval) none).run P w=.ok (.slice (if cap=L.toNat then p else p.map (·.add (L.toNat * ei.size))) (H.toNat-L.toNat) (cap-L.toNat)) w:=by
    intro p n cap kh kl H L nA hh hl l0 l1 l2;have b1:H≤(cap:Int):=by omega
    have b2:L≤((H.toNat:Nat):Int):=by omega
    have b3:0≤H:=by omega
    have b6:max H 0=H:=by omega
    cases hi with
    | none =>
      simp only[Value.int.injEq] at hh;obtain⟨rfl,rfl⟩:=hh
      cases lo with
      | none =>
        simp only[Value.int.injEq] at hl;obtain⟨rfl,rfl⟩:=hl
        simp[Instr.sliceAt,Instr.slice,Instr.sliceBounds,aW hT,run_sizeOf w Bu]
      | some l =>
        simp only at hl
        simp[Instr.sliceAt,Instr.slice,Instr.sliceBounds,Instr.sliceBound,asIntOf,aW hT,run_sizeOf w Bu,hl,l0,l1]
    | some h =>
      simp only at hh
      cases lo with
      | none =>
        simp only[Value.int.injEq] at hl;obtain⟨rfl,rfl⟩:=hl
        simp[Instr.sliceAt,Instr.slice,Instr.sliceBounds,Instr.sliceBound,asIntOf,aW hT,run_sizeOf w Bu,hh,b3,b1]
      | some l =>
        simp only at hl
        simp[Instr.sliceAt,Instr.slice,Instr.sliceBounds,Instr.sliceBound,asIntOf,aW hT,run_sizeOf w Bu,hh,hl,l0,b3,b1,b6,l1]
   cases x with
   | sl n cs =>
     simp only at h
     split at h
     ·rename_i kh H kl L e1 e2;split at h
      ·rename_i hc;obtain⟨c1,c2,c3,c4⟩:=hc
       simp only[Option.some.injEq] at h;subst h;have e1':=hiv hi n kh H e1
       have e2':=hiv lo 0 kl L e2
       have hHL:(H-L).toNat=H.toNat-L.toNat:=by omega
       cases hu with
       | LG n cap p nA =>
         refine⟨_,qJ p n cap kh kl H L nA e1' e2' c1 c2 c3, ?_⟩
         rw[hHL];simp only[List.drop_nil,List.take_nil];exact .LG _ _ _ (by omega)
       | sl n cs b off cap arr T' fr nA hb hle hr h1 =>
         refine⟨_,qJ _ n cap kh kl H L nA e1' e2' c1 c2 c3, ?_⟩
         rw[hHL];by_cases hm:cap=L.toNat
         ·have hz:H.toNat-L.toNat=0:=by omega
          rw[if_pos hm,hz];simp only[Nat.zero_mul,List.take_zero];exact .LG _ _ _ (by omega)
         ·rw[if_neg hm];simp only[Option.map_some,lU];have hbound:L.toNat * ei.size+(H.toNat-L.toNat) * ei.size≤cs.length:=by
           rw[c4,← Nat.add_mul];exact Nat.mul_le_mul_right _ (by omega)
          refine .sl _ _ b (off+L.toNat * ei.size) _ arr T' fr (by omega) hb (by simp;omega) (fun i x y hx hy=>?_) (fun i y Cn hy=>?_)
          ·rw[List.getElem?_take] at hx;split at hx
           ·rw[List.getElem?_drop] at hx;exact hr _ x y hx (by rw[← Nat.add_assoc];exact hy)
           ·cases hx
          ·simp only[List.length_take,List.length_drop] at Cn
           exact h1 (L.toNat * ei.size+i) y (by omega) (by rw[← Nat.add_assoc];exact hy)
      ·cases h
     ·cases h
   | v xv =>
     split at h
     ·rename_i heq;cases heq
     ·rename_i heq;cases heq
      split at h
      ·rename_i kh H kl L e1 e2;split at h
       ·rename_i hc;obtain⟨rfl,rfl⟩:=hc
        simp only[Option.some.injEq] at h;subst h;have:=iN hu
        subst this;have e1':=hiv hi 0 kh 0 e1
        have e2':=hiv lo 0 kl 0 e2
        refine⟨_,qJ none 0 0 kh kl 0 0 (Nat.le_refl _) e1' e2' (by omega) (by omega) (by omega), ?_⟩
        simp
        exact .v _
       ·cases h
      ·cases h
     ·rename_i heq;cases heq
     ·rename_i heq;cases heq
     ·cases h
   | own s g =>
     simp only at h
     cases he:st.heap s g with
     | none=>simp[he] at h
     | some en =>
       cases en with
       | row e' sL n es =>
         simp only[he] at h;split at h
         ·rename_i kh H kl L e1 e2;split at h
          ·rename_i hc;obtain⟨c1,c2,c3⟩:=hc
           have e1':=hiv hi n kh H e1
           have e2':=hiv lo 0 kl L e2
           have hHL:(H-L).toNat=H.toNat-L.toNat:=by omega
           obtain⟨aZ,_,xs,ho,Bv⟩:=S.sX s g _ he
           cases hu with
           | own _ _ hg h1 =>
             show ∃r,(Instr.sliceAt T (ρ s g) (lo.map a.eval) (hi.map a.eval) none).run P w=.ok r w∧_
             rcases ho.2 with ⟨p,lE,hn⟩|⟨b',cap,cur,lE,_,hh,Uf,_,_,ht,qS⟩
             ·rw[lE];subst hn;have hLH:L=H:=by omega
              rw[if_pos ⟨hLH,by omega⟩] at h
              simp only[Option.some.injEq] at h;subst h;have hz:H.toNat-L.toNat=0:=by omega
              refine⟨_,qJ p 0 0 kh kl H L (Nat.le_refl _) e1' e2' c1 c2 c3, ?_⟩
              rw[hz];exact .LG _ _ _ (by omega)
             ·rw[lE];refine⟨_,qJ _ n cap kh kl H L Uf e1' e2' c1 c2 c3, ?_⟩
              split at h
              ·rename_i hLH;simp only[Option.some.injEq] at h;subst h;have hz:H.toNat-L.toNat=0:=by omega
               rw[hz];exact .LG _ _ _ (by omega)
              ·rename_i hLH;simp only[Option.some.injEq] at h;subst h;rw[if_neg (by omega),hHL]
               simp only[Option.map_some,lU,Nat.zero_add];exact .vw s g _ _ b' _ hg (by show dF (ρ s g)=_;rw[lE,kK qS]) (by omega) (fun hz p n0 c0 hc=>by
                have h3:L.toNat=0:=(Nat.mul_eq_zero.1 hz).resolve_right (by omega)
                have h2:ρ s g=.slice p n0 c0:=hc
                rw[lE] at h2;simp only[Value.slice.injEq] at h2;omega)
          ·cases h
         ·cases h
       | _=>simp[he] at h
   | vw s g o k =>
     cases o with
     | succ o=>simp at h
     | zero =>
     simp only at h
     split at h
     ·rename_i e' sL n es ho' Gj he
      split at h
      ·rename_i kh H kl L e1 e2;split at h
       ·rename_i hc;obtain⟨c1,c2,c3⟩:=hc
        simp only[Option.some.injEq] at h;subst h;obtain⟨aZ,_,xs,ho,Bv⟩:=S.sX s g _ he
        cases hu with
        | vw _ _ _ _ b cap hg hb nA zA =>
          have nX:dF (ρ s g)=some b:=hb
          rcases ho.2 with ⟨p,lE,hn⟩|⟨b',BK,cur,lE,_,hh,Uf,_,_,ht,qS⟩
          ·rw[lE,pV] at nX;cases nX
          ·have xG:b'=b:=by rw[lE,kK qS] at nX;simpa using nX
           subst xG;have hcc:cap=BK:=zA rfl _ _ _ lE
           subst hcc;have f1:a.eval ho'=.int kh H:=by
            have:=S.ev ho'
            rw[e1] at this;exact iN this
           have f2:a.eval Gj=.int kl L:=by
            have:=S.ev Gj
            rw[e2] at this;exact iN this
           have b1:H≤(cap:Int):=by omega
           have b2:L≤((H.toNat:Nat):Int):=by omega
           have b3:0≤H:=by omega
           have b6:max H 0=H:=by omega
           have b7:¬cap=L.toNat:=by omega
           refine⟨.slice (some ⟨b',L.toNat * ei.size,none⟩) (H.toNat-L.toNat) (cap-L.toNat), ?_, ?_⟩
           ·simp[Instr.sliceAt,Instr.slice,Instr.sliceBounds,Instr.sliceBound,asIntOf,aW hT,run_sizeOf w Bu,f1,f2,c1,b3,b1,b6,b2,b7,lU,show L≤H by omega]
           ·rw[show (H-L).toNat=H.toNat-L.toNat by omega]
            exact .vw s g _ _ b' _ hg hb (by omega) (fun hz p n0 c0 hc=>by
             have h3:L.toNat=0:=(Nat.mul_eq_zero.1 hz).resolve_right (by omega)
             have h2:ρ s g=.slice p n0 c0:=hc
             rw[lE] at h2;simp only[Value.slice.injEq] at h2;omega)
       ·cases h
      ·cases h
     ·cases h
   | _=>first|(simp at h;done)|(cases h;done)
theorem HV (S:kZ F h0 w0 nt ρ st a w) {T:Nat} {x z:AV} {lo:Option Operand} {hi mx:Operand} {u:Value} (h:wI P st T x lo hi mx=some z) (hu:cV (ctx h0 w0 ρ st w) x u) :
 ∃r,(Instr.sliceAt T u (lo.map a.eval) (some (a.eval hi)) (some (a.eval mx))).run P w=.ok r w∧cV (ctx h0 w0 ρ st w) z r:=by
 unfold wI at h;cases hs:dN P T with
 | none=>simp[hs] at h
 | some t =>
   obtain⟨e,sz,by_⟩:=t
   simp only[hs] at h;obtain⟨ei,ez,hT,Bu,BL,rfl,BE,rfl,Ec⟩:=kF hs
   have qL:∀(o:Operand) (k:IntKind) (i:Int),st.ev o=.v (.int k i)→a.eval o=.int k i:=fun o k i ho=>by
    have:=S.ev o
    rw[ho] at this;exact iN this
   split at h
   ·rename_i kh H km M kl L e1 e2 e3;have f1:=qL _ _ _ e1
    have f2:=qL _ _ _ e2
    have qJ:∀(p:Option Addr) (n cap:Nat),n≤cap→0≤L→L≤H→H=M→H≤n →
     (Instr.sliceAt T (.slice p n cap) (lo.map a.eval) (some (a.eval hi)) (some (a.eval mx))).run P w=.ok (.slice (if H.toNat=L.toNat then p else p.map (·.add (L.toNat * ei.size))) (H.toNat-L.toNat) (H.toNat-L.toNat)) w:=by
     intro p n cap nA l0 l1 l2 l3;subst l2;have b1:H≤(cap:Int):=by omega
     have b2:L≤((H.toNat:Nat):Int):=by omega
     have b3:0≤H:=by omega
     have b4:H≤((H.toNat:Nat):Int):=by omega
     have b6:max H 0=H:=by omega
     cases lo with
     | none =>
       simp only[AV.v.injEq,Value.int.injEq] at e3;obtain⟨rfl,rfl⟩:=e3
       simp[Instr.sliceAt,Instr.slice,Instr.sliceBounds,Instr.sliceBound,asIntOf,aW hT,run_sizeOf w Bu,f1,f2,b3,b1,b4,b6]
     | some l =>
       simp only at e3
       have f3:=qL _ _ _ e3
       simp[Instr.sliceAt,Instr.slice,Instr.sliceBounds,Instr.sliceBound,asIntOf,aW hT,run_sizeOf w Bu,f1,f2,f3,l0,l1,b3,b1,b2,b4,b6]
    split at h
    ·rename_i n cs;split at h
     ·rename_i hc;obtain⟨c1,c2,c3,c4,c5⟩:=hc
      simp only[Option.some.injEq] at h;subst h;have hHL:(H-L).toNat=H.toNat-L.toNat:=by omega
      cases hu with
      | LG n cap p nA =>
        refine⟨_,qJ p n cap nA c1 c2 c3 c4, ?_⟩
        rw[hHL];simp only[List.drop_nil,List.take_nil];exact .cl0 _ _
      | sl n cs b off cap arr T' fr nA hb hle hr h1 =>
        refine⟨_,qJ _ n cap nA c1 c2 c3 c4, ?_⟩
        rw[hHL];by_cases hm:H.toNat=L.toNat
        ·have hz:H.toNat-L.toNat=0:=by omega
         rw[if_pos hm,hz];simp only[Nat.zero_mul,List.take_zero];exact .cl0 _ _
        ·rw[if_neg hm];simp only[Option.map_some,lU];have hbound:L.toNat * ei.size+(H.toNat-L.toNat) * ei.size≤cs.length:=by
          rw[c5,← Nat.add_mul];exact Nat.mul_le_mul_right _ (by omega)
         refine .cl _ _ b (off+L.toNat * ei.size) arr T' fr hb (by simp;omega) (fun i x y hx hy=>?_) (fun i y Cn hy=>?_)
         ·rw[List.getElem?_take] at hx;split at hx
          ·rw[List.getElem?_drop] at hx;exact hr _ x y hx (by rw[← Nat.add_assoc];exact hy)
          ·cases hx
         ·simp only[List.length_take,List.length_drop] at Cn
          exact h1 (L.toNat * ei.size+i) y (by omega) (by rw[← Nat.add_assoc];exact hy)
     ·cases h
    ·split at h
     ·rename_i hc;obtain⟨c1,c2,c3⟩:=hc
      simp only[Option.some.injEq] at h;subst h;have:=iN hu
      subst this;refine⟨_,qJ none 0 0 (Nat.le_refl _) (by omega) (by omega) (by omega) (by omega), ?_⟩
      subst c2;simp
      exact .v _
     ·cases h
    ·rename_i s g;cases he:st.heap s g with
     | none=>simp[he] at h
     | some en =>
       cases en with
       | row e' sL n es =>
         simp only[he] at h;split at h
         ·rename_i hc;obtain⟨c1,c2,c3,c4⟩:=hc
          simp only[Option.some.injEq] at h;subst h;obtain⟨aZ,_,xs,ho,Bv⟩:=S.sX s g _ he
          have hrun3:∀(p:Option Addr) (cap:Nat),n≤cap→∃q,(Instr.sliceAt T (.slice p n cap) (lo.map a.eval) (some (a.eval hi)) (some (a.eval mx))).run P w=.ok (.slice q (H.toNat-L.toNat) (M.toNat-L.toNat)) w:=by
           intro p cap nA;have b1:M≤(cap:Int):=by omega
           have b2:L≤((H.toNat:Nat):Int):=by omega
           have b3:0≤H:=by omega
           have b4:H≤((M.toNat:Nat):Int):=by omega
           have b5:0≤M:=by omega
           have b6:max M 0=M:=by omega
           have b7:max H 0=H:=by omega
           cases lo with
           | none =>
             simp only[AV.v.injEq,Value.int.injEq] at e3;obtain⟨rfl,rfl⟩:=e3
             exact⟨_,by simp[Instr.sliceAt,Instr.slice,Instr.sliceBounds,Instr.sliceBound,asIntOf,aW hT,run_sizeOf w Bu,f1,f2,b3,b1,b4,b5,b6,b7,c3]<;>rfl⟩
           | some l =>
             simp only at e3
             have f3:=qL _ _ _ e3
             exact⟨_,by simp[Instr.sliceAt,Instr.slice,Instr.sliceBounds,Instr.sliceBound,asIntOf,aW hT,run_sizeOf w Bu,f1,f2,f3,c1,c2,c3,b3,b1,b2,b4,b5,b6,b7]<;>rfl⟩
          cases hu with
          | own _ _ hg h1 =>
            show ∃r,(Instr.sliceAt T (ρ s g) _ _ _).run P w=.ok r w∧_
            have SZ:∃p cap,ρ s g=.slice p n cap∧n≤cap:=by
             rcases ho.2 with ⟨p,lE,hn⟩|⟨b',cap,cur,lE,_,hh,Uf,_⟩
             ·exact⟨p,0,by rw[lE,hn],by omega⟩
             ·exact⟨_,cap,lE,Uf⟩
            obtain⟨p,cap,lE,Uf⟩:=SZ
            rw[lE];obtain⟨q,hq⟩:=hrun3 p cap Uf
            exact⟨_,hq,by rw[show (H-L).toNat=H.toNat-L.toNat by omega];exact .LG _ _ _ (by omega)⟩
         ·cases h
       | _=>simp[he] at h
    ·cases h
   ·cases h
theorem aAu {C:Ctx} {s g off:Nat} {v:Value} (h:cV C (.ptr s g off) v):∃b off,v=.pointer (some ⟨b,off,none⟩):=by
 cases h;exact⟨_,_,rfl⟩
theorem aDN {C:Ctx} {cs:List AV} {o:Nat} {v:Value} (h:cV C (.ip cs o) v):∃b off,v=.pointer (some ⟨b,off,none⟩):=by
 cases h;exact⟨_,_,rfl⟩
theorem aAv {C:Ctx} {vs:List AV} {v:Value} (h:cV C (.dZ vs) v):∃ar,v=.tuple ar∧vs.length=ar.size∧∀(i:Nat) (x:AV) (y:Value),vs[i]? = some x→ar[i]? = some y→cV C x y:=by
 cases h with
 | dZ cs a hl hr=>exact⟨a,rfl,hl,hr⟩
theorem OR (S:kZ F h0 w0 nt ρ st a w) {o:Oper} {x:AV} (h:iQ P st o.op=some x) :
 ∃v,(execOp a.eval o).run P w=.ok (.value v) w∧cV (ctx h0 w0 ρ st w) x v:=by
 cases qL:o.op with
 | move y=>rw[qL] at h;simp[iQ] at h;subst h;exact⟨_,by simp[execOp,qL],S.ev y⟩
 | assign y=>rw[qL] at h;simp[iQ] at h;subst h;exact⟨_,by simp[execOp,qL],S.ev y⟩
 | pick c y z =>
   rw[qL] at h;simp only[iQ] at h;split at h
   ·rename_i t hc;simp only[Option.some.injEq] at h;subst h;have:=S.ev c
    rw[hc] at this;have:=iN this
    refine⟨if t=true then a.eval y else a.eval z,by simp[execOp,qL,this,asBool], ?_⟩
    cases t
    ·exact S.ev z
    ·exact S.ev y
   ·cases h
 | binOp op T y z yT =>
   rw[qL] at h;simp only[iQ] at h;obtain⟨r,hr,gA⟩:=TE (w:=w) y z h (S.ev y) (S.ev z)
   exact⟨r,by simp only[execOp,qL];rw[dJ hr];rfl,gA⟩
 | unOp op T y =>
   rw[qL] at h;simp only[iQ] at h;obtain⟨r,hr,gA⟩:=z4 (P:=P) (w:=w) h (S.ev y)
   exact⟨r,by simp only[execOp,qL];rw[dJ hr];rfl,gA⟩
 | convert src dst y =>
   rw[qL] at h;simp only[iQ] at h;split at h
   ·rename_i k' n k ks hy hk hks
    simp only[Option.some.injEq] at h;subst h;have:=S.ev y
    rw[hy] at this;have hv:=iN this
    have hu:∀ {t:Nat} {k:IntKind},intKind P t=some k→P.underlying t=some (.int k):=fun {t k} hk=>by
     unfold intKind at hk;split at hk
     ·rename_i hu;cases hk;exact hu
     ·cases hk
    refine⟨_, ?_,.v _⟩
    simp[execOp,qL,hv,convert,aW (hu hk),aW (hu hks),Conv.intToInt]
   ·cases h
 | nilCheck y =>
   rw[qL] at h;simp only[iQ] at h;split at h
   ·rename_i s g off hy;simp only[Option.some.injEq] at h;subst h;have hr:=S.ev y
    rw[hy] at hr;obtain⟨b,off',hv⟩:=aAu hr
    exact⟨a.eval y,by simp[execOp,qL,hv],hr⟩
   ·rename_i cs o hy;simp only[Option.some.injEq] at h;subst h;have hr:=S.ev y
    rw[hy] at hr;obtain⟨b,off',hv⟩:=aDN hr
    exact⟨a.eval y,by simp[execOp,qL,hv],hr⟩
   ·cases h
 | fieldAddr T y f =>
   rw[qL] at h;simp only[iQ] at h;split at h
   ·rename_i k hf;obtain⟨r,hr,gA⟩:=Tw (w:=w) hf h (S.ev y)
    exact⟨r,by simp only[execOp,qL];rw[dJ hr];rfl,gA⟩
   ·cases h
 | field T y f =>
   rw[qL] at h;simp only[iQ] at h;unfold Kt at h;split at h
   ·rename_i cs hy;have hr:=S.ev y
    rw[hy] at hr;obtain⟨u,hu⟩:∃u,a.eval y=u:=⟨_,rfl⟩
    rw[hu] at hr;cases hr with
    | agg _ ar hl gA h1 =>
      have key:∀off b k,fieldInfo P T f=some (off,b,k)→∃fs fd i d,P.underlying T=some (.struct fs)∧fs[f]? = some fd∧fd.offset=off∧P.info? fd.type=some i∧P.underlying fd.type=some d∧cY P fd.type=b∧i.size=k∧(b=true∨k=1):=fun off b k hf=>by
       unfold fieldInfo at hf;split at hf
       ·rename_i fs hT;split at hf
        ·rename_i fd hfd;split at hf
         ·rename_i b' k' hld
          split at hf
          ·rename_i hc;simp only[Option.some.injEq,Prod.mk.injEq] at hf;obtain⟨rfl,rfl,rfl⟩:=hf
           obtain⟨i,d,hi,hd,lA,hk⟩:=At hld
           exact⟨fs,fd,i,d,hT,hfd,rfl,hi,hd,lA,hk,hc⟩
          ·cases hf
         ·cases hf
        ·cases hf
       ·cases hf
      split at h
      ·rename_i off k hf;obtain⟨fs,fd,i,d,hT,hfd,rfl,hi,hd,lA,rfl,_⟩:=key _ _ _ hf
       split at h
       ·rename_i hle;simp only[Option.some.injEq] at h;subst h;have hp:=Gq w hd hi ar.toList fd.offset (by rw[lA];simp) (by simp;omega)
        rw[lA] at hp;simp only[mk,if_true,Array.toArray_toList] at hp;refine⟨_,by
         simp only[execOp,qL,hu];rw[dJ (show (Instr.field T (Value.agg ar) f).run P w=.ok _ w by
          simp only[Instr.field,Sem.run_bind,aW hT,Result.andThen_ok,hfd,asAgg,Sem.run_pure];exact hp)]
         rfl,.agg _ _ (by simp[hl]) (fun j x z hx hz=>?_) fun j z hz=>?_⟩
        ·rw[List.getElem?_take] at hx;split at hx
         ·rename_i hj;rw[List.getElem?_drop] at hx;refine gA _ x z hx ?_
          simpa [hj,List.getElem?_take,List.getElem?_drop] using hz
         ·cases hx
        ·have hz':ar[fd.offset+j]? = some z:=by
          simp only[List.getElem?_toArray,List.getElem?_take,List.getElem?_drop] at hz;split at hz
          ·simpa using hz
          ·cases hz
         exact h1 _ z hz'
       ·cases h
      ·rename_i off k hf;obtain⟨fs,fd,i,d,hT,hfd,rfl,hi,hd,lA,rfl,hk⟩:=key _ _ _ hf
       have hk1:i.size=1:=by simpa using hk
       have aZ:fd.offset<cs.length:=(List.getElem?_eq_some_iff.1 h).1
       have hp:=Gq w hd hi ar.toList fd.offset (fun _=>hk1) (by simp;omega)
       rw[lA] at hp;simp only[mk,Bool.false_eq_true,if_false,Array.toArray_toList] at hp;refine⟨_,by
        simp only[execOp,qL,hu];rw[dJ (show (Instr.field T (Value.agg ar) f).run P w=.ok _ w by
         simp only[Instr.field,Sem.run_bind,aW hT,Result.andThen_ok,hfd,asAgg,Sem.run_pure];exact hp)]
        rfl, ?_⟩
       refine gA fd.offset x _ h ?_
       have:fd.offset<ar.size:=by omega
       rw[hk1,List.take_one];simp[List.head?_drop,this]
      ·cases h
   ·cases h
 | indexAddr T y i =>
   rw[qL] at h;simp only[iQ] at h;obtain⟨r,hr,gA⟩:=Tx S h (S.ev y) (S.ev i)
   exact⟨r,by simp only[execOp,qL];rw[dJ hr];rfl,gA⟩
 | load T y =>
   rw[qL] at h;simp only[iQ] at h;cases hra:qQ st (st.ev y) with
   | none=>simp[hra,cC] at h
   | some cs =>
     simp only[hra,cC] at h;obtain⟨r,hr,gA⟩:=We S hra h (S.ev y)
     exact⟨r,by simp only[execOp,qL];rw[dJ hr];rfl,gA⟩
 | extract t i =>
   rw[qL] at h;simp only[iQ] at h;split at h
   ·rename_i vs ht;have hr:=S.ev t
    rw[ht] at hr;obtain⟨ar,hv,hl,gA⟩:=aAv hr
    have hi:i<vs.length:=(List.getElem?_eq_some_iff.1 h).1
    have Cn:i<ar.size:=by omega
    refine⟨ar[i], ?_,gA i x ar[i] h (by simp[Cn])⟩
    simp[execOp,qL,hv,Instr.extract,Cn]
   ·cases h
 | build T parts =>
   rw[qL] at h;simp only[iQ] at h;obtain⟨r,hr,gA⟩:=LK S h
   exact⟨r,by simp only[execOp,qL];rw[dJ hr];rfl,gA⟩
 | slice T y lo hi mx =>
   rw[qL] at h;cases mx with
   | some m =>
     cases hi with
     | none=>simp[iQ] at h
     | some hh =>
       simp only[iQ] at h;obtain⟨r,hr,gA⟩:=HV S h (S.ev y)
       exact⟨r,by simp only[execOp,qL,Option.map_some];rw[dJ hr];rfl,gA⟩
   | none =>
     simp only[iQ] at h;obtain⟨r,hr,gA⟩:=OQ S h (S.ev y)
     exact⟨r,by simp only[execOp,qL,Option.map_none];rw[dJ hr];rfl,gA⟩
 | lookup T y i ok =>
   rw[qL] at h;simp only[iQ] at h;obtain⟨r,hr,gA⟩:=VP S h (S.ev y) (S.ev i)
   exact⟨r,by simp only[execOp,qL];rw[dJ hr];rfl,gA⟩
 | makeFunc fn first captured =>
   rw[qL] at h;cases fn with
   | func f =>
     simp only[iQ] at h;split at h
     ·rename_i hf;subst hf;simp only[Option.some.injEq] at h;subst h;have gA:lP (ctx h0 w0 ρ st w) (captured.toList.map st.ev) (captured.toList.map a.eval):=lP.map _ _ _ fun p _=>S.ev p
      refine⟨.func (.func f) #[] (captured.map a.eval), ?_,.Aj f _ _ (by simp) fun i x y hx hy=>gA.rel i x y hx (by simpa using hy)⟩
      simp[execOp,qL,Instr.makeFunc]
     ·cases h
   | _=>simp[iQ] at h
 | _=>rw[qL] at h;simp[iQ] at h
end
end Go.Ab
end
section
namespace Go.Ab
open Classical
theorem cV.flat {C D:Ctx} {x:AV} {v:Value} (hf:Flat x) (hr:cV C x v) (hh:∀b o,C.h b o→D.h b o):cV D x v:=by
 induction hr with
 | v x=>exact .v x
 | agg cs a hl _ h1 ih=>cases hf with|agg _ h=>exact .agg cs a hl (fun i x y hx hy=>ih i x y hx hy (h x (List.mem_of_getElem? hx))) h1
 | LG n cap p nA=>exact .LG n cap p nA
 | sl n cs b off cap arr T fr nA hb hle _ h1 ih=>cases hf with|sl _ _ h=>exact .sl n cs b off cap arr T fr nA (hh _ _ hb) hle (fun i x y hx hy=>ih i x y hx hy (h x (List.mem_of_getElem? hx))) h1
 | cl0 n p=>exact .cl0 n p
 | cl n cs b off arr T fr hb hle _ h1 ih=>cases hf with|cl _ _ h=>exact .cl n cs b off arr T fr (hh _ _ hb) hle (fun i x y hx hy=>ih i x y hx hy (h x (List.mem_of_getElem? hx))) h1
 | ip cs o b off arr T fr hb hle _ h1 ih=>cases hf with|ip _ _ h=>exact .ip cs o b off arr T fr (hh _ _ hb) hle (fun i x y hx hy=>ih i x y hx hy (h x (List.mem_of_getElem? hx))) h1
 | ptr=>cases hf
 | own=>cases hf
 | vw=>cases hf
 | mp=>cases hf
 | Aj f cs a hl _ ih=>cases hf with|Aj _ _ h=>exact .Aj f cs a hl (fun i x y hx hy=>ih i x y hx hy (h x (List.mem_of_getElem? hx)))
 | dZ cs a hl _ ih=>cases hf with|dZ _ h=>exact .dZ cs a hl (fun i x y hx hy=>ih i x y hx hy (h x (List.mem_of_getElem? hx)))
theorem cV.Og {C D:Ctx} {x:AV} {v:Value} (hf:fJ x) (hr:cV C x v):cV D x v:=by
 induction hr with
 | v x=>exact .v x
 | agg cs a hl _ h1 ih=>cases hf with|agg _ h=>exact .agg cs a hl (fun i x y hx hy=>ih i x y hx hy (h x (List.mem_of_getElem? hx))) h1
 | dZ cs a hl _ ih=>cases hf with|dZ _ h=>exact .dZ cs a hl (fun i x y hx hy=>ih i x y hx hy (h x (List.mem_of_getElem? hx)))
 | _=>cases hf
def bare (h:Nat→Obj→Prop):Ctx:=⟨h,fun _ _=>undef,fun _=>0⟩
inductive Ri:AV→Prop
 | v (x:Value):Ri (.v x)
 | agg (cs:List AV) (h:∀x∈cs,Ri x):Ri (.agg cs)
 | dZ (cs:List AV) (h:∀x∈cs,Ri x):Ri (.dZ cs)
 | own (s g:Nat):Ri (.own s g)
theorem fJ.aDO {x:AV} (h:fJ x):Ri x:=by
 induction h with
 | v x=>exact .v x
 | agg cs _ ih=>exact .agg cs ih
 | dZ cs _ ih=>exact .dZ cs ih
theorem cV.aDO {C D:Ctx} {x:AV} {v:Value} (hf:Ri x) (hr:cV C x v) (hc:∀s,C.aO s≤D.aO s) (lE:∀s g,g<C.aO s→D.ρ s g=C.ρ s g):cV D x v:=by
 induction hr with
 | v x=>exact .v x
 | agg cs a hl _ h1 ih=>cases hf with|agg _ h=>exact .agg cs a hl (fun i x y hx hy=>ih i x y hx hy (h x (List.mem_of_getElem? hx))) h1
 | dZ cs a hl _ ih=>cases hf with|dZ _ h=>exact .dZ cs a hl (fun i x y hx hy=>ih i x y hx hy (h x (List.mem_of_getElem? hx)))
 | own s g hg ho=>rw[← lE s g hg];exact .own s g (Nat.lt_of_lt_of_le hg (hc s)) (by rw[lE s g hg];exact ho)
 | _=>cases hf
def newHs (h0:Nat→Obj→Prop) (w w':World) (vs:List Value):Nat→Obj→Prop :=
 fun b o=>w'.heap[b]? = some o∧(b<w.heap.size→h0 b o)∧∀x∈vs,dF x≠some b
def OS (h0:Nat→Obj→Prop) (w w':World) (r:AV) (v:Value):Prop :=
 ∃vs:List Value,(∀x∈vs,x.oneCell'=true)∧(∀(i j:Nat) (x y:Value) (b:Nat),vs[i]? = some x→vs[j]? = some y→dF x=some b→dF y=some b→i=j) ∧
  (∀x∈vs,∀b,dF x=some b→w.heap.size≤b)∧(∀d c,(SP d c r).2.length=vs.length) ∧
  ∀(D:Ctx) (d c:Nat),(∀b o,newHs h0 w w' vs b o→D.h b o)→(∀(i:Nat) (x:Value),vs[i]? = some x→c+i<D.aO d∧D.ρ d (c+i)=x) →
   cV D (SP d c r).1 v∧∀(i:Nat) (e:jI) (x:Value),(SP d c r).2[i]? = some e→vs[i]? = some x→nK D w' w.heap.size x e
def HS (P:Program) (g:Nat) (xs:List AV) (r:AV):Prop :=
 ∀(w:World) (h0:Nat→Obj→Prop) (vs:Array Value),(∀b o,h0 b o→w.heap[b]? = some o)→lP (bare h0) xs vs.toList →
  Calls P g vs w fun e w'=>∃v,e=.returned v∧OS h0 w w' r v∧w.grownBy w' none
def VQ (P:Program) (g e sz n:Nat) (cs xs:List AV) (r:AV):Prop :=
 ∀(w:World) (h0:Nat→Obj→Prop) (v0:Value) (ys:List Value) (vs:Array Value),(∀b o,h0 b o→w.heap[b]? = some o)→(∀b o,h0 b o→dF v0≠some b)→oC w 0 e sz v0 n ys→gB (bare h0) cs ys →
  lP (bare h0) xs vs.toList→Calls P g (#[v0]++vs) w fun en w'=>∃v,en=.returned v∧w.grownBy w' (dF v0) ∧
   match r with
   | .uniq e' sL n' Ar=>∃zs,oC w' 0 e' sL v n' zs∧gB (bare h0) Ar zs∧∀b,dF v=some b→dF v0=some b∨w.heap.size≤b
   | .dZ [.uniq e' sL n' Ar]=>v=.tuple #[]∧∃zs,oC w' 0 e' sL v0 n' zs∧gB (bare h0) Ar zs
   | _=>False
def Ho (P:Program) (g:Nat) (xs:List AV) (r:AV):Prop :=
 match xs with
 | .uniq e sz n cs :: rest=>VQ P g e sz n cs rest r
 | xs=>HS P g xs r
def Hq (P : Program) (g : Nat) : Prop := ∃ fn, P.funcs[g]? = some fn ∧ (fn.name == "runtime.NumGoroutine") = false ∧ fn.body.isSome = true
def rM (P:Program) (call:Nat→List AV→Option AV):Prop:=∀g xs r,call g xs=some r→Hq P g∧Ho P g xs r
theorem HW {f:Nat→AV→AV × List jI}:∀(xs:List AV) (c:Nat),(∀x∈xs,∀c,f c x=(x,[]))→pY f c xs=(xs,[])
 | [],c,_=>rfl
 | x :: xs,c,h=>by
   simp only[pY,h x (by simp),List.length_nil,Nat.add_zero,HW xs c fun y hy=>h y (by simp[hy]),List.nil_append]
theorem Je {x:AV} (h:Flat x) (d c:Nat):xZ d c x=(x,[]):=by cases h<;>rfl
theorem FM {x:AV} (h:Flat x) (d c:Nat):Tu d c x=(x,[]):=by
 cases h with
 | agg cs h=>simp only[Tu,HW (f:=xZ d) cs c fun x hx c=>Je (h x hx) d c]
 | _=>rfl
theorem Hr {x:AV} (h:Flat x) (d c:Nat):SP d c x=(x,[]):=by
 cases h with
 | dZ cs h=>simp only[SP,HW (f:=Tu d) cs c fun x hx c=>FM (h x hx) d c]
 | agg cs h=>exact FM (.agg cs h) d c
 | _=>rfl
theorem FN {h0:Nat→Obj→Prop} {w w':World} {r:AV} {v:Value} (hf:Flat r) (h:cV (bare (newHs h0 w w' [])) r v):OS h0 w w' r v :=
 ⟨[],by simp,by simp,by simp,fun d c=>by rw[Hr hf];rfl,fun D d c hD _=>by
  rw[Hr hf];exact⟨h.flat hf hD,by simp⟩⟩
theorem nK.base {C:Ctx} {w:World} {b b':Nat} {v:Value} {e:jI} (h:nK C w b v e) (hb:b'≤b):nK C w b' v e:=by
 cases e with
 | cells cs=>obtain⟨k,arr,T,h1,h2,h3⟩:=h;exact⟨k,arr,T,h1,Nat.le_trans hb h2,h3⟩
 | row e sz n cs=>obtain⟨xs,ho,hc⟩:=h;exact⟨xs,zB ho hb,hc⟩
 | map es=>obtain⟨k,arr,T,h1,h2,h3⟩:=h;exact⟨k,arr,T,h1,Nat.le_trans hb h2,h3⟩
theorem Oh {w:World} {b b' e sz n:Nat} {v:Value} {xs:List Value} (h:oC w b e sz v n xs) (hb:∀k,dF v=some k→b'≤k):oC w b' e sz v n xs:=by
 refine⟨h.1, ?_⟩
 rcases h.2 with h|⟨g,cap,cur,rfl,h1,h2,h3,h4,h5,h6,hc⟩
 ·exact .inl h
 ·exact .inr ⟨g,cap,cur,rfl,hb g (kK hc),h2,h3,h4,h5,h6,hc⟩
theorem jH {α:Type}:∀(l:List (Option α)) (r:List α),bP l=some r→l=r.map some
 | [],r,h=>by simp[bP] at h;subst h;rfl
 | none :: l,r,h=>by simp[bP] at h
 | some x :: l,r,h=>by
   simp only[bP,Option.map_eq_some_iff] at h;obtain⟨r',h',rfl⟩:=h
   rw[jH l r' h'];rfl
section
variable {P:Program} {h0:Nat→Obj→Prop} {w0:World} {F:Gp} {nt:Nat} {ρ:Nat→Nat→Value} {st:St} {a:Act} {w:World}
def De (h0:Nat→Obj→Prop) (w0 w:World):Nat→Obj→Prop:=fun b o=>w.heap[b]? = some o∧(b<w0.heap.size→h0 b o)
theorem Ey {D:Ctx} {base e sz n:Nat} {v:Value} {xs:List Value} {cs:List AV} (hD:∀b o,dF v=some b→base≤b→w.heap[b]? = some o→D.h b o) (h:oC w base e sz v n xs) (hc:gB D cs xs):cV D (.sl n cs) v:=by
 rcases h.2 with ⟨p,rfl,hn⟩|⟨g,cap,cur,rfl,hb,hg,Uf,_,HX,ht,qS⟩
 ·subst hn;have:xs.length=0:=by rw[h.1];simp
  have:=hc.len
  have hnil:=List.length_eq_zero_iff.1 (show cs.length=0 by omega)
  subst hnil;exact .LG 0 0 p (by omega)
 ·have hl:=hc.len
  have hx:=h.1
  have hle:n * sz≤cap * sz:=Nat.mul_le_mul_right _ Uf
  refine .sl n cs g 0 cap cur e (0,0) Uf (hD g _ (kK qS) hb hg) (by omega) (fun i x y Iz hy=>?_) (fun i y hi hy=>?_)
  ·have hi:i<cs.length:=(List.getElem?_eq_some_iff.1 Iz).1
   refine hc.rel i x y Iz ?_
   rw[← ht,List.getElem?_take,if_pos (by omega)]
   simpa using hy
  ·refine hc.one i y ?_
   rw[← ht,List.getElem?_take,if_pos (by omega)]
   simpa using hy
theorem gB.flat {C D:Ctx} {cs:List AV} {ys:List Value} (h:gB C cs ys) (hf:∀c∈cs,Flat c) (hh:∀b o,C.h b o→D.h b o):gB D cs ys :=
 ⟨h.len,fun i x y hx hy=>(h.rel i x y hx hy).flat (hf x (List.mem_of_getElem? hx)) hh,h.one⟩
theorem Df (b:Nat) (o:Obj) (h:(ctx h0 w0 ρ st w).h b o):(bare (De h0 w0 w)).h b o:=⟨h.1,h.2.1⟩
theorem aGm (S:kZ F h0 w0 nt ρ st a w) {s g o n e sz N:Nat} {cs:List AV} {v:Value} (he:st.heap s g=some (.row e sz N cs)) (hf:∀c∈cs,Flat c) (hle:o+n * sz≤cs.length) (hu:cV (ctx h0 w0 ρ st w) (.vw s g o n) v):cV (bare (De h0 w0 w)) (.sl n ((cs.drop o).take (n * sz))) v:=by
 obtain⟨_,ho1,xs,ho,hc⟩:=S.sX s g _ he
 cases hu with
 | vw _ _ _ _ b cap hg hb nA _ =>
   change dF (ρ s g)=some b at hb
   rcases ho.2 with ⟨p,lE,hn⟩|⟨b',BK,cur,lE,xG,hh,_,_,_,ht,qS⟩
   ·exfalso
    rw[lE] at hb;cases p<;>cases hb
   ·rw[lE,kK qS] at hb;simp only[Option.some.injEq] at hb;subst hb;have hc':=hc.flat (D:=bare (De h0 w0 w)) hf Df
    have hl:=hc.len
    have hxl:xs.length≤cur.size:=by rw[← ht];simp;omega
    have G2:∀i,i<n * sz→cur[o+i]? = xs[o+i]?:=fun i hi=>by
     rw[← ht,List.getElem?_take,if_pos (by rw[← ho.1];omega)]
     simp
    refine .sl _ _ b' o cap cur e (0,0) nA ⟨hh,fun aZ=>by omega⟩ (by simp;omega) (fun i x y hx hy=>?_) (fun i y hi hy=>?_)
    ·rw[List.getElem?_take] at hx;split at hx
     ·rename_i hi;rw[List.getElem?_drop] at hx;rw[G2 i hi] at hy;exact hc'.rel _ x y hx hy
     ·cases hx
    ·simp only[List.length_take,List.length_drop] at hi;rw[G2 i (by omega)] at hy
     exact hc.one _ y hy
theorem OT (S:kZ F h0 w0 nt ρ st a w) {x y:AV} {v:Value} (hu:cV (ctx h0 w0 ρ st w) x v) (h:tO st x=some y):cV (bare (De h0 w0 w)) y v:=by
 unfold tO at h;split at h
 ·rename_i hf;simp only[Option.some.injEq] at h;subst h;exact hu.flat hf Df
 ·split at h
  ·split at h
   ·rename_i e sz n cs he;split at h
    ·rename_i hf;simp only[Option.some.injEq] at h;subst h;obtain⟨_,ho1,xs,ho,hc⟩:=S.sX _ _ _ he
     cases hu with
     | own s g hg h1=>exact Ey (fun b o _ hb OU=>⟨OU,fun aZ=>by omega⟩) ho (hc.flat hf Df)
    ·cases h
   ·cases h
  ·rename_i s g o n _;split at h
   ·rename_i e sz N cs he;split at h
    ·rename_i hf;obtain⟨hf,hle⟩:=hf
     simp only[Option.some.injEq] at h;subst h;exact aGm S he hf hle hu
    ·cases h
   ·cases h
  ·cases h
theorem VR {x y:AV} (h:tO st x=some y):Flat y:=by
 unfold tO at h;split at h
 ·rename_i hf;simp only[Option.some.injEq] at h;subst h;exact hf
 ·split at h
  ·split at h
   ·split at h
    ·rename_i hf;simp only[Option.some.injEq] at h;subst h;exact .sl _ _ hf
    ·cases h
   ·cases h
  ·split at h
   ·split at h
    ·rename_i hf;simp only[Option.some.injEq] at h;subst h;exact .sl _ _ fun c hc=>hf.1 c (List.mem_of_mem_drop (List.mem_of_mem_take hc))
    ·cases h
   ·cases h
  ·cases h
theorem xB (S:kZ F h0 w0 nt ρ st a w) {x y:AV} {v:Value} (hu:cV (ctx h0 w0 ρ st w) x v) (h:cM st x=some y):cV (bare (De h0 w0 w)) y v∧(v.oneCell'=true∨y=x):=by
 unfold cM at h;split at h
 ·rename_i hf;simp only[Option.some.injEq] at h;subst h;exact⟨hu.flat hf Df,.inr rfl⟩
 ·split at h
  ·rename_i s g _;split at h
   ·rename_i e sz n cs he;split at h
    ·rename_i hf;simp only[Option.some.injEq] at h;subst h;obtain⟨_,ho1,xs,ho,hc⟩:=S.sX s g _ he
     cases hu with
     | own s g hg h1=>exact⟨Ey (fun b o _ hb OU=>⟨OU,fun aZ=>by omega⟩) ho (hc.flat hf Df),.inl h1⟩
    ·cases h
   ·cases h
  ·rename_i s g o n _;split at h
   ·rename_i e sz N cs he;split at h
    ·rename_i hf;obtain⟨hf,hle⟩:=hf
     simp only[Option.some.injEq] at h;subst h;cases hu with
     | vw _ _ _ _ b cap hg hb nA zA=>exact⟨aGm S he hf hle (.vw s g o n b cap hg hb nA zA),.inl rfl⟩
    ·cases h
   ·cases h
  ·rename_i s g off _;split at h
   ·rename_i cs he;simp only[Option.map_eq_some_iff] at h;obtain⟨ds,Rj,rfl⟩:=h
    have hm:=jH _ _ Rj
    have hlen:ds.length=cs.length:=by have:=congrArg List.length hm;simpa using this.symm
    obtain⟨_,_,b',arr,T,lE,nX,hh,hc⟩:=S.sX s g _ he
    cases hu with
    | ptr s g off b hg hb =>
      have xG:b'=b:=by
       have h2:dF (ρ s g)=some b:=hb
       rw[lE] at h2;simpa [dF] using h2
      subst xG;have hl:=hc.len
      simp only[Array.length_toList] at hl;have:=cV.ip (C:=bare (De h0 w0 w)) ds off b' 0 arr T (0,0) ⟨hh,fun aZ=>by omega⟩ (by omega) (fun i x y hx hy=>by
       have hi:i<cs.length:=by have:=(List.getElem?_eq_some_iff.1 hx).1;omega
       have Iz:tO st cs[i]=some x:=by
        have:=congrArg (·[i]?) hm
        simp only[List.getElem?_map,hx,List.getElem?_eq_getElem hi,Option.map_some,Option.some.injEq] at this;exact this
       exact OT S (hc.rel i cs[i] y (by simp[hi]) (by simpa using hy)) Iz) (fun i y hi hy=>hc.one i y (by simpa using hy))
      rw[Nat.zero_add] at this;exact⟨this,.inl rfl⟩
   ·cases h
  ·cases h
theorem Ls (S:kZ F h0 w0 nt ρ st a w) {x y:AV} {v:Value} (hu:cV (ctx h0 w0 ρ st w) x v) (h:fU st x=some y):cV (bare (De h0 w0 w)) y v:=by
 unfold fU at h;split at h
 ·rename_i hf;simp only[Option.some.injEq] at h;subst h;exact hu.flat hf Df
 ·split at h
  ·rename_i cs _;simp only[Option.map_eq_some_iff] at h;obtain⟨ds,Rj,rfl⟩:=h
   have hm:=jH _ _ Rj
   cases hu with
   | agg cs ar hl hr h1 =>
     have hlen:ds.length=cs.length:=by have:=congrArg List.length hm;simpa using this.symm
     refine .agg ds ar (by omega) (fun i x y hx hy=>?_) h1
     have hi:i<cs.length:=by have:=(List.getElem?_eq_some_iff.1 hx).1;omega
     have Iz:cM st cs[i]=some x:=by
      have:=congrArg (·[i]?) hm
      simp only[List.getElem?_map,hx,List.getElem?_eq_getElem hi,Option.map_some,Option.some.injEq] at this;exact this
     exact (xB S (hr i cs[i] y (by simp[hi]) hy) Iz).1
  ·rename_i f nJ _;simp only[Option.map_eq_some_iff] at h;obtain⟨ds,Rj,rfl⟩:=h
   have hm:=jH _ _ Rj
   cases hu with
   | Aj f cs ar hl hr =>
     have hlen:ds.length=nJ.length:=by have:=congrArg List.length hm;simpa using this.symm
     refine .Aj f ds ar (by omega) (fun i x y hx hy=>?_)
     have hi:i<nJ.length:=by have:=(List.getElem?_eq_some_iff.1 hx).1;omega
     have Iz:cM st nJ[i]=some x:=by
      have:=congrArg (·[i]?) hm
      simp only[List.getElem?_map,hx,List.getElem?_eq_getElem hi,Option.map_some,Option.some.injEq] at this;exact this
     exact (xB S (hr i nJ[i] y (by simp[hi]) hy) Iz).1
  ·exact (xB S hu h).1
theorem pL {α β:Type} {p:β→Prop} {f:α→Option β} (hp:∀a b,f a=some b→p b):∀(l:List α) (r:List β),bP (l.map f)=some r→∀b∈r,p b
 | [],r,h=>by simp[bP] at h;subst h;simp
 | a :: l,r,h=>by
   simp only[List.map_cons] at h;cases ha:f a with
   | none=>simp[ha,bP] at h
   | some b =>
     simp only[ha,bP,Option.map_eq_some_iff] at h;obtain⟨r',h',rfl⟩:=h
     intro c hc;rcases List.mem_cons.1 hc with rfl|hc
     ·exact hp _ _ ha
     ·exact pL hp l r' h' c hc
theorem zV {x y:AV} (h:cM st x=some y):Flat y:=by
 unfold cM at h;split at h
 ·rename_i hf;simp only[Option.some.injEq] at h;subst h;exact hf
 ·split at h
  ·split at h
   ·split at h
    ·rename_i hf;simp only[Option.some.injEq] at h;subst h;exact .sl _ _ hf
    ·cases h
   ·cases h
  ·split at h
   ·split at h
    ·rename_i hf;simp only[Option.some.injEq] at h;subst h;exact .sl _ _ fun c hc=>hf.1 c (List.mem_of_mem_drop (List.mem_of_mem_take hc))
    ·cases h
   ·cases h
  ·split at h
   ·simp only[Option.map_eq_some_iff] at h;obtain⟨ds,Rj,rfl⟩:=h
    exact .ip _ _ (pL (fun a b h=>VR h) _ _ Rj)
   ·cases h
  ·cases h
theorem Jf {x y:AV} (h:fU st x=some y):Flat y:=by
 unfold fU at h;split at h
 ·rename_i hf;simp only[Option.some.injEq] at h;subst h;exact hf
 ·split at h
  ·simp only[Option.map_eq_some_iff] at h;obtain⟨ds,Rj,rfl⟩:=h
   exact .agg _ (pL (fun a b h=>zV h) _ _ Rj)
  ·simp only[Option.map_eq_some_iff] at h;obtain⟨ds,Rj,rfl⟩:=h
   exact .Aj _ _ (pL (fun a b h=>zV h) _ _ Rj)
  ·exact zV h
theorem Tg (S:kZ F h0 w0 nt ρ st a w) {x y:AV} {v:Value} (hu:cV (ctx h0 w0 ρ st w) x v) (h:Ck st x=some y):cV (bare (De h0 w0 w)) y v:=by
 unfold Ck at h;split at h
 ·rename_i s g;split at h
  ·rename_i e sz n cs he;simp only[Option.map_eq_some_iff] at h;obtain⟨ds,Rj,rfl⟩:=h
   have hm:=jH _ _ Rj
   obtain⟨_,ho1,xs,ho,hc⟩:=S.sX s g _ he
   cases hu with
   | own s g hg h1 =>
     have hlen:ds.length=cs.length:=by have:=congrArg List.length hm;simpa using this.symm
     refine Ey (fun b o _ hb OU=>⟨OU,fun aZ=>by omega⟩) ho ⟨by rw[hlen];exact hc.len,fun i x y hx hy=>?_,hc.one⟩
     have hi:i<cs.length:=by have:=(List.getElem?_eq_some_iff.1 hx).1;omega
     have Iz:cM st cs[i]=some x:=by
      have:=congrArg (·[i]?) hm
      simp only[List.getElem?_map,hx,List.getElem?_eq_getElem hi,Option.map_some,Option.some.injEq] at this;exact this
     exact (xB S (hc.rel i cs[i] y (by simp[hi]) hy) Iz).1
  ·cases h
 ·exact (xB S hu h).1
theorem OV (S:kZ F h0 w0 nt ρ st a w) {x y:AV} {v:Value} (hu:cV (ctx h0 w0 ρ st w) x v) (h:Ms st x=some y):cV (bare (De h0 w0 w)) y v:=by
 unfold Ms at h;split at h
 ·rename_i cs;simp only[Option.map_eq_some_iff] at h;obtain⟨ds,Rj,rfl⟩:=h
  have hm:=jH _ _ Rj
  cases hu with
  | agg cs ar hl hr h1 =>
    have hlen:ds.length=cs.length:=by have:=congrArg List.length hm;simpa using this.symm
    refine .agg ds ar (by omega) (fun i x y hx hy=>?_) h1
    have hi:i<cs.length:=by have:=(List.getElem?_eq_some_iff.1 hx).1;omega
    have Iz:Ck st cs[i]=some x:=by
     have:=congrArg (·[i]?) hm
     simp only[List.getElem?_map,hx,List.getElem?_eq_getElem hi,Option.map_some,Option.some.injEq] at this;exact this
    exact Tg S (hr i cs[i] y (by simp[hi]) hy) Iz
 ·exact Tg S hu h
theorem OW (S:kZ F h0 w0 nt ρ st a w) {x y:AV} {v:Value} (hu:cV (ctx h0 w0 ρ st w) x v) (h:yY st x=some y):cV (bare (De h0 w0 w)) y v:=by
 unfold yY at h;split at h
 ·rename_i z hz;simp only[Option.some.injEq] at h;subst h;exact Ls S hu hz
 ·exact OV S hu h
theorem Yo {x y:AV} (h:Ck st x=some y):Flat y:=by
 unfold Ck at h;split at h
 ·split at h
  ·simp only[Option.map_eq_some_iff] at h;obtain⟨ds,Rj,rfl⟩:=h
   exact .sl _ _ (pL (fun a b h=>zV h) _ _ Rj)
  ·cases h
 ·exact zV h
theorem VS {x y:AV} (h:yY st x=some y):Flat y:=by
 unfold yY at h;split at h
 ·rename_i z hz;simp only[Option.some.injEq] at h;subst h;exact Jf hz
 ·unfold Ms at h;split at h
  ·simp only[Option.map_eq_some_iff] at h;obtain⟨ds,Rj,rfl⟩:=h
   exact .agg _ (pL (fun a b h=>Yo h) _ _ Rj)
  ·exact Yo h
theorem Dg {x y:AV} (h:fU st x=some y):yY st x=some y:=by unfold yY;rw[h]
theorem VT {x:AV} (h:fU st x=none):yY st x=Ms st x:=by unfold yY;rw[h]
end
end Go.Ab
end
section
namespace Go.Ab
open Classical
def Hs (es:List jI):Prop:=∀e∈es,∃a b n cs,e=.row a b n cs∧∀c∈cs,fJ c
theorem Yp {x:AV} (h:GA x) (d c:Nat):Ri (xZ d c x).1∧Hs (xZ d c x).2:=by
 cases x
 case uniq e sz n cs=>exact⟨.own _ _,fun e he=>by simp[xZ] at he;exact⟨_,_,_,_,he,h⟩⟩
 all_goals exact⟨fJ.aDO h,fun e he=>by simp[xZ] at he⟩
theorem Lt {f:Nat→AV→AV × List jI}:∀(xs:List AV) (c:Nat),(∀x∈xs,∀c,Ri (f c x).1∧Hs (f c x).2)→(∀y∈(pY f c xs).1,Ri y)∧Hs (pY f c xs).2
 | [],c,_=>⟨by simp[pY],fun e he=>by simp[pY] at he⟩
 | x :: xs,c,h=>by
   obtain⟨h1,h2⟩:=h x (by simp) c
   obtain⟨h3,h4⟩:=Lt xs (c+(f c x).2.length) fun y hy=>h y (by simp[hy])
   simp only[pY];refine⟨fun y hy=>?_,fun e he=>?_⟩
   ·rcases List.mem_cons.1 hy with rfl|hy
    ·exact h1
    ·exact h3 y hy
   ·rcases List.mem_append.1 he with he|he
    ·exact h2 e he
    ·exact h4 e he
theorem Yq {x:AV} (h:GB x) (d c:Nat):Ri (Tu d c x).1∧Hs (Tu d c x).2:=by
 cases x
 case agg cs =>
  obtain⟨h1,h2⟩:=Lt (f:=xZ d) cs c fun x hx c=>Yp (h x hx) d c
  exact⟨.agg _ h1,h2⟩
 all_goals
  refine @Yp _ ?_ d c
  exact h
theorem Rk {x:AV} (h:Sq x) (d c:Nat):Ri (SP d c x).1∧Hs (SP d c x).2:=by
 cases x
 case dZ cs =>
  obtain⟨h1,h2⟩:=Lt (f:=Tu d) cs c fun x hx c=>Yq (h x hx) d c
  exact⟨.dZ _ h1,h2⟩
 all_goals
  refine @Yq _ ?_ d c
  exact h
theorem gB.Og {C D:Ctx} {cs:List AV} {ys:List Value} (h:gB C cs ys) (hm:∀c∈cs,fJ c):gB D cs ys :=
 ⟨h.len,fun i x y hx hy=>(h.rel i x y hx hy).Og (hm x (List.mem_of_getElem? hx)),h.one⟩
theorem nK.free {C D:Ctx} {w:World} {b:Nat} {v:Value} {e:jI} (h:nK C w b v e) (hf:∃a s n cs,e=.row a s n cs∧∀c∈cs,fJ c):nK D w b v e:=by
 obtain⟨a,s,n,cs,rfl,hm⟩:=hf
 obtain⟨xs,ho,hc⟩:=h
 exact⟨xs,ho,hc.Og hm⟩
section
variable {P:Program} {h0:Nat→Obj→Prop} {w0:World} {F:Gp} {nt:Nat} {ρ:Nat→Nat→Value} {st:St} {a:Act} {w:World} {K:Act→World→Prop} {Q:Exit→Act→World→Prop}
theorem FO {C D:Ctx} {xs:List AV} {vs:List Value} (h:lP C xs vs) (hf:∀x∈xs,Flat x) (hh:∀b o,C.h b o→D.h b o):lP D xs vs :=
 ⟨h.len,fun i x y hx hy=>(h.rel i x y hx hy).flat (hf x (List.mem_of_getElem? hx)) hh⟩
theorem yH (S:kZ F h0 w0 nt ρ st a w) {H:Nat→Obj→Prop} {w':World} {r:AV} {v:Value} {dst:Option Nat} {e:mT} (hr:OS H w w' r v) (hg:w.grownBy w' none)
 (hH:(∀b o,H b o→(ctx h0 w0 ρ st w).h b o)∨Sq r) (h:iM r st dst=some e) (hd:∀d,dst=some d→d<nt)
 (hK:∀oA a' w',kZ F h0 w0 nt oA (e.apply st) a' w'→K a' w'):K (a.put dst v) w':=by
 obtain⟨vs,v1,v2,v3,v4,v5⟩:=hr
 unfold iM at h;split at h
 ·rename_i hf;simp only[Option.some.injEq] at h;subst h;have hl:=v4 0 0
  rw[Hr hf] at hl;have hvs:vs=[]:=List.length_eq_zero_iff.1 hl.symm
  subst hvs;obtain⟨S',k⟩:=S.grow hg
  refine hK ρ _ _ (S'.put dst hd ?_)
  rcases hH with hH|hH
  ·have:=(v5 (ctx h0 w0 ρ st w') 0 0 (fun b o hb=>by
    by_cases aZ:b<w.heap.size
    ·exact k.h _ _ (hH _ _ (hb.2.1 aZ))
    ·exact⟨hb.1,fun h=>by have:=S.ext.size;omega,fun s g e he=>jX S he (by omega)⟩) (by simp)).1
   rw[Hr hf] at this;exact this
  ·have:=(v5 ⟨newHs H w w' [],ρ,st.aO⟩ 0 0 (fun b o hb=>hb) (by simp)).1
   have hn:=(Rk hH 0 0).1
   rw[Hr hf] at this hn;exact this.aDO hn (fun _=>Nat.le_refl _) (fun _ _ _=>rfl)
 ·cases dst with
  | none=>cases h
  | some d =>
    simp only[Option.some.injEq] at h;subst h;obtain⟨S',k,hh,oZ⟩:=S.news hg d (SP d (st.aO d) r).2 vs (v4 _ _) v1 v3 v2 (fun C kC hC lE i e x hi hx=>by
     rcases hH with hH|hH
     ·exact ((v5 C d (st.aO d) (fun b o hb=>by
       by_cases aZ:b<w.heap.size
       ·exact kC.h _ _ (hH _ _ (hb.2.1 aZ))
       ·exact hC b o (by omega) hb.1 hb.2.2) lE).2 i e x hi hx).base S.ext.size
     ·have:=((v5 ⟨newHs H w w' vs,C.ρ,C.aO⟩ d (st.aO d) (fun b o hb=>hb) lE).2 i e x hi hx).base S.ext.size
      exact this.free ((Rk hH d (st.aO d)).2 e (List.mem_of_getElem? hi)))
    refine hK _ _ _ (S'.put (some d) hd ?_)
    rcases hH with hH|hH
    ·exact (v5 (ctx h0 w0 (Fl ρ d (st.aO d) vs) (st.news d (SP d (st.aO d) r).2) w') d (st.aO d) (fun b o hb=>by
      by_cases aZ:b<w.heap.size
      ·exact k.h _ _ (hH _ _ (hb.2.1 aZ))
      ·exact hh b o (by omega) hb.1 hb.2.2) oZ).1
    ·have:=(v5 ⟨newHs H w w' vs,Fl ρ d (st.aO d) vs,(st.news d (SP d (st.aO d) r).2).aO⟩ d (st.aO d) (fun b o hb=>hb) oZ).1
     exact this.aDO (Rk hH d (st.aO d)).1 (fun _=>Nat.le_refl _) (fun _ _ _=>rfl)
theorem Yr {P:Program} {g:Nat} {args:List AV} {r:AV} (h:Ho P g args r) (hn:∀x∈args,Flat x):HS P g args r:=by
 unfold Ho at h;split at h
 ·rename_i e sz n cs rest;have:=hn _ (List.mem_cons_self ..)
  cases this
 ·exact h
theorem Ez (S:kZ F h0 w0 nt ρ st a w) {call:Nat→List AV→Option AV} (kO:rM P call) {g:Nat} {args:List AV} {vs:Array Value} {dst:Option Nat} {e:mT}
 (h:aN call g args st dst=some e) (gA:lP (ctx h0 w0 ρ st w) args vs.toList) (hd:∀d,dst=some d→d<nt)
 (hK:∀oA a' w',kZ F h0 w0 nt oA (e.apply st) a' w'→K a' w') :
 Hq P g∧Calls P g vs w fun en w'=>∃v,en=.returned v∧K (a.put dst v) w':=by
 unfold aN at h;split at h
 ·rename_i hf;cases hc:call g args with
  | none=>simp[hc,cC] at h
  | some r =>
    obtain⟨hen,hs⟩:=kO g args r hc
    refine⟨hen, ?_⟩
    simp only[hc,cC] at h;refine ((Yr hs hf) w (ctx h0 w0 ρ st w).h vs (fun b o hb=>hb.1) (FO gA hf fun b o hb=>hb)).mono ?_
    rintro en w' ⟨v,rfl,hr,hg⟩
    exact⟨v,rfl,yH S hr hg (.inl fun b o hb=>hb) h hd hK⟩
 ·split at h
  ·rename_i xs HY;cases hc:call g xs with
   | none=>simp[hc,cC] at h
   | some r =>
     obtain⟨hen,hs⟩:=kO g xs r hc
     refine⟨hen, ?_⟩
     simp only[hc,cC] at h;split at h
     ·rename_i hm;have hmm:=jH _ _ HY
      have SU:∀x∈xs,Flat x:=pL (fun a b h=>Jf h) _ _ HY
      have hlen:xs.length=args.length:=by have:=congrArg List.length hmm;simpa using this.symm
      have Oi:lP (bare (De h0 w0 w)) xs vs.toList:=⟨by rw[hlen];exact gA.len,fun i x y hx hy=>by
       have hi:i<args.length:=by have:=(List.getElem?_eq_some_iff.1 hx).1;omega
       have Iz:fU st args[i]=some x:=by
        have:=congrArg (·[i]?) hmm
        simp only[List.getElem?_map,hx,List.getElem?_eq_getElem hi,Option.map_some,Option.some.injEq] at this;exact this
       exact Ls S (gA.rel i args[i] y (by simp[hi]) hy) Iz⟩
      refine ((Yr hs SU) w (De h0 w0 w) vs (fun b o hb=>hb.1) Oi).mono ?_
      rintro en w' ⟨v,rfl,hr,hg⟩
      exact⟨v,rfl,yH S hr hg (.inr hm) h hd hK⟩
     ·cases h
  ·cases h
theorem kZ.drop (S:kZ F h0 w0 nt ρ st a w) (s k:Nat):kZ F h0 w0 nt ρ (st.iH s k none) a w∧(ctx h0 w0 ρ st w).Le (ctx h0 w0 ρ (st.iH s k none) w):=by
 have hs:∀s' g' e,(st.iH s k none).heap s' g'=some e→st.heap s' g'=some e:=fun s' g' e h=>by
  simp only[St.iH] at h;split at h
  ·cases h
  ·exact h
 have kk:(ctx h0 w0 ρ st w).Le (ctx h0 w0 ρ (st.iH s k none) w):=⟨fun b o hb=>⟨hb.1,hb.2.1,fun s' g' e he=>hb.2.2 s' g' e (hs s' g' e he)⟩,fun _=>Nat.le_refl _,fun _ _ _=>rfl⟩
 exact⟨⟨fun t=>(S.env t).le kk,fun s' g' e he=>⟨(S.sX s' g' e (hs s' g' e he)).1,(S.sX s' g' e (hs s' g' e he)).2.1,nK.world (r:=none) (S.sX s' g' e (hs s' g' e he)).2.2 kk ⟨rfl,rfl,rfl,Nat.le_refl _,fun _ _ _=>rfl⟩ (by cases dF (ρ s' g')<;>simp)⟩,
  fun s1 g1 s2 g2 e1 e2 b h1 h2=>S.inj s1 g1 s2 g2 e1 e2 b (hs _ _ _ h1) (hs _ _ _ h2),S.ext,S.size,S.defers,⟨fun x v h=>(S.Mn.1 x v h).le kk,fun b o h=>kk.h b o (S.Mn.2.1 b o h),S.Mn.2.2⟩⟩,kk⟩
theorem aN3 (S:kZ F h0 w0 nt ρ st a w) {s k:Nat} {c y:AV} {v:Value} (hc:Flat c∨c=.own s k) (hu:cV (ctx h0 w0 ρ st w) c v) (h:cM st c=some y):cV (bare (ctx h0 w0 ρ (st.iH s k none) w).h) y v∧(v.oneCell'=true∨y=c):=by
 have kk:=(S.drop s k).2
 rcases hc with hf|rfl
 ·unfold cM at h;rw[if_pos hf] at h;simp only[Option.some.injEq] at h;subst h;exact⟨hu.flat hf kk.h,.inr rfl⟩
 ·unfold cM at h;rw[if_neg (by intro h;cases h)] at h
  simp only at h
  split at h
  ·rename_i e sz n cs he;split at h
   ·rename_i hf;simp only[Option.some.injEq] at h;subst h;obtain⟨_,ho1,xs,ho,hc⟩:=S.sX s k _ he
    cases hu with
    | own s g hg h1 =>
      refine⟨Ey (fun b o hv hb OU=>⟨OU,fun aZ=>by omega,fun s' g' e' Ai xG=>?_⟩) ho (hc.flat hf kk.h),.inl h1⟩
      simp only[St.iH] at Ai
      split at Ai
      ·cases Ai
      ·rename_i gT;have:=S.inj s' g' s k e' _ b Ai he xG hv
       exact gT this
   ·cases h
  ·cases h
theorem aAx (S:kZ F h0 w0 nt ρ st a w) {s k:Nat} {x y:AV} {v:Value} (hx:LD x) (hk:∀p∈iW x,p=(s,k)) (hu:cV (ctx h0 w0 ρ st w) x v) (h:fU st x=some y):cV (bare (ctx h0 w0 ρ (st.iH s k none) w).h) y v:=by
 have kk:=(S.drop s k).2
 by_cases hf:Flat x
 ·unfold fU at h;rw[if_pos hf] at h;simp only[Option.some.injEq] at h;subst h;exact hu.flat hf kk.h
 ·rcases hx with hx|⟨s',k',rfl⟩|⟨cs,rfl,HX⟩
  ·exact absurd hx hf
  ·have:=hk (s',k') (by simp[iW,gF])
   simp only[Prod.mk.injEq] at this;obtain⟨rfl,rfl⟩:=this
   unfold fU at h;rw[if_neg hf] at h;exact (aN3 S (.inr rfl) hu h).1
  ·have hc:∀c∈cs,Flat c∨c=.own s k:=fun c hc=>by
    rcases HX c hc with h|⟨s',k',rfl⟩
    ·exact .inl h
    ·have:=hk (s',k') (by simp only[iW];exact List.mem_flatMap.2 ⟨_,hc,by simp[gF]⟩)
     simp only[Prod.mk.injEq] at this;obtain⟨rfl,rfl⟩:=this
     exact .inr rfl
   unfold fU at h;rw[if_neg hf] at h;simp only[Option.map_eq_some_iff] at h;obtain⟨ys,Ug,rfl⟩:=h
   have hmm:=jH _ _ Ug
   have hlen:ys.length=cs.length:=by have:=congrArg List.length hmm;simpa using this.symm
   cases hu with
   | agg _ arr hl hr h1 =>
     refine .agg ys arr (by omega) (fun i y z hy hz=>?_) h1
     have hi:i<cs.length:=by have:=(List.getElem?_eq_some_iff.1 hy).1;omega
     have Iz:cM st cs[i]=some y:=by
      have:=congrArg (·[i]?) hmm
      simp only[List.getElem?_map,hy,List.getElem?_eq_getElem hi,Option.map_some,Option.some.injEq] at this;exact this
     exact (aN3 S (hc _ (List.getElem_mem hi)) (hr i cs[i] z (by simp[hi]) hz) Iz).1
theorem Oj {r:AV} {dst:Option Nat} {s k:Nat} {e:mT} (h:yX r st dst s k=some e) :
 (Flat r∧e={ dst:=dst,val:=r,dM:=some (s,k,none)}) ∨
 (¬Flat r∧∃e1 sz n cs d,r=.uniq e1 sz n cs∧dst=some d∧(∀c∈cs,fJ c)∧e={ dst:=some d,val:=.own d (st.aO d),dM:=some (s,k,none),new:=some (d,[.row e1 sz n cs])}):=by
 unfold yX at h;split at h
 ·rename_i hf;simp only[Option.some.injEq] at h;exact .inl ⟨hf,h.symm⟩
 ·rename_i hf;split at h
  ·rename_i e1 sz n cs d;split at h
   ·rename_i hc;simp only[Option.some.injEq] at h;exact .inr ⟨hf,e1,sz,n,cs,d,rfl,rfl,hc,h.symm⟩
   ·cases h
  ·cases h
theorem BY (S:kZ F h0 w0 nt ρ st a w) {call:Nat→List AV→Option AV} (kO:rM P call) {g:Nat} {args:List AV} {vs:Array Value} {dst:Option Nat} {e:mT}
 (h:fC call g args st dst=some e) (gA:lP (ctx h0 w0 ρ st w) args vs.toList) (hd:∀d,dst=some d→d<nt)
 (hK:∀oA a' w',kZ F h0 w0 nt oA (e.apply st) a' w'→K a' w') :
 Hq P g∧Calls P g vs w fun en w'=>∃v,en=.returned v∧K (a.put dst v) w':=by
 unfold fC at h;split at h
 ·rename_i s k Od;split at h
  ·rename_i sK;split at h
   ·rename_i xs HY;cases hc:call g xs with
    | none=>simp[hc,cC] at h
    | some r =>
      obtain⟨hen,hs⟩:=kO g xs r hc
      refine⟨hen, ?_⟩
      simp only[hc,cC] at h;have h:=Oj h
      have hmm:=jH _ _ HY
      have SU:∀x∈xs,Flat x:=pL (fun a b h=>Jf h) _ _ HY
      have hlen:xs.length=args.length:=by have:=congrArg List.length hmm;simpa using this.symm
      obtain⟨S1,kk⟩:=S.drop s k
      have Oi:lP (bare (ctx h0 w0 ρ (st.iH s k none) w).h) xs vs.toList:=⟨by rw[hlen];exact gA.len,fun i x y hx hy=>by
       have hi:i<args.length:=by have:=(List.getElem?_eq_some_iff.1 hx).1;omega
       have Iz:fU st args[i]=some x:=by
        have:=congrArg (·[i]?) hmm
        simp only[List.getElem?_map,hx,List.getElem?_eq_getElem hi,Option.map_some,Option.some.injEq] at this;exact this
       refine aAx S (sK _ (List.getElem_mem hi)) (fun p hp=>?_) (gA.rel i args[i] y (by simp[hi]) hy) Iz
       have:p∈args.flatMap iW:=List.mem_flatMap.2 ⟨_,List.getElem_mem hi,hp⟩
       rw[Od] at this;simpa using this⟩
      refine ((Yr hs SU) w (ctx h0 w0 ρ (st.iH s k none) w).h vs (fun b o hb=>hb.1) Oi).mono ?_
      rintro en w' ⟨v,rfl,hr,hg⟩
      rcases h with ⟨YU,rfl⟩|⟨YU,e1,sz,n,cs,d,rfl,rfl,HX,rfl⟩
      ·refine⟨v,rfl,yH (e:={ dst:=dst,val:=r }) S1 hr hg (.inl fun b o hb=>hb) ?_ hd (fun oA a' w2 hS=>hK oA a' w2 hS)⟩
       unfold iM;rw[if_pos YU]
      ·refine⟨v,rfl,yH (e:={ dst:=some d,val:=.own d (st.aO d),new:=some (d,[.row e1 sz n cs])}) S1 hr hg (.inr HX) ?_ hd (fun oA a' w2 hS=>hK oA a' w2 hS)⟩
       unfold iM;rw[if_neg YU];rfl
   ·cases h
  ·cases h
 ·exact Ez S kO h gA hd hK
theorem HZ (S:kZ F h0 w0 nt ρ st a w) {call:Nat→List AV→Option AV} (kO:rM P call) {g:Nat} {args:List AV} {vs:Array Value} {dst:Option Nat} {e:mT}
 (h:jV call g args st dst=some e) (gA:lP (ctx h0 w0 ρ st w) args vs.toList) (hd:∀d,dst=some d→d<nt)
 (hK:∀oA a' w',kZ F h0 w0 nt oA (e.apply st) a' w'→K a' w') :
 Hq P g∧Calls P g vs w fun en w'=>∃v,en=.returned v∧K (a.put dst v) w':=by
 unfold jV at h;split at h
 ·rename_i s k rest;split at h
  ·rename_i e0 sz n cs he;split at h
   ·rename_i HX;obtain⟨HX,YU⟩:=HX
    have hvs:∃v0 vr,vs=#[v0]++vr∧cV (ctx h0 w0 ρ st w) (.own s k) v0∧lP (ctx h0 w0 ρ st w) rest vr.toList:=by
     have hl:=gA.len
     cases hv:vs.toList with
     | nil=>rw[hv] at hl;simp at hl
     | cons v0 vr =>
       rw[hv] at gA;refine⟨v0,vr.toArray, ?_,gA.head,by simpa using gA.tail⟩
       apply Array.ext'
       rw[hv];simp
    obtain⟨v0,vr,rfl,hv0,hrest⟩:=hvs
    have hv0':v0=ρ s k:=by cases hv0;rfl
    subst hv0'
    obtain⟨hk1,hk2,ys,ho,oS⟩:=S.sX s k _ he
    have run:∀r,call g (.uniq e0 sz n cs :: rest)=some r→Hq P g ∧
     Calls P g (#[ρ s k]++vr) w fun en w'=>∃v,en=.returned v∧w.grownBy w' (dF (ρ s k)) ∧
      match r with
      | .uniq e' sL n' Ar=>∃zs,oC w' 0 e' sL v n' zs∧gB (bare (ctx h0 w0 ρ st w).h) Ar zs∧∀b,dF v=some b→dF (ρ s k)=some b∨w.heap.size≤b
      | .dZ [.uniq e' sL n' Ar]=>v=.tuple #[]∧∃zs,oC w' 0 e' sL (ρ s k) n' zs∧gB (bare (ctx h0 w0 ρ st w).h) Ar zs
      | _=>False:=by
     intro r hr;obtain⟨hen,hs⟩:=kO _ _ _ hr
     refine⟨hen, ?_⟩
     have hs:VQ P g e0 sz n cs rest r:=hs
     exact hs w (ctx h0 w0 ρ st w).h (ρ s k) ys vr (fun b o hb=>hb.1) (fun b o hb=>hb.2.2 s k _ he) (zB ho (Nat.zero_le _)) (oS.flat HX fun b o hb=>hb) (FO hrest YU fun b o hb=>hb)
    have bareLe:∀C:Ctx,(ctx h0 w0 ρ st w).Le C→(bare (ctx h0 w0 ρ st w).h).Le C:=fun C kC=>⟨kC.h,fun _=>Nat.zero_le _,fun _ _ h=>absurd h (by simp[bare])⟩
    have xA:∀b,dF (ρ s k)=some b→w0.heap.size≤b:=fun b hb=>(Cl ho b hb).1
    split at h
    ·rename_i e' sL n' Ar hr
     obtain⟨hen,hc⟩:=run _ hr
     refine⟨hen,hc.mono ?_⟩
     rintro en w' ⟨v,rfl,hg,zs,hz,hzc,hzb⟩
     cases dst with
     | none=>cases h
     | some d =>
       simp only[Option.some.injEq] at h;subst h;refine⟨v,rfl, ?_⟩
       obtain⟨S',kk,oZ⟩:=S.O6 he hg d (.row e' sL n' Ar) v (tP hz) hzb (fun C kC=>⟨zs,Oh hz (fun b hb=>by
        rcases hzb b hb with h|h
        ·exact xA b h
        ·have:=S.ext.size;omega),hzc.le (bareLe C kC)⟩)
       have happ:mT.apply { dst:=some d,val:=.own d (st.aO d),dM:=some (s,k,none),new:=some (d,[.row e' sL n' Ar])} st=((st.iH s k none).new d (.row e' sL n' Ar)).put (some d) (.own d (st.aO d)):=by
        simp only[mT.apply,Wc]
       have aZ:st.aO d<(ctx h0 w0 (uC ρ d (st.aO d) v) ((st.iH s k none).new d (.row e' sL n' Ar)) w').aO d:=by simp[ctx,St.new,St.iH]
       have lE:(ctx h0 w0 (uC ρ d (st.aO d) v) ((st.iH s k none).new d (.row e' sL n' Ar)) w').ρ d (st.aO d)=v:=oZ
       have:=cV.own (C:=ctx h0 w0 (uC ρ d (st.aO d) v) ((st.iH s k none).new d (.row e' sL n' Ar)) w') d (st.aO d) aZ (by rw[lE];exact tP hz)
       rw[lE] at this;have hS:=S'.put (some d) hd this
       rw[← happ] at hS;exact hK _ _ _ hS
    ·rename_i e' sL n' Ar hr
     obtain⟨hen,hc⟩:=run _ hr
     refine⟨hen,hc.mono ?_⟩
     rintro en w' ⟨v,rfl,hg,rfl,zs,hz,hzc⟩
     simp only[Option.some.injEq] at h;subst h;have S':=S.O5 (e':=.row e' sL n' Ar) he hg (fun C kC=>⟨zs,Oh hz xA,hzc.le (bareLe C kC)⟩)
     exact⟨_,rfl,hK ρ _ _ (S'.put dst hd (.dZ [] #[] rfl (by simp)))⟩
    ·cases h
   ·cases h
  ·cases h
 ·split at h
  ·exact Ez S kO h gA hd hK
  ·cases h
end
end Go.Ab
end
section
namespace Go.Ab
open Classical
section
variable {P:Program} {h0:Nat→Obj→Prop} {w0:World} {F:Gp} {nt:Nat} {ρ:Nat→Nat→Value} {st:St} {a:Act} {w:World} {K:Act→World→Prop} {Q:Exit→Act→World→Prop}
theorem upon_value {o:Oper} {v:Value} {w':World} (h:(execOp a.eval o).run P w=.ok (.value v) w') (hk:K (a.put o.dst v) w'):o.wp P a w K Q:=by
 unfold Oper.wp;rw[h];exact hk
theorem kZ.newVar (S:kZ F h0 w0 nt ρ st a w) (d:Nat) (hd:d<nt) (cs:List AV) (arr:Array Value) (T:Nat) (hc:gB (ctx h0 w0 ρ st w) cs arr.toList) :
 ∃oA,kZ F h0 w0 nt oA ((st.new d (.cells cs)).put (some d) (.ptr d (st.aO d) 0)) (a.put (some d) (.pointer (some ⟨w.heap.size,0,none⟩))) (w.alloc (.cells arr T)):=by
 obtain⟨S',k,oZ⟩:=S.new (World.grownBy_alloc w (.cells arr T) none) d (.cells cs) (.pointer (some ⟨w.heap.size,0,none⟩)) rfl (fun b hb=>by simp[dF] at hb;omega)
  (fun C k _=>⟨w.heap.size,arr,T,rfl,S.ext.size,heap_alloc_new w _,hc.le k⟩)
 exact⟨_,S'.put (some d) (fun t ht=>by cases ht;exact hd) (.ptr d (st.aO d) 0 w.heap.size (by simp[ctx,St.new]) (by show dF (uC _ _ _ _ _ _)=_;rw[oZ];rfl))⟩
theorem kZ.newRow (S:kZ F h0 w0 nt ρ st a w) (d:Nat) (hd:d<nt) {w':World} (hg:w.grownBy w' none) (e sz n:Nat) (cs:List AV) (xs:List Value) (v:Value) (ho:oC w' w.heap.size e sz v n xs) (hc:gB (ctx h0 w0 ρ st w) cs xs) :
 ∃oA,kZ F h0 w0 nt oA ((st.new d (.row e sz n cs)).put (some d) (.own d (st.aO d))) (a.put (some d) v) w':=by
 obtain⟨S',k,oZ⟩:=S.new hg d (.row e sz n cs) v (tP ho) (fun b hb=>(Cl ho b hb).1) (fun C k _=>⟨xs,zB ho S.ext.size,hc.le k⟩)
 refine⟨_,S'.put (some d) (fun t ht=>by cases ht;exact hd) ?_⟩
 have aZ:st.aO d<(ctx h0 w0 (uC ρ d (st.aO d) v) (st.new d (.row e sz n cs)) w').aO d:=by simp[ctx,St.new]
 have lE:(ctx h0 w0 (uC ρ d (st.aO d) v) (st.new d (.row e sz n cs)) w').ρ d (st.aO d)=v:=oZ
 have:=cV.own (C:=ctx h0 w0 (uC ρ d (st.aO d) v) (st.new d (.row e sz n cs)) w') d (st.aO d) aZ (by rw[lE];exact tP ho)
 rw[lE] at this;exact this
theorem Ht (z:Array Value) (n:Nat):((Array.range (n * z.size)).map (z[· % z.size]!)).toList=(List.range n).flatMap fun _=>z.toList:=by
 rw[Array.toList_map];have:(Array.range (n * z.size)).toList=List.range (n * z.size):=by simp
 rw[this];clear this
 induction n with
 | zero=>simp
 | succ n ih =>
   rw[Nat.succ_mul,List.range_add,List.map_append,ih,List.range_succ,List.flatMap_append];congr 1
   simp only[List.flatMap_cons,List.flatMap_nil,List.append_nil,List.map_map];apply List.ext_getElem?
   intro i;by_cases hi:i<z.size
   ·simp[hi,Nat.mod_eq_of_lt hi,Nat.mul_comm n z.size]
   ·simp[hi]
theorem Jg {C:Ctx} {z:List Value} (h1:∀y∈z,y.oneCell'=true) (n:Nat):gB C ((List.range n).flatMap fun _=>z.map .v) ((List.range n).flatMap fun _=>z):=by
 generalize List.range n=l
 induction l with
 | nil=>exact .nil C
 | cons x l ih=>simp only[List.flatMap_cons];exact (gB.vs C z h1).app ih
theorem Rl (S:kZ F h0 w0 nt ρ st a w) {T n e sz by_:Nat} {parts:Array (Nat × Operand)} {z:List Value} {cs:List AV} (hs:dN P T=some (e,sz,by_)) (hz:dX P e=some z)
 (hn:0<n∨parts=#[]) (hlim:n * sz≤2 ^ 24) (uW:(parts.toList.all fun p=>(st.ev p.2).jR)=true)
 (hf:gN (fun i=>some (i * sz,sz)) ((List.range n).flatMap fun _=>z.map .v) (parts.toList.map fun p=>(p.1,st.ev p.2))=some cs) :
 ∃v w' xs,(Instr.buildSlice T n (parts.map fun (i,x)=>(i,a.eval x))).run P w=.ok v w'∧w.grownBy w' none∧oC w' w.heap.size e sz v n xs∧gB (ctx h0 w0 ρ st w) cs xs:=by
 obtain⟨ei,ez,hT,Bu,BL,rfl,BE,rfl,Ec⟩:=kF hs
 obtain⟨i',zv,Cn,LM,rfl,O8⟩:=zD hz
 rw[Bu] at Cn
 cases Cn
 rw[BL] at LM;cases LM
 rcases Nat.eq_zero_or_pos n with h0'|hn
 ·subst h0'
  have hp:parts=#[]:=by
   rcases hn with h|h
   ·omega
   ·exact h
  subst hp;simp[gN] at hf
  subst hf;refine⟨.slice (some ⟨w.heap.size,0,none⟩) 0 0,w.alloc (.cells #[] e),[], ?_,World.grownBy_alloc w _ none,⟨by simp,.inl ⟨_,rfl,rfl⟩⟩,.nil _⟩
  simp[Instr.buildSlice,run_underlying hT,sizeOf,typeInfo,zeroValue,Bu,Instr.fill,newRow]
  rw[show Array.map (fun x=>(default:Value)) (Array.range 0)=#[] from by simp[Array.range]]
 have gA:lP (ctx h0 w0 ρ st w) ((parts.toList.map fun p=>(p.1,st.ev p.2)).map (·.2)) ((parts.toList.map fun p=>(p.1,a.eval p.2)).map (·.2)):=by
  simp only[List.map_map];exact lP.map _ _ _ fun p _=>S.ev p.2
 have hnz:¬n * ei.size=0:=by
  have:=Nat.mul_pos hn Ec
  omega
 have VU:((Array.range (n * ei.size)).map (ez.cells[· % ez.cells.size]!)).toList=(List.range n).flatMap fun _=>ez.cells.toList:=by
  rw[← BE];exact Ht ez.cells n
 obtain⟨cells,LN,oS⟩:=Kw (place:=fun i=>some (i * ei.size,ei.size)) (parts.toList.map fun p=>(p.1,st.ev p.2)) (parts.toList.map fun p=>(p.1,a.eval p.2)) _ ((Array.range (n * ei.size)).map (ez.cells[· % ez.cells.size]!)) cs (by simp) gA
  (fun p hp'=>by
   obtain⟨q,hq,rfl⟩:=List.mem_map.1 hp'
   exact List.all_eq_true.1 uW q hq) (by rw[VU];exact Jg O8 n) hf
 have hr:=run_buildSlice (P:=P) w T e n (parts.map fun (i,x)=>(i,a.eval x)) cells ei ez hT Bu BL (by omega) hnz (by simpa using LN)
 have hsz:cells.size=n * ei.size:=by
  have hlen:∀(place:Nat→Option (Nat × Nat)) (ps:List (Nat × AV)) (c out:List AV),gN place c ps=some out→out.length=c.length:=by
   intro place ps;induction ps with
   | nil=>intro c out h;simp[gN] at h;rw[h]
   | cons p ps ih =>
     intro c out h;obtain⟨i,x⟩:=p
     unfold gN at h;split at h
     ·cases h
     ·split at h
      ·rename_i hc;have:=ih _ _ h
       rw[this];simp
       omega
      ·cases h
  have h1:=hlen _ _ _ _ hf
  have h2:=oS.len
  have h3:=(Jg (C:=ctx h0 w0 ρ st w) O8 n).len
  rw[← VU] at h3;simp only[Array.length_toList,Array.size_map,Array.size_range] at h2 h3;omega
 refine⟨_,_,cells.toList,hr,World.grownBy_alloc w _ none,Gn ?_,oS⟩
 refine⟨by simp[hsz],.inr ⟨w.heap.size,n,cells,rfl,Nat.le_refl _,heap_alloc_new w _,Nat.le_refl _, ?_,hsz, ?_⟩⟩
 ·have:n≤n * ei.size:=Nat.le_mul_of_pos_right n Ec
  simp only[maxLen];omega
 ·rw[← hsz,← Array.length_toList,List.take_length]
theorem Uh (C:Ctx) {T e sz by_:Nat} {z:List Value} {n:Nat} (hs:dN P T=some (e,sz,by_)) (hz:dX P e=some z)
 (hb:n * by_≤140737488355328) (hm:n≤maxLen) :
 ∃v w' xs,(Instr.makeSlice T (.int .i64 n) (.int .i64 n)).run P w=.ok v w'∧w.grownBy w' none∧oC w' w.heap.size e sz v n xs∧gB C ((List.range n).flatMap fun _=>z.map .v) xs:=by
 obtain⟨ei,ez,hT,Bu,BL,rfl,BE,rfl,Ec⟩:=kF hs
 obtain⟨i',zv,Cn,LM,rfl,O8⟩:=zD hz
 rw[Bu] at Cn
 cases Cn
 rw[BL] at LM;cases LM
 obtain⟨w',hr,ho,hg⟩:=run_make_full (P:=P) w w.heap.size T e ei ez ei.size hT Bu BL rfl .i64 .i64 n (by rw[Nat.mul_comm];omega) hm (Nat.le_refl _)
 have VU:(madeCells ez.cells (n * ei.size)).toList=(List.range n).flatMap fun _=>ez.cells.toList:=by
  unfold madeCells;rw[← BE];exact Ht ez.cells n
 exact⟨_,w',_,hr,hg,Gn ho,by rw[VU];exact Jg O8 n⟩
theorem OX (S:kZ F h0 w0 nt ρ st a w) {T:Nat} {x y:AV} {s g:Nat} {e:jI} {u v:Value} (h:pX P st T x y=some (s,g,e)) (hu:cV (ctx h0 w0 ρ st w) x u) (hv:cV (ctx h0 w0 ρ st w) y v) :
 ∃w',(Instr.storeAt T u v).run P w=.ok () w'∧kZ F h0 w0 nt ρ (st.iH s g (some e)) a w':=by
 unfold pX at h;split at h
 ·rename_i s' g' off
  split at h
  ·rename_i ba k hld;split at h
   ·rename_i hc;obtain⟨c1,c2⟩:=hc
    obtain⟨i,d,hi,hd,lA,rfl⟩:=At hld
    have IA:=hv.cells c2
    have hlen:=IA.len
    simp only[Array.length_toList] at hlen;cases hu with
    | ptr _ _ _ b hg hb =>
      have nX:dF (ρ s' g')=some b:=hb
      have main:∀(arr:Array Value) (B:Nat),w.heap[b]? = some (.cells arr B (0,0))→off+i.size≤arr.size →
       (Instr.storeAt T (.pointer (some ⟨b,off,none⟩)) v).run P w=.ok () (w.setRow b (arr.toList.take off++v.cells.toList++arr.toList.drop (off+i.size)).toArray):=by
       intro arr B hh hle;have uW:=run_storeCells_at P b off B v.cells.toList 0 arr w hh (by simp;omega) (fun y hy=>by
        obtain⟨j,hj,rfl⟩:=List.getElem_of_mem hy
        exact IA.one j _ (by simp))
       simp only[Nat.add_zero,Array.length_toList] at uW;simp only[Instr.storeAt,Instr.sureAddr];rw[dJ (Sem.run_pure P w _)];simp only[storeVar,dJ (run_sizeOf w hi)];rw[if_neg (by omega),show off+i.size=off+v.cells.size by omega]
       exact uW
      have grown:∀(cs:Array Value),w.grownBy (w.setRow b cs) (some b):=fun cs=>⟨rfl,rfl,rfl,by simp,fun k _ hk=>setRow_other w b k cs (fun e=>hk (by rw[e]))⟩
      cases he:st.heap s' g' with
      | none=>simp[he] at h
      | some e' =>
        obtain⟨_,_,her⟩:=S.sX s' g' _ he
        cases e' with
        | cells cs =>
          simp only[he] at h;split at h
          ·rename_i hle;simp only[Option.some.injEq,Prod.mk.injEq] at h;obtain⟨rfl,rfl,rfl⟩:=h
           obtain⟨b',arr,B,lE,xA,hh,hc⟩:=her
           have xG:b'=b:=by rw[lE] at nX;simpa [dF] using nX
           subst xG;have hl:=hc.len
           simp only[Array.length_toList] at hl;refine⟨_,main arr B hh (by omega),S.store he nX (grown _) fun C k=>⟨b',_,B,lE,xA,setRow_heap w b' arr _ B (0,0) hh, ?_⟩⟩
           exact (((hc.take off).app IA).app (hc.drop _)).le k
          ·cases h
        | row e2 sz n cs =>
          simp only[he] at h;split at h
          ·rename_i hle;simp only[Option.some.injEq,Prod.mk.injEq] at h;obtain⟨rfl,rfl,rfl⟩:=h
           obtain⟨xs,ho,hc⟩:=her
           have ho':=ho
           rcases ho.2 with ⟨p,lE,_⟩|⟨b',cap,cur,lE,xA,hh,Uf,F7,HX,ht,qS⟩
           ·rw[lE,pV] at nX;cases nX
           ·have xG:b'=b:=by rw[lE,kK qS] at nX;simpa using nX
            subst xG;have hl:=hc.len
            have hx:=ho.1
            have hle2:n * sz≤cap * sz:=Nat.mul_le_mul_right _ Uf
            refine⟨_,main cur e2 hh (by omega),S.store he nX (grown _) fun C k=>⟨xs.take off++v.cells.toList++xs.drop (off+i.size), ?_,(((hc.take off).app IA).app (hc.drop _)).le k⟩⟩
            refine⟨by simp;omega,.inr ⟨b',cap,_,lE,xA,setRow_heap w b' cur _ e2 (0,0) hh,Uf,F7,by simp;omega, ?_,qS⟩⟩
            simp only
            rw[← ht];have Bv:cur.toList.length=cur.size:=rfl
            have hvl:v.cells.toList.length=v.cells.size:=rfl
            have l1:(cur.toList.take off++v.cells.toList).length=off+i.size:=by simp;omega
            rw[List.take_append,l1,List.take_of_length_le (by omega),List.drop_take,List.take_take,Nat.min_eq_left (by omega)]
          ·cases h
        | map es=>simp[he] at h
   ·cases h
  ·cases h
 ·cases h
end
end Go.Ab
end
