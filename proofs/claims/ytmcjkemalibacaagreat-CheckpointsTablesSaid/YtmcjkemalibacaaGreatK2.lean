/-
  Part 2 of the proof: an evaluator of programs, its soundness, and what functions of this program compute.
-/
import Derived.Test.YtmcjkemalibacaaGreatK1
import Derived.MapKept
set_option linter.all false
set_option maxRecDepth 20000
set_option maxHeartbeats 40000000
section
namespace Go.Ab
open Classical
section
variable {P:Program}
noncomputable def xW (x:Value):List MapEntry→Nat→Option (Nat × Value)
 | [],_=>none
 | e :: r,i=>if x=e.key then some (i,e.val) else xW x r (i+1)
theorem mk_inj {agg:Bool} {l:List Bool} {us vs:List Value} (h:gD l us vs) (ha:agg=false→l.length=1):mk agg us=mk agg vs↔us=vs:=by
 cases agg with
 | true=>simp[mk]
 | false =>
   have h1:=ha rfl
   obtain⟨e1,e2⟩:=lP _ _ _ h
   obtain⟨a,rfl⟩:=List.length_eq_one_iff.1 (e1.trans h1)
   obtain⟨b,rfl⟩:=List.length_eq_one_iff.1 (e2.trans h1)
   simp[mk]
theorem Ub (w:World) {k:Nat} {l:List Bool} {us vs:List Value} (hl:eW P 20 k=some l) (h:gD l us vs) :
 (Op.equal k (mk (dF P k) us) (mk (dF P k) vs)).run P w=.ok (decide (mk (dF P k) us=mk (dF P k) vs)) w:=by
 have:=Bx (P:=P) 20 10000 (by omega) w k l hl us vs h
 unfold Op.equal Op.maxDepth;rw[this];congr 1
 rw[Bool.eq_iff_iff];simp[mk_inj h (oE 20 k l hl)]
def X6 (P:Program) (k:Nat) (l:List Bool) (us:List Value) (es:List MapEntry):Prop:=∀e∈es,∃vs,e.key=mk (dF P k) vs∧gD l us vs
theorem Hq (w:World) {k:Nat} {l:List Bool} {us:List Value} (hl:eW P 20 k=some l):∀(es:List MapEntry) (i:Nat),X6 P k l us es →
 (Instr.findAsking k (mk (dF P k) us) es i).run P w=.ok (xW (mk (dF P k) us) es i) w
 | [],i,_=>by simp[Instr.findAsking,xW]
 | e :: es,i,h=>by
   obtain⟨vs,hk,hv⟩:=h e (by simp)
   have ih:=Hq w hl es (i+1) (fun x hx=>h x (by simp[hx]))
   have he:=Ub w hl hv
   simp only[Instr.findAsking,hk,Sem.run_bind,he,Result.andThen_ok,xW];by_cases hq:mk (dF P k) us=mk (dF P k) vs
   ·simp[hq]
   ·simp[hq,ih]
theorem Tf {q k0:IntKind} {a:Int}:∀(es:List MapEntry) (i:Nat),(∀e∈es,∃b,e.key=.int k0 b)→Instr.findNow (.int q) (.int k0 a) es i=some (xW (.int k0 a) es i)
 | [],i,_=>rfl
 | e :: es,i,h=>by
   obtain⟨b,hk⟩:=h e (by simp)
   have ih:=Tf (q:=q) (a:=a) es (i+1) (fun x hx=>h x (by simp[hx]))
   simp only[Instr.findNow,Instr.sameNow,hk,if_true,xW];by_cases hq:a=b
   ·subst hq;simp
   ·have:(a == b)=false:=by simp[hq]
    simp[this,ih,hq]
theorem Og {a:Bool}:∀(es:List MapEntry) (i:Nat),(∀e∈es,∃b,e.key=.bool b)→Instr.findNow .bool (.bool a) es i=some (xW (.bool a) es i)
 | [],i,_=>rfl
 | e :: es,i,h=>by
   obtain⟨b,hk⟩:=h e (by simp)
   have ih:=Og (a:=a) es (i+1) (fun x hx=>h x (by simp[hx]))
   simp only[Instr.findNow,Instr.sameNow,hk,xW];by_cases hq:a=b
   ·subst hq;simp
   ·have:(a == b)=false:=by simp[hq]
    simp[this,ih,hq]
theorem Kj {l:List Bool} {k:Nat} (h:Cm P l k=true):(∃q,P.underlying k=some (.int q))∨P.underlying k=some .bool ∨
 ∃n e q i,P.underlying k=some (.array n e)∧P.underlying e=some (.int q)∧P.info? e=some i∧i.size=1∧l.length=n:=by
 unfold Cm at h;split at h
 ·rename_i q hq;exact .inl ⟨q,hq⟩
 ·rename_i hq;exact .inr (.inl hq)
 ·rename_i n e hu;split at h
  ·rename_i q hq;simp only[Bool.and_eq_true,decide_eq_true_eq] at h;obtain⟨⟨⟨h1,h2⟩,h3⟩,_⟩:=h
   obtain⟨i,hi⟩:=Option.isSome_iff_exists.1 h3
   exact .inr (.inr ⟨n,e,q,i,hu,hq,hi,by rw[← rE hi];exact h1,h2⟩)
  ·cases h
 ·cases h
theorem Oh (w:World) {k:Nat} {l:List Bool} {us:List Value} (hl:eW P 20 k=some l) (hm:Cm P l k=true) (hu:gD l us us) {es:List MapEntry} (h:X6 P k l us es) :
 (Instr.findKey k (mk (dF P k) us) es).run P w=.ok (xW (mk (dF P k) us) es 0) w:=by
 rcases Kj hm with ⟨q,hk⟩|hk|⟨n,e,q,i,hk,_⟩
 ·have kX:dF P k=false:=by simp[dF,hk]
  have Gk:l=[true]:=by simpa [eW,hk] using hl.symm
  subst Gk
  have hus:∀vs,gD [true] us vs→∃k0 a b,us=[.int k0 a]∧vs=[.int k0 b]:=fun vs h=>by
   cases us with
   | nil=>simp[gD] at h
   | cons u us=>cases vs with
     | nil=>cases u<;>simp[gD] at h
     | cons v vs =>
       cases u<;>cases v<;>simp[gD] at h
       cases us<;>cases vs<;>simp[gD] at h
       subst h;exact⟨_,_,_,rfl,rfl⟩
  obtain⟨k0,a,_,e1,_⟩:=hus us hu
  have Oi:∀e∈es,∃b,e.key=.int k0 b:=fun e he=>by
   obtain⟨vs,h1,h2⟩:=h e he
   obtain⟨k1,a1,b1,e2,e3⟩:=hus vs h2
   rw[e1] at e2;simp at e2
   exact⟨b1,by rw[h1,kX,e3];simp[mk,e2.1]⟩
  have hx:mk (dF P k) us=.int k0 a:=by rw[kX,e1];rfl
  rw[hx];simp only[Instr.findKey,Sem.run_bind,bC hk,Result.andThen_ok,Tf es 0 Oi];rfl
 ·have kX:dF P k=false:=by simp[dF,hk]
  have Gk:l=[false]:=by simpa [eW,hk] using hl.symm
  subst Gk
  have hus:∀vs,gD [false] us vs→∃a b,us=[.bool a]∧vs=[.bool b]:=fun vs h=>by
   cases us with
   | nil=>simp[gD] at h
   | cons u us=>cases vs with
     | nil=>cases u<;>simp[gD] at h
     | cons v vs =>
       cases u<;>cases v<;>simp[gD] at h
       cases us<;>cases vs<;>simp[gD] at h
       exact⟨_,_,rfl,rfl⟩
  obtain⟨a,_,e1,_⟩:=hus us hu
  have Oi:∀e∈es,∃b,e.key=.bool b:=fun e he=>by
   obtain⟨vs,h1,h2⟩:=h e he
   obtain⟨a1,b1,e2,e3⟩:=hus vs h2
   exact⟨b1,by rw[h1,kX,e3];rfl⟩
  have hx:mk (dF P k) us=.bool a:=by rw[kX,e1];rfl
  rw[hx];simp only[Instr.findKey,Sem.run_bind,bC hk,Result.andThen_ok,Og es 0 Oi];rfl
 ·have kX:dF P k=true:=by simp[dF,hk]
  cases es with
  | nil =>
    simp[Instr.findKey,bC hk,Instr.findNow,xW]
  | cons m es =>
    have hn:Instr.findNow (.array n e) (mk (dF P k) us) (m :: es) 0=none:=by
     simp[Instr.findNow,Instr.sameNow]
    simp only[Instr.findKey,Sem.run_bind,bC hk,Result.andThen_ok,hn];exact Hq w hl (m :: es) 0 h
theorem Kk (w:World) {k:Nat} {l:List Bool} {us:List Value} (hl:eW P 20 k=some l) (hm:Cm P l k=true) (hu:gD l us us) (em:Bool) :
 (Instr.checkKey em 10000 k (mk (dF P k) us)).run P w=.ok () w:=by
 have plain:∀(n t:Nat) (q:IntKind) (x:Value),P.underlying t=some (.int q)→(Instr.checkKey em (n+1) t x).run P w=.ok () w:=fun n t q x ht=>by
  simp[Instr.checkKey,bC ht]
 rcases Kj hm with ⟨q,hk⟩|hk|⟨n,e,q,i,hk,he,hi,hs,hn⟩
 ·exact plain 9999 k q _ hk
 ·have plainB:∀(n t:Nat) (x:Value),P.underlying t=some .bool→(Instr.checkKey em (n+1) t x).run P w=.ok () w:=fun n t x ht=>by
   simp[Instr.checkKey,bC ht]
  exact plainB 9999 k _ hk
 ·have kX:dF P k=true:=by simp[dF,hk]
  have hea:dF P e=false:=by simp[dF,he]
  have hlen:=(lP _ _ _ hu).1
  rw[kX];simp only[mk,if_true];rw[show (10000:Nat)=9999+1 from rfl,Instr.checkKey];simp only[Sem.run_bind,bC hk,Result.andThen_ok];simp only[Std.Legacy.Range.forIn_eq_forIn_range',Std.Legacy.Range.size,Nat.sub_zero,Nat.add_one_sub_one,Nat.div_one];have each:∀j∈List.range' 0 n,j<us.length:=fun j hj=>by
   have:=List.mem_range'_1.1 hj
   omega
  generalize List.range' 0 n=is at each
  induction is with
  | nil=>simp
  | cons j is ih =>
    have hj:=each j (by simp)
    have p1:=Gq w he hi us j (fun _=>hs) (by omega)
    simp only[List.forIn_cons,Sem.run_bind,run_sizeOf w hi,hs,Nat.mul_one,Result.andThen_ok,p1,plain 9998 e q _ he,Sem.run_pure];exact ih fun y hy=>each y (by simp[hy])
theorem wG:∀(l:List Bool) (us:List Value),gD l us us→∀x∈us,∀n,Instr.sameBits n x x=true
 | [],[],_,x,hx,n=>by simp at hx
 | true :: l,.int k a :: us,h,x,hx,n=>by
   rcases List.mem_cons.1 hx with rfl|hx
   ·cases n<;>simp[Instr.sameBits]
   ·exact wG l us h.2 x hx n
 | false :: l,.bool a :: us,h,x,hx,n=>by
   rcases List.mem_cons.1 hx with rfl|hx
   ·cases n<;>simp[Instr.sameBits]
   ·exact wG l us h x hx n
theorem E3 (w:World) {agg:Bool} {l:List Bool} {us:List Value} (hu:gD l us us) (ha:agg=false→l.length=1):(Instr.keyThatStays (mk agg us) (mk agg us)).run P w=.ok (mk agg us) w:=by
 have hs:Instr.sameBits 10000 (mk agg us) (mk agg us)=true:=by
  cases agg with
  | true =>
    simp only[mk,if_true];show Instr.sameBits (9999+1) _ _=true
    simp only[Instr.sameBits,beq_self_eq_true,Bool.true_and];have Kw:∀x∈us,Instr.sameBits 9999 x x=true:=fun x hx=>wG l us hu x hx 9999
    clear hu
    induction us with
    | nil=>rfl
    | cons x us ih =>
      simp only[List.zip_cons_cons,List.all_cons,Bool.and_eq_true];exact⟨Kw x (by simp),ih fun y hy=>Kw y (by simp[hy])⟩
  | false =>
    obtain⟨a,rfl⟩:=List.length_eq_one_iff.1 ((lP _ _ _ hu).1.trans (ha rfl))
    exact wG l [a] hu a (by simp) 10000
 simp[Instr.keyThatStays,hs]
theorem Oj {k:Nat} {x y:AV} {C:Ctx} {u v:Value} (h:Eb P k x y) (hu:cY C x u) (hv:cY C y v) :
 ∃l us vs,eW P 20 k=some l∧gD l us vs∧u=mk (dF P k) us∧v=mk (dF P k) vs∧(x=y↔u=v):=by
 unfold Eb at h;cases hl:eW P 20 k with
 | none=>simp[hl] at h
 | some l =>
   simp only[hl] at h;obtain⟨h1,h2,h3⟩:=h
   cases kX:dF P k with
   | true =>
     obtain⟨⟨cs,rfl⟩,ds,rfl⟩:=h2 kX
     obtain⟨us,vs,e1,e2,e3⟩:=Cr _ _ _ h1
     simp only[AV.cells] at e1 e2;subst e1;subst e2;have eu:=Av hu
     have ev:=Av hv
     refine⟨l,us,vs,rfl,e3,by rw[eu];rfl,by rw[ev];rfl, ?_⟩
     rw[eu,ev];simp[DN]
   | false =>
     obtain⟨⟨a,rfl⟩,b,rfl⟩:=h3 kX
     obtain⟨us,vs,e1,e2,e3⟩:=Cr _ _ _ h1
     have eu:=iO hu
     have ev:=iO hv
     subst eu;subst ev;have f1:us=[u]:=by
      cases us with
      | nil=>simp[AV.cells] at e1
      | cons c us=>simp[AV.cells] at e1;simp[e1.1,← e1.2]
     have f2:vs=[v]:=by
      cases vs with
      | nil=>simp[AV.cells] at e2
      | cons c vs=>simp[AV.cells] at e2;simp[e2.1,← e2.2]
     subst f1;subst f2;exact⟨l,_,_,rfl,e3,rfl,rfl,by simp⟩
theorem Yd {k:Nat} {x:AV} {C:Ctx} {u:Value} {l:List Bool} {us:List Value} (hl:eW P 20 k=some l) (hu:cY C x u) (he:u=mk (dF P k) us) (hx:gD l us us):∀ {es:List (AV × AV)} {ms:List MapEntry},
 (∀p∈es,Eb P k x p.1)→Vu C es ms→X6 P k l us ms
 | [],[],_,_=>fun e h=>by simp at h
 | p :: es,m :: ms,hk,h=>by
   have ih:=Yd hl hu he hx (es:=es) (ms:=ms) (fun q hq=>hk q (by simp[hq])) h.2.2
   intro e hem;rcases List.mem_cons.1 hem with rfl|hem
   ·obtain⟨l',us',vs,e1,e2,e3,e4,_⟩:=Oj (hk p (by simp)) hu h.1
    rw[hl] at e1;cases e1
    refine⟨vs,e4, ?_⟩
    have:us'=us:=by
     rw[he] at e3;have hlen1:=(lP _ _ _ hx).1
     have N8:=(lP _ _ _ e2).1
     cases kX:dF P k with
     | true=>rw[kX] at e3;simpa [mk] using e3.symm
     | false =>
       have h1:=oE 20 k l hl kX
       obtain⟨a,rfl⟩:=List.length_eq_one_iff.1 (hlen1.trans h1)
       obtain⟨b,rfl⟩:=List.length_eq_one_iff.1 (N8.trans h1)
       rw[kX] at e3;simpa [mk] using e3.symm
    rw[← this];exact e2
   ·exact ih e hem
 | [],_ :: _,_,h=>h.elim
 | _ :: _,[],_,h=>h.elim
theorem FH {k:Nat} {x:AV} {C:Ctx} {u:Value} (hu:cY C x u):∀ {es:List (AV × AV)} {ms:List MapEntry} (i:Nat),(∀p∈es,Eb P k x p.1)→Vu C es ms →
 (M4 es x=none∧xW u ms i=none)∨∃v y j,M4 es x=some v∧xW u ms i=some (i+j,y)∧cY C v y∧j<ms.length
 | [],[],i,_,_=>.inl ⟨rfl,rfl⟩
 | p :: es,m :: ms,i,hk,h=>by
   obtain⟨l',us',vs,e1,e2,e3,e4,e5⟩:=Oj (hk p (by simp)) hu h.1
   simp only[M4,xW];by_cases hq:x=p.1
   ·rw[if_pos hq.symm,if_pos (e5.1 hq)];exact .inr ⟨_,_,0,rfl,rfl,h.2.1,by simp⟩
   ·rw[if_neg (Ne.symm hq),if_neg (fun h'=>hq (e5.2 h'))]
    rcases FH hu (es:=es) (ms:=ms) (i+1) (fun q hq=>hk q (by simp[hq])) h.2.2 with ⟨h1,h2⟩|⟨v,y,j,h1,h2,h3,h4⟩
    ·exact .inl ⟨h1,h2⟩
    ·exact .inr ⟨v,y,j+1,h1,by rw[h2];congr 2;omega,h3,by simp;omega⟩
 | [],_ :: _,_,_,h=>h.elim
 | _ :: _,[],_,_,h=>h.elim
theorem FI {k:Nat} {x z:AV} {C:Ctx} {u y:Value} (hu:cY C x u) (hz:cY C z y):∀ {es:List (AV × AV)} {ms:List MapEntry} (i:Nat),(∀p∈es,Eb P k x p.1)→Vu C es ms →
 (xW u ms i=none∧∀c,Vu C (M5 es x z) (ms++[{ key:=u,val:=y,born:=c }])) ∨
 ∃v j,xW u ms i=some (i+j,v)∧(∃m,ms[j]? = some m∧m.key=u)∧Vu C (M5 es x z) (ms.modify j fun e=>{ e with key:=u,val:=y })
 | [],[],i,_,_=>.inl ⟨rfl,fun c=>⟨hu,hz,trivial⟩⟩
 | p :: es,m :: ms,i,hk,h=>by
   obtain⟨l',us',vs,e1,e2,e3,e4,e5⟩:=Oj (hk p (by simp)) hu h.1
   simp only[M5,xW];by_cases hq:x=p.1
   ·rw[if_pos hq.symm,if_pos (e5.1 hq)];exact .inr ⟨_,0,rfl,⟨m,rfl,(e5.1 hq).symm⟩,by simp[List.modify];exact⟨hu,hz,h.2.2⟩⟩
   ·rw[if_neg (Ne.symm hq),if_neg (fun h'=>hq (e5.2 h'))]
    rcases FI hu hz (es:=es) (ms:=ms) (i+1) (fun q hq=>hk q (by simp[hq])) h.2.2 with ⟨h1,h2⟩|⟨v,j,h1,h2,h3⟩
    ·exact .inl ⟨h1,fun c=>⟨h.1,h.2.1,h2 c⟩⟩
    ·exact .inr ⟨v,j+1,by rw[h1];congr 2;omega,by simpa using h2,by simp[List.modify_succ_cons];exact⟨h.1,h.2.1,h3⟩⟩
 | [],_ :: _,_,_,h=>h.elim
 | _ :: _,[],_,_,h=>h.elim
theorem Ok {T k:Nat} {z:AV} (h:Uw P T=some (k,z)):∃e l zv,P.underlying T=some (.map k e)∧eW P 20 k=some l∧Cm P l k=true ∧
 (∀w,(zeroValue e).run P w=.ok zv w)∧∀C:Ctx,cY C z zv:=by
 unfold Uw at h;split at h
 ·rename_i k' e hT
  split at h
  ·rename_i l z' hl hz
   split at h
   ·rename_i hm;simp only[Option.some.injEq,Prod.mk.injEq] at h;obtain⟨rfl,rfl⟩:=h
    unfold aEL at hz;split at hz
    ·rename_i i hi;split at hz
     ·rename_i cs LA;split at hz
      ·rename_i Kw;simp only[Option.some.injEq] at hz;subst hz;refine⟨e,l,_,hT,hl,hm,fun w=>Bw w hi LA,fun C=>?_⟩
       have hc:=gC.vs C cs.toList (List.all_eq_true.1 Kw)
       exact .agg _ _ (by simp) (fun j x y hx hy=>hc.rel j x y hx (by simpa using hy)) (fun j y hy=>hc.one j y (by simpa using hy))
      ·cases hz
     ·rename_i y hy LA;split at hz
      ·simp only[Option.some.injEq] at hz;subst hz;exact⟨e,l,_,hT,hl,hm,fun w=>Bw w hi LA,fun C=>.v _⟩
      ·cases hz
     ·cases hz
    ·cases hz
   ·cases h
  ·cases h
 ·cases h
end
section
variable {P:Program} {h0:Nat→Obj→Prop} {w0:World} {F:Fi} {nt:Nat} {ρ:Nat→Nat→Value} {st:St} {a:Act} {w:World}
theorem VM (S:kU F h0 w0 nt ρ st a w) {T:Nat} {m x z:AV} {ok:Bool} {mv xv:Value} (h:Sn P st T m x ok=some z) (hm:cY (ctx h0 w0 ρ st w) m mv) (hx:cY (ctx h0 w0 ρ st w) x xv) :
 ∃r,(Instr.lookup T mv xv ok).run P w=.ok r w∧cY (ctx h0 w0 ρ st w) z r:=by
 unfold Sn at h;split at h
 ·rename_i s g;split at h
  ·rename_i es k zd he hi;split at h
   ·rename_i hk;obtain⟨e,l,zv,hT,hl,hmk,hz,hzr⟩:=Ok hi
    obtain⟨_,_,b,arr,clock,lB,_,hh,hml⟩:=S.sM s g _ he
    obtain⟨l',us,vs,e1,e2,e3,e4,_⟩:=Oj hk.1 hx hx
    rw[hl] at e1;cases e1
    have hvs:vs=us:=by
     rw[e3] at e4;have hlen:=lP _ _ _ e2
     cases kX:dF P k with
     | true=>rw[kX] at e4;simpa [mk] using e4.symm
     | false =>
       have h1:=oE 20 k l hl kX
       obtain⟨p,rfl⟩:=List.length_eq_one_iff.1 (hlen.1.trans h1)
       obtain⟨q,rfl⟩:=List.length_eq_one_iff.1 (hlen.2.trans h1)
       rw[kX] at e4;simpa [mk] using e4.symm
    subst hvs;have Oi:=Yd hl hx e3 e2 hk.2 hml
    cases hm with
    | mp _ _ hg ho =>
      show ∃r,(Instr.lookup T (ρ s g) xv ok).run P w=.ok r w∧_
      rw[lB,e3];have hck:=Kk w hl hmk e2 arr.isEmpty
      have hfk:=Oh w hl hmk e2 Oi
      rcases FH hx 0 hk.2 hml with ⟨h1,h2⟩|⟨v,y,j,h1,h2,h3,_⟩
      ·rw[h1] at h;simp only[Option.some.injEq] at h;subst h;rw[e3] at h2;rw[h2] at hfk;refine⟨if ok=true then .tuple #[zv,.bool false] else zv,by
        simp[Instr.lookup,bC hT,MapKept.run_getObj_map hh,hck,hfk,hz w], ?_⟩
       cases ok
       ·exact hzr _
       ·exact .eE _ _ rfl fun i x y hx hy=>by
         match i with
         | 0=>simp at hx hy;subst hx;subst hy;exact hzr _
         | 1=>simp at hx hy;subst hx;subst hy;exact .v _
         | i+2=>simp at hx
      ·rw[h1] at h;simp only[Option.some.injEq] at h;subst h;rw[e3] at h2;rw[h2] at hfk;refine⟨if ok=true then .tuple #[y,.bool true] else y,by
        simp[Instr.lookup,bC hT,MapKept.run_getObj_map hh,hck,hfk], ?_⟩
       cases ok
       ·exact h3
       ·exact .eE _ _ rfl fun i x y hx hy=>by
         match i with
         | 0=>simp at hx hy;subst hx;subst hy;exact h3
         | 1=>simp at hx hy;subst hx;subst hy;exact .v _
         | i+2=>simp at hx
   ·cases h
  ·cases h
 ·cases h
theorem HO (S:kU F h0 w0 nt ρ st a w) {T s g:Nat} {m x y:AV} {e:nU} {mv xv yv:Value} (h:tT P st T m x y=some (s,g,e))
 (hm:cY (ctx h0 w0 ρ st w) m mv) (hx:cY (ctx h0 w0 ρ st w) x xv) (hy:cY (ctx h0 w0 ρ st w) y yv) :
 ∃w',(Instr.mapUpdate T mv xv yv).run P w=.ok () w'∧kU F h0 w0 nt ρ (st.jB s g (some e)) a w':=by
 unfold tT at h;split at h
 ·rename_i s' g'
  split at h
  ·rename_i es k zd he hi;split at h
   ·rename_i hk;obtain⟨hk,yB⟩:=hk
    simp only[Option.some.injEq,Prod.mk.injEq] at h;obtain⟨rfl,rfl,rfl⟩:=h
    obtain⟨e,l,zv,hT,hl,hmk,hz,hzr⟩:=Ok hi
    obtain⟨_,_,b,arr,clock,lB,xA,hh,hml⟩:=S.sM s' g' _ he
    obtain⟨l',us,vs,e1,e2,e3,e4,_⟩:=Oj hk.1 hx hx
    rw[hl] at e1;cases e1
    have hvs:vs=us:=by
     rw[e3] at e4;have hlen:=lP _ _ _ e2
     cases kX:dF P k with
     | true=>rw[kX] at e4;simpa [mk] using e4.symm
     | false =>
       have h1:=oE 20 k l hl kX
       obtain⟨p,rfl⟩:=List.length_eq_one_iff.1 (hlen.1.trans h1)
       obtain⟨q,rfl⟩:=List.length_eq_one_iff.1 (hlen.2.trans h1)
       rw[kX] at e4;simpa [mk] using e4.symm
    subst hvs;have Oi:=Yd hl hx e3 e2 hk.2 hml
    clear e4
    subst e3;have oB:dI (ρ s' g')=some b:=by rw[lB];rfl
    have grown:∀o,w.grownBy { w with heap:=w.heap.setIfInBounds b o } (some b):=fun o=>⟨rfl,rfl,rfl,by simp,fun k _ hk=>by
     have gR:b≠k:=fun e=>hk (by rw[e])
     simp[gR]⟩
    cases hm with
    | mp _ _ hg ho =>
      show ∃w',(Instr.mapUpdate T (ρ s' g') _ yv).run P w=.ok () w'∧_
      have hck:=Kk w hl hmk e2 false
      have hfk:=Oh w hl hmk e2 Oi
      have bA:b<w.heap.size:=(Array.getElem?_eq_some_iff.1 hh).1
      rcases FI (z:=y) hx hy 0 hk.2 hml with ⟨h1,h2⟩|⟨v,j,h1,⟨m0,hm0,hmk0⟩,h3⟩
      ·rw[h1] at hfk;refine⟨_,by
        rw[lB];simp only[Instr.mapUpdate,Sem.run_bind,bC hT,MapKept.run_getObj_map hh,Result.andThen_ok,hck,hfk,MapKept.run_setObj_map _ hh];rfl,S.store he oB (grown _) fun C kk=>?_⟩
       refine⟨b,arr.push { key:=mk (dF P k) vs,val:=yv,born:=clock },clock+1,lB,xA,by simp[bA], ?_⟩
       have:=(h2 clock).le kk
       simpa using this
      ·rw[h1] at hfk;have yB:=E3 (P:=P) w (agg:=dF P k) e2 (oE 20 k l hl)
       have hm0':arr[j]? = some m0:=by simpa using hm0
       have hkey:((arr[0+j]?).map (·.key)).getD (mk (dF P k) vs)=mk (dF P k) vs:=by
        rw[Nat.zero_add,hm0'];simp[hmk0]
       refine⟨_,by
        rw[lB];simp only[Instr.mapUpdate,Sem.run_bind,bC hT,MapKept.run_getObj_map hh,Result.andThen_ok,hck,hfk,hkey,yB,MapKept.run_setObj_map _ hh];rfl,S.store he oB (grown _) fun C kk=>?_⟩
       refine⟨b,arr.modify (0+j) fun e=>{ e with key:=mk (dF P k) vs,val:=yv },clock,lB,xA,by simp[bA], ?_⟩
       have:=h3.le kk
       simpa [Array.toList_modify] using this
   ·cases h
  ·cases h
 ·cases h
end
end Go.Ab
end
section
namespace Go.Ab
open Classical
section
variable {P:Program} {h0:Nat→Obj→Prop} {w0:World} {F:Fi} {nt:Nat} {ρ:Nat→Nat→Value} {st:St} {a:Act} {w:World}
theorem OJ (S:kU F h0 w0 nt ρ st a w) {T:Nat} {x z:AV} {lo hi:Option Operand} {u:Value} (h:dA P st T x lo hi=some z) (hu:cY (ctx h0 w0 ρ st w) x u) :
 ∃r,(Instr.sliceAt T u (lo.map a.eval) (hi.map a.eval) none).run P w=.ok r w∧cY (ctx h0 w0 ρ st w) z r:=by
 unfold dA at h;cases hs:dS P T with
 | none =>
   simp only[hs] at h;split at h
   ·rename_i n sz s g o ha;obtain⟨e,ei,hT,hi,rfl,gR⟩:=Mz ha
    cases he:st.heap s g with
    | none=>simp[he] at h
    | some en =>
      cases en with
      | cells es =>
        simp only[he,Option.some.injEq] at h;subst h;obtain⟨_,_,b1,arr,T1,lB,_⟩:=S.sM s g _ he
        cases hu with
        | ptr _ _ _ b hg hb =>
          refine⟨.slice (some ⟨b,o,none⟩) n n, ?_,.vw s g o n b n hg hb (Nat.le_refl _) (fun ho p n0 c0 hc=>by
           have h2:ρ s g=.slice p n0 c0:=hc
           rw[lB] at h2;cases h2)⟩
          simp[Instr.sliceAt,bC hT,Instr.sureAddr,Instr.sliceBounds,run_sizeOf w hi,lR]
      | _=>simp[he] at h
   ·cases h
 | some t =>
   obtain⟨e,sz,by_⟩:=t
   simp only[hs] at h;obtain⟨ei,ez,hT,By,BB,rfl,AU,rfl,Ai⟩:=kD hs
   have hiv:∀(o:Option Operand) (n:Int) (k:IntKind) (i:Int),(match o with|some h=>st.ev h|none=>AV.v (.int .i64 n))=.v (.int k i) →
    (match o with|some h=>a.eval h|none=>Value.int .i64 n)=.int k i:=fun o n k i ho=>by
    cases o with
    | none=>simp only at ho ⊢;cases ho;rfl
    | some p =>
      simp only at ho ⊢
      have:=S.ev p
      rw[ho] at this;exact iO this
   have qE:∀(p:Option Addr) (n cap:Nat) (kh kl:IntKind) (H L:Int),n≤cap→(match hi with|some h=>a.eval h|none=>Value.int .i64 n)=.int kh H→(match lo with|some l=>a.eval l|none=>Value.int .i64 0)=.int kl L →
    0≤L→L≤H→H≤n →
    (Instr.sliceAt T (.slice p n cap) (lo.map a.eval) (hi.map a.eval) none).run P w=.ok (.slice (if cap=L.toNat then p else p.map (·.add (L.toNat * ei.size))) (H.toNat-L.toNat) (cap-L.toNat)) w:=by
    intro p n cap kh kl H L mV hh hl l0 l1 l2;have b1:H≤(cap:Int):=by omega
    have b2:L≤((H.toNat:Nat):Int):=by omega
    have b3:0≤H:=by omega
    have b6:max H 0=H:=by omega
    cases hi with
    | none =>
      simp only[Value.int.injEq] at hh;obtain⟨rfl,rfl⟩:=hh
      cases lo with
      | none =>
        simp only[Value.int.injEq] at hl;obtain⟨rfl,rfl⟩:=hl
        simp[Instr.sliceAt,Instr.slice,Instr.sliceBounds,bC hT,run_sizeOf w By]
      | some l =>
        simp only at hl
        simp[Instr.sliceAt,Instr.slice,Instr.sliceBounds,Instr.sliceBound,asIntOf,bC hT,run_sizeOf w By,hl,l0,l1]
    | some h =>
      simp only at hh
      cases lo with
      | none =>
        simp only[Value.int.injEq] at hl;obtain⟨rfl,rfl⟩:=hl
        simp[Instr.sliceAt,Instr.slice,Instr.sliceBounds,Instr.sliceBound,asIntOf,bC hT,run_sizeOf w By,hh,b3,b1]
      | some l =>
        simp only at hl
        simp[Instr.sliceAt,Instr.slice,Instr.sliceBounds,Instr.sliceBound,asIntOf,bC hT,run_sizeOf w By,hh,hl,l0,b3,b1,b6,l1]
   cases x with
   | sl n cs =>
     simp only at h
     split at h
     ·rename_i kh H kl L e1 e2;split at h
      ·rename_i hc;obtain⟨c1,c2,c3,c4⟩:=hc
       simp only[Option.some.injEq] at h;subst h;have X7:=hiv hi n kh H e1
       have e2':=hiv lo 0 kl L e2
       have hHL:(H-L).toNat=H.toNat-L.toNat:=by omega
       cases hu with
       | KW n cap p mV =>
         refine⟨_,qE p n cap kh kl H L mV X7 e2' c1 c2 c3, ?_⟩
         rw[hHL];simp only[List.drop_nil,List.take_nil];exact .KW _ _ _ (by omega)
       | sl n cs b off cap arr T' fr mV hb hle hr h1 =>
         refine⟨_,qE _ n cap kh kl H L mV X7 e2' c1 c2 c3, ?_⟩
         rw[hHL];by_cases hm:cap=L.toNat
         ·have hz:H.toNat-L.toNat=0:=by omega
          rw[if_pos hm,hz];simp only[Nat.zero_mul,List.take_zero];exact .KW _ _ _ (by omega)
         ·rw[if_neg hm];simp only[Option.map_some,lR];have hbound:L.toNat * ei.size+(H.toNat-L.toNat) * ei.size≤cs.length:=by
           rw[c4,← Nat.add_mul];exact Nat.mul_le_mul_right _ (by omega)
          refine .sl _ _ b (off+L.toNat * ei.size) _ arr T' fr (by omega) hb (by simp;omega) (fun i x y hx hy=>?_) (fun i y Cs hy=>?_)
          ·rw[List.getElem?_take] at hx;split at hx
           ·rw[List.getElem?_drop] at hx;exact hr _ x y hx (by rw[← Nat.add_assoc];exact hy)
           ·cases hx
          ·simp only[List.length_take,List.length_drop] at Cs
           exact h1 (L.toNat * ei.size+i) y (by omega) (by rw[← Nat.add_assoc];exact hy)
      ·cases h
     ·cases h
   | v xv =>
     split at h
     ·rename_i heq;cases heq
     ·rename_i heq;cases heq
      split at h
      ·rename_i kh H kl L e1 e2;split at h
       ·rename_i hc;obtain⟨rfl,rfl⟩:=hc
        simp only[Option.some.injEq] at h;subst h;have:=iO hu
        subst this;have X7:=hiv hi 0 kh 0 e1
        have e2':=hiv lo 0 kl 0 e2
        refine⟨_,qE none 0 0 kh kl 0 0 (Nat.le_refl _) X7 e2' (by omega) (by omega) (by omega), ?_⟩
        simp
        exact .v _
       ·cases h
      ·cases h
     ·rename_i heq;cases heq
     ·rename_i heq;cases heq
     ·cases h
   | own s g =>
     simp only at h
     cases he:st.heap s g with
     | none=>simp[he] at h
     | some en =>
       cases en with
       | row e' tN n es =>
         simp only[he] at h;split at h
         ·rename_i kh H kl L e1 e2;split at h
          ·rename_i hc;obtain⟨c1,c2,c3⟩:=hc
           have X7:=hiv hi n kh H e1
           have e2':=hiv lo 0 kl L e2
           have hHL:(H-L).toNat=H.toNat-L.toNat:=by omega
           obtain⟨bA,_,xs,ho,zD⟩:=S.sM s g _ he
           cases hu with
           | own _ _ hg h1 =>
             show ∃r,(Instr.sliceAt T (ρ s g) (lo.map a.eval) (hi.map a.eval) none).run P w=.ok r w∧_
             rcases ho.2 with ⟨p,lB,hn⟩|⟨b',cap,cur,lB,_,hh,Uc,_,_,ht,qQ⟩
             ·rw[lB];subst hn;have hLH:L=H:=by omega
              rw[if_pos ⟨hLH,by omega⟩] at h
              simp only[Option.some.injEq] at h;subst h;have hz:H.toNat-L.toNat=0:=by omega
              refine⟨_,qE p 0 0 kh kl H L (Nat.le_refl _) X7 e2' c1 c2 c3, ?_⟩
              rw[hz];exact .KW _ _ _ (by omega)
             ·rw[lB];refine⟨_,qE _ n cap kh kl H L Uc X7 e2' c1 c2 c3, ?_⟩
              split at h
              ·rename_i hLH;simp only[Option.some.injEq] at h;subst h;have hz:H.toNat-L.toNat=0:=by omega
               rw[hz];exact .KW _ _ _ (by omega)
              ·rename_i hLH;simp only[Option.some.injEq] at h;subst h;rw[if_neg (by omega),hHL]
               simp only[Option.map_some,lR,Nat.zero_add];exact .vw s g _ _ b' _ hg (by show dI (ρ s g)=_;rw[lB,kH qQ]) (by omega) (fun hz p n0 c0 hc=>by
                have h3:L.toNat=0:=(Nat.mul_eq_zero.1 hz).resolve_right (by omega)
                have h2:ρ s g=.slice p n0 c0:=hc
                rw[lB] at h2;simp only[Value.slice.injEq] at h2;omega)
          ·cases h
         ·cases h
       | _=>simp[he] at h
   | vw s g o k =>
     cases o with
     | succ o=>simp at h
     | zero =>
     simp only at h
     split at h
     ·rename_i e' tN n es ho' Gk he
      split at h
      ·rename_i kh H kl L e1 e2;split at h
       ·rename_i hc;obtain⟨c1,c2,c3⟩:=hc
        simp only[Option.some.injEq] at h;subst h;obtain⟨bA,_,xs,ho,zD⟩:=S.sM s g _ he
        cases hu with
        | vw _ _ _ _ b cap hg hb mV yY =>
          have oB:dI (ρ s g)=some b:=hb
          rcases ho.2 with ⟨p,lB,hn⟩|⟨b',BA,cur,lB,_,hh,Uc,_,_,ht,qQ⟩
          ·rw[lB,pV] at oB;cases oB
          ·have xH:b'=b:=by rw[lB,kH qQ] at oB;simpa using oB
           subst xH;have hcc:cap=BA:=yY rfl _ _ _ lB
           subst hcc;have f1:a.eval ho'=.int kh H:=by
            have:=S.ev ho'
            rw[e1] at this;exact iO this
           have f2:a.eval Gk=.int kl L:=by
            have:=S.ev Gk
            rw[e2] at this;exact iO this
           have b1:H≤(cap:Int):=by omega
           have b2:L≤((H.toNat:Nat):Int):=by omega
           have b3:0≤H:=by omega
           have b6:max H 0=H:=by omega
           have b7:¬cap=L.toNat:=by omega
           refine⟨.slice (some ⟨b',L.toNat * ei.size,none⟩) (H.toNat-L.toNat) (cap-L.toNat), ?_, ?_⟩
           ·simp[Instr.sliceAt,Instr.slice,Instr.sliceBounds,Instr.sliceBound,asIntOf,bC hT,run_sizeOf w By,f1,f2,c1,b3,b1,b6,b2,b7,lR,show L≤H by omega]
           ·rw[show (H-L).toNat=H.toNat-L.toNat by omega]
            exact .vw s g _ _ b' _ hg hb (by omega) (fun hz p n0 c0 hc=>by
             have h3:L.toNat=0:=(Nat.mul_eq_zero.1 hz).resolve_right (by omega)
             have h2:ρ s g=.slice p n0 c0:=hc
             rw[lB] at h2;simp only[Value.slice.injEq] at h2;omega)
       ·cases h
      ·cases h
     ·cases h
   | _=>first|(simp at h;done)|(cases h;done)
theorem HP (S:kU F h0 w0 nt ρ st a w) {T:Nat} {x z:AV} {lo:Option Operand} {hi mx:Operand} {u:Value} (h:At P st T x lo hi mx=some z) (hu:cY (ctx h0 w0 ρ st w) x u) :
 ∃r,(Instr.sliceAt T u (lo.map a.eval) (some (a.eval hi)) (some (a.eval mx))).run P w=.ok r w∧cY (ctx h0 w0 ρ st w) z r:=by
 unfold At at h;cases hs:dS P T with
 | none=>simp[hs] at h
 | some t =>
   obtain⟨e,sz,by_⟩:=t
   simp only[hs] at h;obtain⟨ei,ez,hT,By,BB,rfl,AU,rfl,Ai⟩:=kD hs
   have qH:∀(o:Operand) (k:IntKind) (i:Int),st.ev o=.v (.int k i)→a.eval o=.int k i:=fun o k i ho=>by
    have:=S.ev o
    rw[ho] at this;exact iO this
   split at h
   ·rename_i kh H km M kl L e1 e2 e3;have f1:=qH _ _ _ e1
    have f2:=qH _ _ _ e2
    have qE:∀(p:Option Addr) (n cap:Nat),n≤cap→0≤L→L≤H→H=M→H≤n →
     (Instr.sliceAt T (.slice p n cap) (lo.map a.eval) (some (a.eval hi)) (some (a.eval mx))).run P w=.ok (.slice (if H.toNat=L.toNat then p else p.map (·.add (L.toNat * ei.size))) (H.toNat-L.toNat) (H.toNat-L.toNat)) w:=by
     intro p n cap mV l0 l1 l2 l3;subst l2;have b1:H≤(cap:Int):=by omega
     have b2:L≤((H.toNat:Nat):Int):=by omega
     have b3:0≤H:=by omega
     have b4:H≤((H.toNat:Nat):Int):=by omega
     have b6:max H 0=H:=by omega
     cases lo with
     | none =>
       simp only[AV.v.injEq,Value.int.injEq] at e3;obtain⟨rfl,rfl⟩:=e3
       simp[Instr.sliceAt,Instr.slice,Instr.sliceBounds,Instr.sliceBound,asIntOf,bC hT,run_sizeOf w By,f1,f2,b3,b1,b4,b6]
     | some l =>
       simp only at e3
       have f3:=qH _ _ _ e3
       simp[Instr.sliceAt,Instr.slice,Instr.sliceBounds,Instr.sliceBound,asIntOf,bC hT,run_sizeOf w By,f1,f2,f3,l0,l1,b3,b1,b2,b4,b6]
    split at h
    ·rename_i n cs;split at h
     ·rename_i hc;obtain⟨c1,c2,c3,c4,c5⟩:=hc
      simp only[Option.some.injEq] at h;subst h;have hHL:(H-L).toNat=H.toNat-L.toNat:=by omega
      cases hu with
      | KW n cap p mV =>
        refine⟨_,qE p n cap mV c1 c2 c3 c4, ?_⟩
        rw[hHL];simp only[List.drop_nil,List.take_nil];exact .cl0 _ _
      | sl n cs b off cap arr T' fr mV hb hle hr h1 =>
        refine⟨_,qE _ n cap mV c1 c2 c3 c4, ?_⟩
        rw[hHL];by_cases hm:H.toNat=L.toNat
        ·have hz:H.toNat-L.toNat=0:=by omega
         rw[if_pos hm,hz];simp only[Nat.zero_mul,List.take_zero];exact .cl0 _ _
        ·rw[if_neg hm];simp only[Option.map_some,lR];have hbound:L.toNat * ei.size+(H.toNat-L.toNat) * ei.size≤cs.length:=by
          rw[c5,← Nat.add_mul];exact Nat.mul_le_mul_right _ (by omega)
         refine .cl _ _ b (off+L.toNat * ei.size) arr T' fr hb (by simp;omega) (fun i x y hx hy=>?_) (fun i y Cs hy=>?_)
         ·rw[List.getElem?_take] at hx;split at hx
          ·rw[List.getElem?_drop] at hx;exact hr _ x y hx (by rw[← Nat.add_assoc];exact hy)
          ·cases hx
         ·simp only[List.length_take,List.length_drop] at Cs
          exact h1 (L.toNat * ei.size+i) y (by omega) (by rw[← Nat.add_assoc];exact hy)
     ·cases h
    ·split at h
     ·rename_i hc;obtain⟨c1,c2,c3⟩:=hc
      simp only[Option.some.injEq] at h;subst h;have:=iO hu
      subst this;refine⟨_,qE none 0 0 (Nat.le_refl _) (by omega) (by omega) (by omega) (by omega), ?_⟩
      subst c2;simp
      exact .v _
     ·cases h
    ·rename_i s g;cases he:st.heap s g with
     | none=>simp[he] at h
     | some en =>
       cases en with
       | row e' tN n es =>
         simp only[he] at h;split at h
         ·rename_i hc;obtain⟨c1,c2,c3,c4⟩:=hc
          simp only[Option.some.injEq] at h;subst h;obtain⟨bA,_,xs,ho,zD⟩:=S.sM s g _ he
          have hrun3:∀(p:Option Addr) (cap:Nat),n≤cap→∃q,(Instr.sliceAt T (.slice p n cap) (lo.map a.eval) (some (a.eval hi)) (some (a.eval mx))).run P w=.ok (.slice q (H.toNat-L.toNat) (M.toNat-L.toNat)) w:=by
           intro p cap mV;have b1:M≤(cap:Int):=by omega
           have b2:L≤((H.toNat:Nat):Int):=by omega
           have b3:0≤H:=by omega
           have b4:H≤((M.toNat:Nat):Int):=by omega
           have b5:0≤M:=by omega
           have b6:max M 0=M:=by omega
           have b7:max H 0=H:=by omega
           cases lo with
           | none =>
             simp only[AV.v.injEq,Value.int.injEq] at e3;obtain⟨rfl,rfl⟩:=e3
             exact⟨_,by simp[Instr.sliceAt,Instr.slice,Instr.sliceBounds,Instr.sliceBound,asIntOf,bC hT,run_sizeOf w By,f1,f2,b3,b1,b4,b5,b6,b7,c3]<;>rfl⟩
           | some l =>
             simp only at e3
             have f3:=qH _ _ _ e3
             exact⟨_,by simp[Instr.sliceAt,Instr.slice,Instr.sliceBounds,Instr.sliceBound,asIntOf,bC hT,run_sizeOf w By,f1,f2,f3,c1,c2,c3,b3,b1,b2,b4,b5,b6,b7]<;>rfl⟩
          cases hu with
          | own _ _ hg h1 =>
            show ∃r,(Instr.sliceAt T (ρ s g) _ _ _).run P w=.ok r w∧_
            have SW:∃p cap,ρ s g=.slice p n cap∧n≤cap:=by
             rcases ho.2 with ⟨p,lB,hn⟩|⟨b',cap,cur,lB,_,hh,Uc,_⟩
             ·exact⟨p,0,by rw[lB,hn],by omega⟩
             ·exact⟨_,cap,lB,Uc⟩
            obtain⟨p,cap,lB,Uc⟩:=SW
            rw[lB];obtain⟨q,hq⟩:=hrun3 p cap Uc
            exact⟨_,hq,by rw[show (H-L).toNat=H.toNat-L.toNat by omega];exact .KW _ _ _ (by omega)⟩
         ·cases h
       | _=>simp[he] at h
    ·cases h
   ·cases h
theorem X8 {C:Ctx} {s g off:Nat} {v:Value} (h:cY C (.ptr s g off) v):∃b off,v=.pointer (some ⟨b,off,none⟩):=by
 cases h;exact⟨_,_,rfl⟩
theorem aC1 {C:Ctx} {cs:List AV} {o:Nat} {v:Value} (h:cY C (.ip cs o) v):∃b off,v=.pointer (some ⟨b,off,none⟩):=by
 cases h;exact⟨_,_,rfl⟩
theorem X9 {C:Ctx} {vs:List AV} {v:Value} (h:cY C (.eE vs) v):∃ar,v=.tuple ar∧vs.length=ar.size∧∀(i:Nat) (x:AV) (y:Value),vs[i]? = some x→ar[i]? = some y→cY C x y:=by
 cases h with
 | eE cs a hl hr=>exact⟨a,rfl,hl,hr⟩
theorem OK (S:kU F h0 w0 nt ρ st a w) {o:Oper} {x:AV} (h:iX P st o.op=some x) :
 ∃v,(execOp a.eval o).run P w=.ok (.value v) w∧cY (ctx h0 w0 ρ st w) x v:=by
 cases qH:o.op with
 | move y=>rw[qH] at h;simp[iX] at h;subst h;exact⟨_,by simp[execOp,qH],S.ev y⟩
 | assign y=>rw[qH] at h;simp[iX] at h;subst h;exact⟨_,by simp[execOp,qH],S.ev y⟩
 | pick c y z =>
   rw[qH] at h;simp only[iX] at h;split at h
   ·rename_i t hc;simp only[Option.some.injEq] at h;subst h;have:=S.ev c
    rw[hc] at this;have:=iO this
    refine⟨if t=true then a.eval y else a.eval z,by simp[execOp,qH,this,asBool], ?_⟩
    cases t
    ·exact S.ev z
    ·exact S.ev y
   ·cases h
 | binOp op T y z yT =>
   rw[qH] at h;simp only[iX] at h;obtain⟨r,hr,gB⟩:=TE (w:=w) y z h (S.ev y) (S.ev z)
   exact⟨r,by simp only[execOp,qH];rw[dL hr];rfl,gB⟩
 | unOp op T y =>
   rw[qH] at h;simp only[iX] at h;obtain⟨r,hr,gB⟩:=y7 (P:=P) (w:=w) h (S.ev y)
   exact⟨r,by simp only[execOp,qH];rw[dL hr];rfl,gB⟩
 | convert src dst y =>
   rw[qH] at h;simp only[iX] at h;split at h
   ·rename_i k' n k ks hy hk hks
    simp only[Option.some.injEq] at h;subst h;have:=S.ev y
    rw[hy] at this;have hv:=iO this
    have hu:∀ {t:Nat} {k:IntKind},intKind P t=some k→P.underlying t=some (.int k):=fun {t k} hk=>by
     unfold intKind at hk;split at hk
     ·rename_i hu;cases hk;exact hu
     ·cases hk
    refine⟨_, ?_,.v _⟩
    simp[execOp,qH,hv,convert,bC (hu hk),bC (hu hks),Conv.intToInt]
   ·cases h
 | nilCheck y =>
   rw[qH] at h;simp only[iX] at h;split at h
   ·rename_i s g off hy;simp only[Option.some.injEq] at h;subst h;have hr:=S.ev y
    rw[hy] at hr;obtain⟨b,off',hv⟩:=X8 hr
    exact⟨a.eval y,by simp[execOp,qH,hv],hr⟩
   ·rename_i cs o hy;simp only[Option.some.injEq] at h;subst h;have hr:=S.ev y
    rw[hy] at hr;obtain⟨b,off',hv⟩:=aC1 hr
    exact⟨a.eval y,by simp[execOp,qH,hv],hr⟩
   ·cases h
 | fieldAddr T y f =>
   rw[qH] at h;simp only[iX] at h;split at h
   ·rename_i k hf;obtain⟨r,hr,gB⟩:=Tv (w:=w) hf h (S.ev y)
    exact⟨r,by simp only[execOp,qH];rw[dL hr];rfl,gB⟩
   ·cases h
 | field T y f =>
   rw[qH] at h;simp only[iX] at h;unfold Bv at h;split at h
   ·rename_i cs hy;have hr:=S.ev y
    rw[hy] at hr;obtain⟨u,hu⟩:∃u,a.eval y=u:=⟨_,rfl⟩
    rw[hu] at hr;cases hr with
    | agg _ ar hl gB h1 =>
      have key:∀off b k,fieldInfo P T f=some (off,b,k)→∃fs fd i d,P.underlying T=some (.struct fs)∧fs[f]? = some fd∧fd.offset=off∧P.info? fd.type=some i∧P.underlying fd.type=some d∧dF P fd.type=b∧i.size=k∧(b=true∨k=1):=fun off b k hf=>by
       unfold fieldInfo at hf;split at hf
       ·rename_i fs hT;split at hf
        ·rename_i fd hfd;split at hf
         ·rename_i b' k' hld
          split at hf
          ·rename_i hc;simp only[Option.some.injEq,Prod.mk.injEq] at hf;obtain⟨rfl,rfl,rfl⟩:=hf
           obtain⟨i,d,hi,hd,kX,hk⟩:=Aw hld
           exact⟨fs,fd,i,d,hT,hfd,rfl,hi,hd,kX,hk,hc⟩
          ·cases hf
         ·cases hf
        ·cases hf
       ·cases hf
      split at h
      ·rename_i off k hf;obtain⟨fs,fd,i,d,hT,hfd,rfl,hi,hd,kX,rfl,_⟩:=key _ _ _ hf
       split at h
       ·rename_i hle;simp only[Option.some.injEq] at h;subst h;have hp:=Gq w hd hi ar.toList fd.offset (by rw[kX];simp) (by simp;omega)
        rw[kX] at hp;simp only[mk,if_true,Array.toArray_toList] at hp;refine⟨_,by
         simp only[execOp,qH,hu];rw[dL (show (Instr.field T (Value.agg ar) f).run P w=.ok _ w by
          simp only[Instr.field,Sem.run_bind,bC hT,Result.andThen_ok,hfd,asAgg,Sem.run_pure];exact hp)]
         rfl,.agg _ _ (by simp[hl]) (fun j x z hx hz=>?_) fun j z hz=>?_⟩
        ·rw[List.getElem?_take] at hx;split at hx
         ·rename_i hj;rw[List.getElem?_drop] at hx;refine gB _ x z hx ?_
          simpa [hj,List.getElem?_take,List.getElem?_drop] using hz
         ·cases hx
        ·have hz':ar[fd.offset+j]? = some z:=by
          simp only[List.getElem?_toArray,List.getElem?_take,List.getElem?_drop] at hz;split at hz
          ·simpa using hz
          ·cases hz
         exact h1 _ z hz'
       ·cases h
      ·rename_i off k hf;obtain⟨fs,fd,i,d,hT,hfd,rfl,hi,hd,kX,rfl,hk⟩:=key _ _ _ hf
       have hk1:i.size=1:=by simpa using hk
       have bA:fd.offset<cs.length:=(List.getElem?_eq_some_iff.1 h).1
       have hp:=Gq w hd hi ar.toList fd.offset (fun _=>hk1) (by simp;omega)
       rw[kX] at hp;simp only[mk,Bool.false_eq_true,if_false,Array.toArray_toList] at hp;refine⟨_,by
        simp only[execOp,qH,hu];rw[dL (show (Instr.field T (Value.agg ar) f).run P w=.ok _ w by
         simp only[Instr.field,Sem.run_bind,bC hT,Result.andThen_ok,hfd,asAgg,Sem.run_pure];exact hp)]
        rfl, ?_⟩
       refine gB fd.offset x _ h ?_
       have:fd.offset<ar.size:=by omega
       rw[hk1,List.take_one];simp[List.head?_drop,this]
      ·cases h
   ·cases h
 | indexAddr T y i =>
   rw[qH] at h;simp only[iX] at h;obtain⟨r,hr,gB⟩:=Tw S h (S.ev y) (S.ev i)
   exact⟨r,by simp only[execOp,qH];rw[dL hr];rfl,gB⟩
 | load T y =>
   rw[qH] at h;simp only[iX] at h;cases hra:qP st (st.ev y) with
   | none=>simp[hra,cS] at h
   | some cs =>
     simp only[hra,cS] at h;obtain⟨r,hr,gB⟩:=Vy S hra h (S.ev y)
     exact⟨r,by simp only[execOp,qH];rw[dL hr];rfl,gB⟩
 | extract t i =>
   rw[qH] at h;simp only[iX] at h;split at h
   ·rename_i vs ht;have hr:=S.ev t
    rw[ht] at hr;obtain⟨ar,hv,hl,gB⟩:=X9 hr
    have hi:i<vs.length:=(List.getElem?_eq_some_iff.1 h).1
    have Cs:i<ar.size:=by omega
    refine⟨ar[i], ?_,gB i x ar[i] h (by simp[Cs])⟩
    simp[execOp,qH,hv,Instr.extract,Cs]
   ·cases h
 | build T parts =>
   rw[qH] at h;simp only[iX] at h;obtain⟨r,hr,gB⟩:=KZ S h
   exact⟨r,by simp only[execOp,qH];rw[dL hr];rfl,gB⟩
 | slice T y lo hi mx =>
   rw[qH] at h;cases mx with
   | some m =>
     cases hi with
     | none=>simp[iX] at h
     | some hh =>
       simp only[iX] at h;obtain⟨r,hr,gB⟩:=HP S h (S.ev y)
       exact⟨r,by simp only[execOp,qH,Option.map_some];rw[dL hr];rfl,gB⟩
   | none =>
     simp only[iX] at h;obtain⟨r,hr,gB⟩:=OJ S h (S.ev y)
     exact⟨r,by simp only[execOp,qH,Option.map_none];rw[dL hr];rfl,gB⟩
 | lookup T y i ok =>
   rw[qH] at h;simp only[iX] at h;obtain⟨r,hr,gB⟩:=VM S h (S.ev y) (S.ev i)
   exact⟨r,by simp only[execOp,qH];rw[dL hr];rfl,gB⟩
 | makeFunc fn first captured =>
   rw[qH] at h;cases fn with
   | func f =>
     simp only[iX] at h;split at h
     ·rename_i hf;subst hf;simp only[Option.some.injEq] at h;subst h;have gB:lN (ctx h0 w0 ρ st w) (captured.toList.map st.ev) (captured.toList.map a.eval):=lN.map _ _ _ fun p _=>S.ev p
      refine⟨.func (.func f) #[] (captured.map a.eval), ?_,.rS f _ _ (by simp) fun i x y hx hy=>gB.rel i x y hx (by simpa using hy)⟩
      simp[execOp,qH,Instr.makeFunc]
     ·cases h
   | _=>simp[iX] at h
 | _=>rw[qH] at h;simp[iX] at h
end
end Go.Ab
end
section
namespace Go.Ab
open Classical
theorem cY.flat {C D:Ctx} {x:AV} {v:Value} (hf:Flat x) (hr:cY C x v) (hh:∀b o,C.h b o→D.h b o):cY D x v:=by
 induction hr with
 | v x=>exact .v x
 | agg cs a hl _ h1 ih=>cases hf with|agg _ h=>exact .agg cs a hl (fun i x y hx hy=>ih i x y hx hy (h x (List.mem_of_getElem? hx))) h1
 | KW n cap p mV=>exact .KW n cap p mV
 | sl n cs b off cap arr T fr mV hb hle _ h1 ih=>cases hf with|sl _ _ h=>exact .sl n cs b off cap arr T fr mV (hh _ _ hb) hle (fun i x y hx hy=>ih i x y hx hy (h x (List.mem_of_getElem? hx))) h1
 | cl0 n p=>exact .cl0 n p
 | cl n cs b off arr T fr hb hle _ h1 ih=>cases hf with|cl _ _ h=>exact .cl n cs b off arr T fr (hh _ _ hb) hle (fun i x y hx hy=>ih i x y hx hy (h x (List.mem_of_getElem? hx))) h1
 | ip cs o b off arr T fr hb hle _ h1 ih=>cases hf with|ip _ _ h=>exact .ip cs o b off arr T fr (hh _ _ hb) hle (fun i x y hx hy=>ih i x y hx hy (h x (List.mem_of_getElem? hx))) h1
 | ptr=>cases hf
 | own=>cases hf
 | vw=>cases hf
 | mp=>cases hf
 | rS f cs a hl _ ih=>cases hf with|rS _ _ h=>exact .rS f cs a hl (fun i x y hx hy=>ih i x y hx hy (h x (List.mem_of_getElem? hx)))
 | eE cs a hl _ ih=>cases hf with|eE _ h=>exact .eE cs a hl (fun i x y hx hy=>ih i x y hx hy (h x (List.mem_of_getElem? hx)))
theorem cY.Ol {C D:Ctx} {x:AV} {v:Value} (hf:iC x) (hr:cY C x v):cY D x v:=by
 induction hr with
 | v x=>exact .v x
 | agg cs a hl _ h1 ih=>cases hf with|agg _ h=>exact .agg cs a hl (fun i x y hx hy=>ih i x y hx hy (h x (List.mem_of_getElem? hx))) h1
 | eE cs a hl _ ih=>cases hf with|eE _ h=>exact .eE cs a hl (fun i x y hx hy=>ih i x y hx hy (h x (List.mem_of_getElem? hx)))
 | _=>cases hf
def bare (h:Nat→Obj→Prop):Ctx:=⟨h,fun _ _=>undef,fun _=>0⟩
inductive Rh:AV→Prop
 | v (x:Value):Rh (.v x)
 | agg (cs:List AV) (h:∀x∈cs,Rh x):Rh (.agg cs)
 | eE (cs:List AV) (h:∀x∈cs,Rh x):Rh (.eE cs)
 | own (s g:Nat):Rh (.own s g)
theorem iC.aC2 {x:AV} (h:iC x):Rh x:=by
 induction h with
 | v x=>exact .v x
 | agg cs _ ih=>exact .agg cs ih
 | eE cs _ ih=>exact .eE cs ih
theorem cY.aC2 {C D:Ctx} {x:AV} {v:Value} (hf:Rh x) (hr:cY C x v) (hc:∀s,C.aQ s≤D.aQ s) (lB:∀s g,g<C.aQ s→D.ρ s g=C.ρ s g):cY D x v:=by
 induction hr with
 | v x=>exact .v x
 | agg cs a hl _ h1 ih=>cases hf with|agg _ h=>exact .agg cs a hl (fun i x y hx hy=>ih i x y hx hy (h x (List.mem_of_getElem? hx))) h1
 | eE cs a hl _ ih=>cases hf with|eE _ h=>exact .eE cs a hl (fun i x y hx hy=>ih i x y hx hy (h x (List.mem_of_getElem? hx)))
 | own s g hg ho=>rw[← lB s g hg];exact .own s g (Nat.lt_of_lt_of_le hg (hc s)) (by rw[lB s g hg];exact ho)
 | _=>cases hf
def newHs (h0:Nat→Obj→Prop) (w w':World) (vs:List Value):Nat→Obj→Prop :=
 fun b o=>w'.heap[b]? = some o∧(b<w.heap.size→h0 b o)∧∀x∈vs,dI x≠some b
def OL (h0:Nat→Obj→Prop) (w w':World) (r:AV) (v:Value):Prop :=
 ∃vs:List Value,(∀x∈vs,x.oneCell'=true)∧(∀(i j:Nat) (x y:Value) (b:Nat),vs[i]? = some x→vs[j]? = some y→dI x=some b→dI y=some b→i=j) ∧
  (∀x∈vs,∀b,dI x=some b→w.heap.size≤b)∧(∀d c,(YJ d c r).2.length=vs.length) ∧
  ∀(D:Ctx) (d c:Nat),(∀b o,newHs h0 w w' vs b o→D.h b o)→(∀(i:Nat) (x:Value),vs[i]? = some x→c+i<D.aQ d∧D.ρ d (c+i)=x) →
   cY D (YJ d c r).1 v∧∀(i:Nat) (e:nU) (x:Value),(YJ d c r).2[i]? = some e→vs[i]? = some x→nG D w' w.heap.size x e
def HL (P:Program) (g:Nat) (xs:List AV) (r:AV):Prop :=
 ∀(w:World) (h0:Nat→Obj→Prop) (vs:Array Value),(∀b o,h0 b o→w.heap[b]? = some o)→lN (bare h0) xs vs.toList →
  Calls P g vs w fun e w'=>∃v,e=.returned v∧OL h0 w w' r v∧w.grownBy w' none
def VN (P:Program) (g e sz n:Nat) (cs xs:List AV) (r:AV):Prop :=
 ∀(w:World) (h0:Nat→Obj→Prop) (v0:Value) (ys:List Value) (vs:Array Value),(∀b o,h0 b o→w.heap[b]? = some o)→(∀b o,h0 b o→dI v0≠some b)→oD w 0 e sz v0 n ys→gC (bare h0) cs ys →
  lN (bare h0) xs vs.toList→Calls P g (#[v0]++vs) w fun en w'=>∃v,en=.returned v∧w.grownBy w' (dI v0) ∧
   match r with
   | .uniq e' tN n' Ea=>∃zs,oD w' 0 e' tN v n' zs∧gC (bare h0) Ea zs∧∀b,dI v=some b→dI v0=some b∨w.heap.size≤b
   | .eE [.uniq e' tN n' Ea]=>v=.tuple #[]∧∃zs,oD w' 0 e' tN v0 n' zs∧gC (bare h0) Ea zs
   | _=>False
def Hp (P:Program) (g:Nat) (xs:List AV) (r:AV):Prop :=
 match xs with
 | .uniq e sz n cs :: rest=>VN P g e sz n cs rest r
 | xs=>HL P g xs r
def Hr (P : Program) (g : Nat) : Prop := ∃ fn, P.funcs[g]? = some fn ∧ (fn.name == "runtime.NumGoroutine") = false ∧ fn.body.isSome = true
def rC (P:Program) (call:Nat→List AV→Option AV):Prop:=∀g xs r,call g xs=some r→Hr P g∧Hp P g xs r
theorem HQ {f:Nat→AV→AV × List nU}:∀(xs:List AV) (c:Nat),(∀x∈xs,∀c,f c x=(x,[]))→qM f c xs=(xs,[])
 | [],c,_=>rfl
 | x :: xs,c,h=>by
   simp only[qM,h x (by simp),List.length_nil,Nat.add_zero,HQ xs c fun y hy=>h y (by simp[hy]),List.nil_append]
theorem Ji {x:AV} (h:Flat x) (d c:Nat):yW d c x=(x,[]):=by cases h<;>rfl
theorem FJ {x:AV} (h:Flat x) (d c:Nat):Tt d c x=(x,[]):=by
 cases h with
 | agg cs h=>simp only[Tt,HQ (f:=yW d) cs c fun x hx c=>Ji (h x hx) d c]
 | _=>rfl
theorem Hs {x:AV} (h:Flat x) (d c:Nat):YJ d c x=(x,[]):=by
 cases h with
 | eE cs h=>simp only[YJ,HQ (f:=Tt d) cs c fun x hx c=>FJ (h x hx) d c]
 | agg cs h=>exact FJ (.agg cs h) d c
 | _=>rfl
theorem FK {h0:Nat→Obj→Prop} {w w':World} {r:AV} {v:Value} (hf:Flat r) (h:cY (bare (newHs h0 w w' [])) r v):OL h0 w w' r v :=
 ⟨[],by simp,by simp,by simp,fun d c=>by rw[Hs hf];rfl,fun D d c hD _=>by
  rw[Hs hf];exact⟨h.flat hf hD,by simp⟩⟩
theorem nG.base {C:Ctx} {w:World} {b b':Nat} {v:Value} {e:nU} (h:nG C w b v e) (hb:b'≤b):nG C w b' v e:=by
 cases e with
 | cells cs=>obtain⟨k,arr,T,h1,h2,h3⟩:=h;exact⟨k,arr,T,h1,Nat.le_trans hb h2,h3⟩
 | row e sz n cs=>obtain⟨xs,ho,hc⟩:=h;exact⟨xs,yZ ho hb,hc⟩
 | map es=>obtain⟨k,arr,T,h1,h2,h3⟩:=h;exact⟨k,arr,T,h1,Nat.le_trans hb h2,h3⟩
theorem Om {w:World} {b b' e sz n:Nat} {v:Value} {xs:List Value} (h:oD w b e sz v n xs) (hb:∀k,dI v=some k→b'≤k):oD w b' e sz v n xs:=by
 refine⟨h.1, ?_⟩
 rcases h.2 with h|⟨g,cap,cur,rfl,h1,h2,h3,h4,h5,h6,hc⟩
 ·exact .inl h
 ·exact .inr ⟨g,cap,cur,rfl,hb g (kH hc),h2,h3,h4,h5,h6,hc⟩
theorem jI {α:Type}:∀(l:List (Option α)) (r:List α),cM l=some r→l=r.map some
 | [],r,h=>by simp[cM] at h;subst h;rfl
 | none :: l,r,h=>by simp[cM] at h
 | some x :: l,r,h=>by
   simp only[cM,Option.map_eq_some_iff] at h;obtain⟨r',h',rfl⟩:=h
   rw[jI l r' h'];rfl
section
variable {P:Program} {h0:Nat→Obj→Prop} {w0:World} {F:Fi} {nt:Nat} {ρ:Nat→Nat→Value} {st:St} {a:Act} {w:World}
def Dk (h0:Nat→Obj→Prop) (w0 w:World):Nat→Obj→Prop:=fun b o=>w.heap[b]? = some o∧(b<w0.heap.size→h0 b o)
theorem Ev {D:Ctx} {base e sz n:Nat} {v:Value} {xs:List Value} {cs:List AV} (hD:∀b o,dI v=some b→base≤b→w.heap[b]? = some o→D.h b o) (h:oD w base e sz v n xs) (hc:gC D cs xs):cY D (.sl n cs) v:=by
 rcases h.2 with ⟨p,rfl,hn⟩|⟨g,cap,cur,rfl,hb,hg,Uc,_,HR,ht,qQ⟩
 ·subst hn;have:xs.length=0:=by rw[h.1];simp
  have:=hc.len
  have hnil:=List.length_eq_zero_iff.1 (show cs.length=0 by omega)
  subst hnil;exact .KW 0 0 p (by omega)
 ·have hl:=hc.len
  have hx:=h.1
  have hle:n * sz≤cap * sz:=Nat.mul_le_mul_right _ Uc
  refine .sl n cs g 0 cap cur e (0,0) Uc (hD g _ (kH qQ) hb hg) (by omega) (fun i x y Jd hy=>?_) (fun i y hi hy=>?_)
  ·have hi:i<cs.length:=(List.getElem?_eq_some_iff.1 Jd).1
   refine hc.rel i x y Jd ?_
   rw[← ht,List.getElem?_take,if_pos (by omega)]
   simpa using hy
  ·refine hc.one i y ?_
   rw[← ht,List.getElem?_take,if_pos (by omega)]
   simpa using hy
theorem gC.flat {C D:Ctx} {cs:List AV} {ys:List Value} (h:gC C cs ys) (hf:∀c∈cs,Flat c) (hh:∀b o,C.h b o→D.h b o):gC D cs ys :=
 ⟨h.len,fun i x y hx hy=>(h.rel i x y hx hy).flat (hf x (List.mem_of_getElem? hx)) hh,h.one⟩
theorem Dl (b:Nat) (o:Obj) (h:(ctx h0 w0 ρ st w).h b o):(bare (Dk h0 w0 w)).h b o:=⟨h.1,h.2.1⟩
theorem aFC (S:kU F h0 w0 nt ρ st a w) {s g o n e sz N:Nat} {cs:List AV} {v:Value} (he:st.heap s g=some (.row e sz N cs)) (hf:∀c∈cs,Flat c) (hle:o+n * sz≤cs.length) (hu:cY (ctx h0 w0 ρ st w) (.vw s g o n) v):cY (bare (Dk h0 w0 w)) (.sl n ((cs.drop o).take (n * sz))) v:=by
 obtain⟨_,ho1,xs,ho,hc⟩:=S.sM s g _ he
 cases hu with
 | vw _ _ _ _ b cap hg hb mV _ =>
   change dI (ρ s g)=some b at hb
   rcases ho.2 with ⟨p,lB,hn⟩|⟨b',BA,cur,lB,xH,hh,_,_,_,ht,qQ⟩
   ·exfalso
    rw[lB] at hb;cases p<;>cases hb
   ·rw[lB,kH qQ] at hb;simp only[Option.some.injEq] at hb;subst hb;have hc':=hc.flat (D:=bare (Dk h0 w0 w)) hf Dl
    have hl:=hc.len
    have hxl:xs.length≤cur.size:=by rw[← ht];simp;omega
    have E4:∀i,i<n * sz→cur[o+i]? = xs[o+i]?:=fun i hi=>by
     rw[← ht,List.getElem?_take,if_pos (by rw[← ho.1];omega)]
     simp
    refine .sl _ _ b' o cap cur e (0,0) mV ⟨hh,fun bA=>by omega⟩ (by simp;omega) (fun i x y hx hy=>?_) (fun i y hi hy=>?_)
    ·rw[List.getElem?_take] at hx;split at hx
     ·rename_i hi;rw[List.getElem?_drop] at hx;rw[E4 i hi] at hy;exact hc'.rel _ x y hx hy
     ·cases hx
    ·simp only[List.length_take,List.length_drop] at hi;rw[E4 i (by omega)] at hy
     exact hc.one _ y hy
theorem OM (S:kU F h0 w0 nt ρ st a w) {x y:AV} {v:Value} (hu:cY (ctx h0 w0 ρ st w) x v) (h:wK st x=some y):cY (bare (Dk h0 w0 w)) y v:=by
 unfold wK at h;split at h
 ·rename_i hf;simp only[Option.some.injEq] at h;subst h;exact hu.flat hf Dl
 ·split at h
  ·split at h
   ·rename_i e sz n cs he;split at h
    ·rename_i hf;simp only[Option.some.injEq] at h;subst h;obtain⟨_,ho1,xs,ho,hc⟩:=S.sM _ _ _ he
     cases hu with
     | own s g hg h1=>exact Ev (fun b o _ hb FD=>⟨FD,fun bA=>by omega⟩) ho (hc.flat hf Dl)
    ·cases h
   ·cases h
  ·rename_i s g o n _;split at h
   ·rename_i e sz N cs he;split at h
    ·rename_i hf;obtain⟨hf,hle⟩:=hf
     simp only[Option.some.injEq] at h;subst h;exact aFC S he hf hle hu
    ·cases h
   ·cases h
  ·cases h
theorem VO {x y:AV} (h:wK st x=some y):Flat y:=by
 unfold wK at h;split at h
 ·rename_i hf;simp only[Option.some.injEq] at h;subst h;exact hf
 ·split at h
  ·split at h
   ·split at h
    ·rename_i hf;simp only[Option.some.injEq] at h;subst h;exact .sl _ _ hf
    ·cases h
   ·cases h
  ·split at h
   ·split at h
    ·rename_i hf;simp only[Option.some.injEq] at h;subst h;exact .sl _ _ fun c hc=>hf.1 c (List.mem_of_mem_drop (List.mem_of_mem_take hc))
    ·cases h
   ·cases h
  ·cases h
theorem xB (S:kU F h0 w0 nt ρ st a w) {x y:AV} {v:Value} (hu:cY (ctx h0 w0 ρ st w) x v) (h:cN st x=some y):cY (bare (Dk h0 w0 w)) y v∧(v.oneCell'=true∨y=x):=by
 unfold cN at h;split at h
 ·rename_i hf;simp only[Option.some.injEq] at h;subst h;exact⟨hu.flat hf Dl,.inr rfl⟩
 ·split at h
  ·rename_i s g _;split at h
   ·rename_i e sz n cs he;split at h
    ·rename_i hf;simp only[Option.some.injEq] at h;subst h;obtain⟨_,ho1,xs,ho,hc⟩:=S.sM s g _ he
     cases hu with
     | own s g hg h1=>exact⟨Ev (fun b o _ hb FD=>⟨FD,fun bA=>by omega⟩) ho (hc.flat hf Dl),.inl h1⟩
    ·cases h
   ·cases h
  ·rename_i s g o n _;split at h
   ·rename_i e sz N cs he;split at h
    ·rename_i hf;obtain⟨hf,hle⟩:=hf
     simp only[Option.some.injEq] at h;subst h;cases hu with
     | vw _ _ _ _ b cap hg hb mV yY=>exact⟨aFC S he hf hle (.vw s g o n b cap hg hb mV yY),.inl rfl⟩
    ·cases h
   ·cases h
  ·rename_i s g off _;split at h
   ·rename_i cs he;simp only[Option.map_eq_some_iff] at h;obtain⟨ds,Ri,rfl⟩:=h
    have hm:=jI _ _ Ri
    have hlen:ds.length=cs.length:=by have:=congrArg List.length hm;simpa using this.symm
    obtain⟨_,_,b',arr,T,lB,oB,hh,hc⟩:=S.sM s g _ he
    cases hu with
    | ptr s g off b hg hb =>
      have xH:b'=b:=by
       have h2:dI (ρ s g)=some b:=hb
       rw[lB] at h2;simpa [dI] using h2
      subst xH;have hl:=hc.len
      simp only[Array.length_toList] at hl;have:=cY.ip (C:=bare (Dk h0 w0 w)) ds off b' 0 arr T (0,0) ⟨hh,fun bA=>by omega⟩ (by omega) (fun i x y hx hy=>by
       have hi:i<cs.length:=by have:=(List.getElem?_eq_some_iff.1 hx).1;omega
       have Jd:wK st cs[i]=some x:=by
        have:=congrArg (·[i]?) hm
        simp only[List.getElem?_map,hx,List.getElem?_eq_getElem hi,Option.map_some,Option.some.injEq] at this;exact this
       exact OM S (hc.rel i cs[i] y (by simp[hi]) (by simpa using hy)) Jd) (fun i y hi hy=>hc.one i y (by simpa using hy))
      rw[Nat.zero_add] at this;exact⟨this,.inl rfl⟩
   ·cases h
  ·cases h
theorem Lu (S:kU F h0 w0 nt ρ st a w) {x y:AV} {v:Value} (hu:cY (ctx h0 w0 ρ st w) x v) (h:fO st x=some y):cY (bare (Dk h0 w0 w)) y v:=by
 unfold fO at h;split at h
 ·rename_i hf;simp only[Option.some.injEq] at h;subst h;exact hu.flat hf Dl
 ·split at h
  ·rename_i cs _;simp only[Option.map_eq_some_iff] at h;obtain⟨ds,Ri,rfl⟩:=h
   have hm:=jI _ _ Ri
   cases hu with
   | agg cs ar hl hr h1 =>
     have hlen:ds.length=cs.length:=by have:=congrArg List.length hm;simpa using this.symm
     refine .agg ds ar (by omega) (fun i x y hx hy=>?_) h1
     have hi:i<cs.length:=by have:=(List.getElem?_eq_some_iff.1 hx).1;omega
     have Jd:cN st cs[i]=some x:=by
      have:=congrArg (·[i]?) hm
      simp only[List.getElem?_map,hx,List.getElem?_eq_getElem hi,Option.map_some,Option.some.injEq] at this;exact this
     exact (xB S (hr i cs[i] y (by simp[hi]) hy) Jd).1
  ·rename_i f mF _;simp only[Option.map_eq_some_iff] at h;obtain⟨ds,Ri,rfl⟩:=h
   have hm:=jI _ _ Ri
   cases hu with
   | rS f cs ar hl hr =>
     have hlen:ds.length=mF.length:=by have:=congrArg List.length hm;simpa using this.symm
     refine .rS f ds ar (by omega) (fun i x y hx hy=>?_)
     have hi:i<mF.length:=by have:=(List.getElem?_eq_some_iff.1 hx).1;omega
     have Jd:cN st mF[i]=some x:=by
      have:=congrArg (·[i]?) hm
      simp only[List.getElem?_map,hx,List.getElem?_eq_getElem hi,Option.map_some,Option.some.injEq] at this;exact this
     exact (xB S (hr i mF[i] y (by simp[hi]) hy) Jd).1
  ·exact (xB S hu h).1
theorem pM {α β:Type} {p:β→Prop} {f:α→Option β} (hp:∀a b,f a=some b→p b):∀(l:List α) (r:List β),cM (l.map f)=some r→∀b∈r,p b
 | [],r,h=>by simp[cM] at h;subst h;simp
 | a :: l,r,h=>by
   simp only[List.map_cons] at h;cases ha:f a with
   | none=>simp[ha,cM] at h
   | some b =>
     simp only[ha,cM,Option.map_eq_some_iff] at h;obtain⟨r',h',rfl⟩:=h
     intro c hc;rcases List.mem_cons.1 hc with rfl|hc
     ·exact hp _ _ ha
     ·exact pM hp l r' h' c hc
theorem zU {x y:AV} (h:cN st x=some y):Flat y:=by
 unfold cN at h;split at h
 ·rename_i hf;simp only[Option.some.injEq] at h;subst h;exact hf
 ·split at h
  ·split at h
   ·split at h
    ·rename_i hf;simp only[Option.some.injEq] at h;subst h;exact .sl _ _ hf
    ·cases h
   ·cases h
  ·split at h
   ·split at h
    ·rename_i hf;simp only[Option.some.injEq] at h;subst h;exact .sl _ _ fun c hc=>hf.1 c (List.mem_of_mem_drop (List.mem_of_mem_take hc))
    ·cases h
   ·cases h
  ·split at h
   ·simp only[Option.map_eq_some_iff] at h;obtain⟨ds,Ri,rfl⟩:=h
    exact .ip _ _ (pM (fun a b h=>VO h) _ _ Ri)
   ·cases h
  ·cases h
theorem Jj {x y:AV} (h:fO st x=some y):Flat y:=by
 unfold fO at h;split at h
 ·rename_i hf;simp only[Option.some.injEq] at h;subst h;exact hf
 ·split at h
  ·simp only[Option.map_eq_some_iff] at h;obtain⟨ds,Ri,rfl⟩:=h
   exact .agg _ (pM (fun a b h=>zU h) _ _ Ri)
  ·simp only[Option.map_eq_some_iff] at h;obtain⟨ds,Ri,rfl⟩:=h
   exact .rS _ _ (pM (fun a b h=>zU h) _ _ Ri)
  ·exact zU h
theorem Tg (S:kU F h0 w0 nt ρ st a w) {x y:AV} {v:Value} (hu:cY (ctx h0 w0 ρ st w) x v) (h:Cn st x=some y):cY (bare (Dk h0 w0 w)) y v:=by
 unfold Cn at h;split at h
 ·rename_i s g;split at h
  ·rename_i e sz n cs he;simp only[Option.map_eq_some_iff] at h;obtain⟨ds,Ri,rfl⟩:=h
   have hm:=jI _ _ Ri
   obtain⟨_,ho1,xs,ho,hc⟩:=S.sM s g _ he
   cases hu with
   | own s g hg h1 =>
     have hlen:ds.length=cs.length:=by have:=congrArg List.length hm;simpa using this.symm
     refine Ev (fun b o _ hb FD=>⟨FD,fun bA=>by omega⟩) ho ⟨by rw[hlen];exact hc.len,fun i x y hx hy=>?_,hc.one⟩
     have hi:i<cs.length:=by have:=(List.getElem?_eq_some_iff.1 hx).1;omega
     have Jd:cN st cs[i]=some x:=by
      have:=congrArg (·[i]?) hm
      simp only[List.getElem?_map,hx,List.getElem?_eq_getElem hi,Option.map_some,Option.some.injEq] at this;exact this
     exact (xB S (hc.rel i cs[i] y (by simp[hi]) hy) Jd).1
  ·cases h
 ·exact (xB S hu h).1
theorem ON (S:kU F h0 w0 nt ρ st a w) {x y:AV} {v:Value} (hu:cY (ctx h0 w0 ρ st w) x v) (h:Mt st x=some y):cY (bare (Dk h0 w0 w)) y v:=by
 unfold Mt at h;split at h
 ·rename_i cs;simp only[Option.map_eq_some_iff] at h;obtain⟨ds,Ri,rfl⟩:=h
  have hm:=jI _ _ Ri
  cases hu with
  | agg cs ar hl hr h1 =>
    have hlen:ds.length=cs.length:=by have:=congrArg List.length hm;simpa using this.symm
    refine .agg ds ar (by omega) (fun i x y hx hy=>?_) h1
    have hi:i<cs.length:=by have:=(List.getElem?_eq_some_iff.1 hx).1;omega
    have Jd:Cn st cs[i]=some x:=by
     have:=congrArg (·[i]?) hm
     simp only[List.getElem?_map,hx,List.getElem?_eq_getElem hi,Option.map_some,Option.some.injEq] at this;exact this
    exact Tg S (hr i cs[i] y (by simp[hi]) hy) Jd
 ·exact Tg S hu h
theorem OO (S:kU F h0 w0 nt ρ st a w) {x y:AV} {v:Value} (hu:cY (ctx h0 w0 ρ st w) x v) (h:Co st x=some y):cY (bare (Dk h0 w0 w)) y v:=by
 unfold Co at h;split at h
 ·rename_i z hz;simp only[Option.some.injEq] at h;subst h;exact Lu S hu hz
 ·exact ON S hu h
theorem Ye {x y:AV} (h:Cn st x=some y):Flat y:=by
 unfold Cn at h;split at h
 ·split at h
  ·simp only[Option.map_eq_some_iff] at h;obtain⟨ds,Ri,rfl⟩:=h
   exact .sl _ _ (pM (fun a b h=>zU h) _ _ Ri)
  ·cases h
 ·exact zU h
theorem VP {x y:AV} (h:Co st x=some y):Flat y:=by
 unfold Co at h;split at h
 ·rename_i z hz;simp only[Option.some.injEq] at h;subst h;exact Jj hz
 ·unfold Mt at h;split at h
  ·simp only[Option.map_eq_some_iff] at h;obtain⟨ds,Ri,rfl⟩:=h
   exact .agg _ (pM (fun a b h=>Ye h) _ _ Ri)
  ·exact Ye h
theorem Dm {x y:AV} (h:fO st x=some y):Co st x=some y:=by unfold Co;rw[h]
theorem VQ {x:AV} (h:fO st x=none):Co st x=Mt st x:=by unfold Co;rw[h]
end
end Go.Ab
end
section
namespace Go.Ab
open Classical
def Ht (es:List nU):Prop:=∀e∈es,∃a b n cs,e=.row a b n cs∧∀c∈cs,iC c
theorem Yf {x:AV} (h:SY x) (d c:Nat):Rh (yW d c x).1∧Ht (yW d c x).2:=by
 cases x
 case uniq e sz n cs=>exact⟨.own _ _,fun e he=>by simp[yW] at he;exact⟨_,_,_,_,he,h⟩⟩
 all_goals exact⟨iC.aC2 h,fun e he=>by simp[yW] at he⟩
theorem Lv {f:Nat→AV→AV × List nU}:∀(xs:List AV) (c:Nat),(∀x∈xs,∀c,Rh (f c x).1∧Ht (f c x).2)→(∀y∈(qM f c xs).1,Rh y)∧Ht (qM f c xs).2
 | [],c,_=>⟨by simp[qM],fun e he=>by simp[qM] at he⟩
 | x :: xs,c,h=>by
   obtain⟨h1,h2⟩:=h x (by simp) c
   obtain⟨h3,h4⟩:=Lv xs (c+(f c x).2.length) fun y hy=>h y (by simp[hy])
   simp only[qM];refine⟨fun y hy=>?_,fun e he=>?_⟩
   ·rcases List.mem_cons.1 hy with rfl|hy
    ·exact h1
    ·exact h3 y hy
   ·rcases List.mem_append.1 he with he|he
    ·exact h2 e he
    ·exact h4 e he
theorem Yg {x:AV} (h:SZ x) (d c:Nat):Rh (Tt d c x).1∧Ht (Tt d c x).2:=by
 cases x
 case agg cs =>
  obtain⟨h1,h2⟩:=Lv (f:=yW d) cs c fun x hx c=>Yf (h x hx) d c
  exact⟨.agg _ h1,h2⟩
 all_goals
  refine @Yf _ ?_ d c
  exact h
theorem Rj {x:AV} (h:Vp x) (d c:Nat):Rh (YJ d c x).1∧Ht (YJ d c x).2:=by
 cases x
 case eE cs =>
  obtain⟨h1,h2⟩:=Lv (f:=Tt d) cs c fun x hx c=>Yg (h x hx) d c
  exact⟨.eE _ h1,h2⟩
 all_goals
  refine @Yg _ ?_ d c
  exact h
theorem gC.Ol {C D:Ctx} {cs:List AV} {ys:List Value} (h:gC C cs ys) (hm:∀c∈cs,iC c):gC D cs ys :=
 ⟨h.len,fun i x y hx hy=>(h.rel i x y hx hy).Ol (hm x (List.mem_of_getElem? hx)),h.one⟩
theorem nG.free {C D:Ctx} {w:World} {b:Nat} {v:Value} {e:nU} (h:nG C w b v e) (hf:∃a s n cs,e=.row a s n cs∧∀c∈cs,iC c):nG D w b v e:=by
 obtain⟨a,s,n,cs,rfl,hm⟩:=hf
 obtain⟨xs,ho,hc⟩:=h
 exact⟨xs,ho,hc.Ol hm⟩
section
variable {P:Program} {h0:Nat→Obj→Prop} {w0:World} {F:Fi} {nt:Nat} {ρ:Nat→Nat→Value} {st:St} {a:Act} {w:World} {K:Act→World→Prop} {Q:Exit→Act→World→Prop}
theorem FL {C D:Ctx} {xs:List AV} {vs:List Value} (h:lN C xs vs) (hf:∀x∈xs,Flat x) (hh:∀b o,C.h b o→D.h b o):lN D xs vs :=
 ⟨h.len,fun i x y hx hy=>(h.rel i x y hx hy).flat (hf x (List.mem_of_getElem? hx)) hh⟩
theorem yH (S:kU F h0 w0 nt ρ st a w) {H:Nat→Obj→Prop} {w':World} {r:AV} {v:Value} {dst:Option Nat} {e:rT} (hr:OL H w w' r v) (hg:w.grownBy w' none)
 (hH:(∀b o,H b o→(ctx h0 w0 ρ st w).h b o)∨Vp r) (h:jC r st dst=some e) (hd:∀d,dst=some d→d<nt)
 (hK:∀oC a' w',kU F h0 w0 nt oC (e.apply st) a' w'→K a' w'):K (a.put dst v) w':=by
 obtain⟨vs,v1,v2,v3,v4,v5⟩:=hr
 unfold jC at h;split at h
 ·rename_i hf;simp only[Option.some.injEq] at h;subst h;have hl:=v4 0 0
  rw[Hs hf] at hl;have hvs:vs=[]:=List.length_eq_zero_iff.1 hl.symm
  subst hvs;obtain⟨S',k⟩:=S.grow hg
  refine hK ρ _ _ (S'.put dst hd ?_)
  rcases hH with hH|hH
  ·have:=(v5 (ctx h0 w0 ρ st w') 0 0 (fun b o hb=>by
    by_cases bA:b<w.heap.size
    ·exact k.h _ _ (hH _ _ (hb.2.1 bA))
    ·exact⟨hb.1,fun h=>by have:=S.ext.size;omega,fun s g e he=>jR S he (by omega)⟩) (by simp)).1
   rw[Hs hf] at this;exact this
  ·have:=(v5 ⟨newHs H w w' [],ρ,st.aQ⟩ 0 0 (fun b o hb=>hb) (by simp)).1
   have hn:=(Rj hH 0 0).1
   rw[Hs hf] at this hn;exact this.aC2 hn (fun _=>Nat.le_refl _) (fun _ _ _=>rfl)
 ·cases dst with
  | none=>cases h
  | some d =>
    simp only[Option.some.injEq] at h;subst h;obtain⟨S',k,hh,pA⟩:=S.news hg d (YJ d (st.aQ d) r).2 vs (v4 _ _) v1 v3 v2 (fun C kC hC lB i e x hi hx=>by
     rcases hH with hH|hH
     ·exact ((v5 C d (st.aQ d) (fun b o hb=>by
       by_cases bA:b<w.heap.size
       ·exact kC.h _ _ (hH _ _ (hb.2.1 bA))
       ·exact hC b o (by omega) hb.1 hb.2.2) lB).2 i e x hi hx).base S.ext.size
     ·have:=((v5 ⟨newHs H w w' vs,C.ρ,C.aQ⟩ d (st.aQ d) (fun b o hb=>hb) lB).2 i e x hi hx).base S.ext.size
      exact this.free ((Rj hH d (st.aQ d)).2 e (List.mem_of_getElem? hi)))
    refine hK _ _ _ (S'.put (some d) hd ?_)
    rcases hH with hH|hH
    ·exact (v5 (ctx h0 w0 (Fj ρ d (st.aQ d) vs) (st.news d (YJ d (st.aQ d) r).2) w') d (st.aQ d) (fun b o hb=>by
      by_cases bA:b<w.heap.size
      ·exact k.h _ _ (hH _ _ (hb.2.1 bA))
      ·exact hh b o (by omega) hb.1 hb.2.2) pA).1
    ·have:=(v5 ⟨newHs H w w' vs,Fj ρ d (st.aQ d) vs,(st.news d (YJ d (st.aQ d) r).2).aQ⟩ d (st.aQ d) (fun b o hb=>hb) pA).1
     exact this.aC2 (Rj hH d (st.aQ d)).1 (fun _=>Nat.le_refl _) (fun _ _ _=>rfl)
theorem Yh {P:Program} {g:Nat} {args:List AV} {r:AV} (h:Hp P g args r) (hn:∀x∈args,Flat x):HL P g args r:=by
 unfold Hp at h;split at h
 ·rename_i e sz n cs rest;have:=hn _ (List.mem_cons_self ..)
  cases this
 ·exact h
theorem Ew (S:kU F h0 w0 nt ρ st a w) {call:Nat→List AV→Option AV} (kJ:rC P call) {g:Nat} {args:List AV} {vs:Array Value} {dst:Option Nat} {e:rT}
 (h:aN call g args st dst=some e) (gB:lN (ctx h0 w0 ρ st w) args vs.toList) (hd:∀d,dst=some d→d<nt)
 (hK:∀oC a' w',kU F h0 w0 nt oC (e.apply st) a' w'→K a' w') :
 Hr P g∧Calls P g vs w fun en w'=>∃v,en=.returned v∧K (a.put dst v) w':=by
 unfold aN at h;split at h
 ·rename_i hf;cases hc:call g args with
  | none=>simp[hc,cS] at h
  | some r =>
    obtain⟨Y0,hs⟩:=kJ g args r hc
    refine⟨Y0, ?_⟩
    simp only[hc,cS] at h;refine ((Yh hs hf) w (ctx h0 w0 ρ st w).h vs (fun b o hb=>hb.1) (FL gB hf fun b o hb=>hb)).mono ?_
    rintro en w' ⟨v,rfl,hr,hg⟩
    exact⟨v,rfl,yH S hr hg (.inl fun b o hb=>hb) h hd hK⟩
 ·split at h
  ·rename_i xs HS;cases hc:call g xs with
   | none=>simp[hc,cS] at h
   | some r =>
     obtain⟨Y0,hs⟩:=kJ g xs r hc
     refine⟨Y0, ?_⟩
     simp only[hc,cS] at h;split at h
     ·rename_i hm;have hmm:=jI _ _ HS
      have SN:∀x∈xs,Flat x:=pM (fun a b h=>Jj h) _ _ HS
      have hlen:xs.length=args.length:=by have:=congrArg List.length hmm;simpa using this.symm
      have On:lN (bare (Dk h0 w0 w)) xs vs.toList:=⟨by rw[hlen];exact gB.len,fun i x y hx hy=>by
       have hi:i<args.length:=by have:=(List.getElem?_eq_some_iff.1 hx).1;omega
       have Jd:fO st args[i]=some x:=by
        have:=congrArg (·[i]?) hmm
        simp only[List.getElem?_map,hx,List.getElem?_eq_getElem hi,Option.map_some,Option.some.injEq] at this;exact this
       exact Lu S (gB.rel i args[i] y (by simp[hi]) hy) Jd⟩
      refine ((Yh hs SN) w (Dk h0 w0 w) vs (fun b o hb=>hb.1) On).mono ?_
      rintro en w' ⟨v,rfl,hr,hg⟩
      exact⟨v,rfl,yH S hr hg (.inr hm) h hd hK⟩
     ·cases h
  ·cases h
theorem kU.drop (S:kU F h0 w0 nt ρ st a w) (s k:Nat):kU F h0 w0 nt ρ (st.jB s k none) a w∧(ctx h0 w0 ρ st w).Le (ctx h0 w0 ρ (st.jB s k none) w):=by
 have hs:∀s' g' e,(st.jB s k none).heap s' g'=some e→st.heap s' g'=some e:=fun s' g' e h=>by
  simp only[St.jB] at h;split at h
  ·cases h
  ·exact h
 have kk:(ctx h0 w0 ρ st w).Le (ctx h0 w0 ρ (st.jB s k none) w):=⟨fun b o hb=>⟨hb.1,hb.2.1,fun s' g' e he=>hb.2.2 s' g' e (hs s' g' e he)⟩,fun _=>Nat.le_refl _,fun _ _ _=>rfl⟩
 exact⟨⟨fun t=>(S.env t).le kk,fun s' g' e he=>⟨(S.sM s' g' e (hs s' g' e he)).1,(S.sM s' g' e (hs s' g' e he)).2.1,nG.world (r:=none) (S.sM s' g' e (hs s' g' e he)).2.2 kk ⟨rfl,rfl,rfl,Nat.le_refl _,fun _ _ _=>rfl⟩ (by cases dI (ρ s' g')<;>simp)⟩,
  fun s1 g1 s2 g2 e1 e2 b h1 h2=>S.inj s1 g1 s2 g2 e1 e2 b (hs _ _ _ h1) (hs _ _ _ h2),S.ext,S.size,S.defers,⟨fun x v h=>(S.Mn.1 x v h).le kk,fun b o h=>kk.h b o (S.Mn.2.1 b o h),S.Mn.2.2⟩⟩,kk⟩
theorem aNn (S:kU F h0 w0 nt ρ st a w) {s k:Nat} {c y:AV} {v:Value} (hc:Flat c∨c=.own s k) (hu:cY (ctx h0 w0 ρ st w) c v) (h:cN st c=some y):cY (bare (ctx h0 w0 ρ (st.jB s k none) w).h) y v∧(v.oneCell'=true∨y=c):=by
 have kk:=(S.drop s k).2
 rcases hc with hf|rfl
 ·unfold cN at h;rw[if_pos hf] at h;simp only[Option.some.injEq] at h;subst h;exact⟨hu.flat hf kk.h,.inr rfl⟩
 ·unfold cN at h;rw[if_neg (by intro h;cases h)] at h
  simp only at h
  split at h
  ·rename_i e sz n cs he;split at h
   ·rename_i hf;simp only[Option.some.injEq] at h;subst h;obtain⟨_,ho1,xs,ho,hc⟩:=S.sM s k _ he
    cases hu with
    | own s g hg h1 =>
      refine⟨Ev (fun b o hv hb FD=>⟨FD,fun bA=>by omega,fun s' g' e' Ah xH=>?_⟩) ho (hc.flat hf kk.h),.inl h1⟩
      simp only[St.jB] at Ah
      split at Ah
      ·cases Ah
      ·rename_i gR;have:=S.inj s' g' s k e' _ b Ah he xH hv
       exact gR this
   ·cases h
  ·cases h
theorem Y1 (S:kU F h0 w0 nt ρ st a w) {s k:Nat} {x y:AV} {v:Value} (hx:YK x) (hk:∀p∈jE x,p=(s,k)) (hu:cY (ctx h0 w0 ρ st w) x v) (h:fO st x=some y):cY (bare (ctx h0 w0 ρ (st.jB s k none) w).h) y v:=by
 have kk:=(S.drop s k).2
 by_cases hf:Flat x
 ·unfold fO at h;rw[if_pos hf] at h;simp only[Option.some.injEq] at h;subst h;exact hu.flat hf kk.h
 ·rcases hx with hx|⟨s',k',rfl⟩|⟨cs,rfl,HR⟩
  ·exact absurd hx hf
  ·have:=hk (s',k') (by simp[jE,hU])
   simp only[Prod.mk.injEq] at this;obtain⟨rfl,rfl⟩:=this
   unfold fO at h;rw[if_neg hf] at h;exact (aNn S (.inr rfl) hu h).1
  ·have hc:∀c∈cs,Flat c∨c=.own s k:=fun c hc=>by
    rcases HR c hc with h|⟨s',k',rfl⟩
    ·exact .inl h
    ·have:=hk (s',k') (by simp only[jE];exact List.mem_flatMap.2 ⟨_,hc,by simp[hU]⟩)
     simp only[Prod.mk.injEq] at this;obtain⟨rfl,rfl⟩:=this
     exact .inr rfl
   unfold fO at h;rw[if_neg hf] at h;simp only[Option.map_eq_some_iff] at h;obtain⟨ys,Ud,rfl⟩:=h
   have hmm:=jI _ _ Ud
   have hlen:ys.length=cs.length:=by have:=congrArg List.length hmm;simpa using this.symm
   cases hu with
   | agg _ arr hl hr h1 =>
     refine .agg ys arr (by omega) (fun i y z hy hz=>?_) h1
     have hi:i<cs.length:=by have:=(List.getElem?_eq_some_iff.1 hy).1;omega
     have Jd:cN st cs[i]=some y:=by
      have:=congrArg (·[i]?) hmm
      simp only[List.getElem?_map,hy,List.getElem?_eq_getElem hi,Option.map_some,Option.some.injEq] at this;exact this
     exact (aNn S (hc _ (List.getElem_mem hi)) (hr i cs[i] z (by simp[hi]) hz) Jd).1
theorem Oo {r:AV} {dst:Option Nat} {s k:Nat} {e:rT} (h:Ec r st dst s k=some e) :
 (Flat r∧e={ dst:=dst,val:=r,dQ:=some (s,k,none)}) ∨
 (¬Flat r∧∃e1 sz n cs d,r=.uniq e1 sz n cs∧dst=some d∧(∀c∈cs,iC c)∧e={ dst:=some d,val:=.own d (st.aQ d),dQ:=some (s,k,none),new:=some (d,[.row e1 sz n cs])}):=by
 unfold Ec at h;split at h
 ·rename_i hf;simp only[Option.some.injEq] at h;exact .inl ⟨hf,h.symm⟩
 ·rename_i hf;split at h
  ·rename_i e1 sz n cs d;split at h
   ·rename_i hc;simp only[Option.some.injEq] at h;exact .inr ⟨hf,e1,sz,n,cs,d,rfl,rfl,hc,h.symm⟩
   ·cases h
  ·cases h
theorem BP (S:kU F h0 w0 nt ρ st a w) {call:Nat→List AV→Option AV} (kJ:rC P call) {g:Nat} {args:List AV} {vs:Array Value} {dst:Option Nat} {e:rT}
 (h:fF call g args st dst=some e) (gB:lN (ctx h0 w0 ρ st w) args vs.toList) (hd:∀d,dst=some d→d<nt)
 (hK:∀oC a' w',kU F h0 w0 nt oC (e.apply st) a' w'→K a' w') :
 Hr P g∧Calls P g vs w fun en w'=>∃v,en=.returned v∧K (a.put dst v) w':=by
 unfold fF at h;split at h
 ·rename_i s k Oi;split at h
  ·rename_i oS;split at h
   ·rename_i xs HS;cases hc:call g xs with
    | none=>simp[hc,cS] at h
    | some r =>
      obtain⟨Y0,hs⟩:=kJ g xs r hc
      refine⟨Y0, ?_⟩
      simp only[hc,cS] at h;have h:=Oo h
      have hmm:=jI _ _ HS
      have SN:∀x∈xs,Flat x:=pM (fun a b h=>Jj h) _ _ HS
      have hlen:xs.length=args.length:=by have:=congrArg List.length hmm;simpa using this.symm
      obtain⟨S1,kk⟩:=S.drop s k
      have On:lN (bare (ctx h0 w0 ρ (st.jB s k none) w).h) xs vs.toList:=⟨by rw[hlen];exact gB.len,fun i x y hx hy=>by
       have hi:i<args.length:=by have:=(List.getElem?_eq_some_iff.1 hx).1;omega
       have Jd:fO st args[i]=some x:=by
        have:=congrArg (·[i]?) hmm
        simp only[List.getElem?_map,hx,List.getElem?_eq_getElem hi,Option.map_some,Option.some.injEq] at this;exact this
       refine Y1 S (oS _ (List.getElem_mem hi)) (fun p hp=>?_) (gB.rel i args[i] y (by simp[hi]) hy) Jd
       have:p∈args.flatMap jE:=List.mem_flatMap.2 ⟨_,List.getElem_mem hi,hp⟩
       rw[Oi] at this;simpa using this⟩
      refine ((Yh hs SN) w (ctx h0 w0 ρ (st.jB s k none) w).h vs (fun b o hb=>hb.1) On).mono ?_
      rintro en w' ⟨v,rfl,hr,hg⟩
      rcases h with ⟨YV,rfl⟩|⟨YV,e1,sz,n,cs,d,rfl,rfl,HR,rfl⟩
      ·refine⟨v,rfl,yH (e:={ dst:=dst,val:=r }) S1 hr hg (.inl fun b o hb=>hb) ?_ hd (fun oC a' w2 hS=>hK oC a' w2 hS)⟩
       unfold jC;rw[if_pos YV]
      ·refine⟨v,rfl,yH (e:={ dst:=some d,val:=.own d (st.aQ d),new:=some (d,[.row e1 sz n cs])}) S1 hr hg (.inr HR) ?_ hd (fun oC a' w2 hS=>hK oC a' w2 hS)⟩
       unfold jC;rw[if_neg YV];rfl
   ·cases h
  ·cases h
 ·exact Ew S kJ h gB hd hK
theorem HT (S:kU F h0 w0 nt ρ st a w) {call:Nat→List AV→Option AV} (kJ:rC P call) {g:Nat} {args:List AV} {vs:Array Value} {dst:Option Nat} {e:rT}
 (h:lL call g args st dst=some e) (gB:lN (ctx h0 w0 ρ st w) args vs.toList) (hd:∀d,dst=some d→d<nt)
 (hK:∀oC a' w',kU F h0 w0 nt oC (e.apply st) a' w'→K a' w') :
 Hr P g∧Calls P g vs w fun en w'=>∃v,en=.returned v∧K (a.put dst v) w':=by
 unfold lL at h;split at h
 ·rename_i s k rest;split at h
  ·rename_i e0 sz n cs he;split at h
   ·rename_i HR;obtain⟨HR,YV⟩:=HR
    have hvs:∃v0 vr,vs=#[v0]++vr∧cY (ctx h0 w0 ρ st w) (.own s k) v0∧lN (ctx h0 w0 ρ st w) rest vr.toList:=by
     have hl:=gB.len
     cases hv:vs.toList with
     | nil=>rw[hv] at hl;simp at hl
     | cons v0 vr =>
       rw[hv] at gB;refine⟨v0,vr.toArray, ?_,gB.head,by simpa using gB.tail⟩
       apply Array.ext'
       rw[hv];simp
    obtain⟨v0,vr,rfl,hv0,hrest⟩:=hvs
    have hv0':v0=ρ s k:=by cases hv0;rfl
    subst hv0'
    obtain⟨hk1,hk2,ys,ho,oU⟩:=S.sM s k _ he
    have run:∀r,call g (.uniq e0 sz n cs :: rest)=some r→Hr P g ∧
     Calls P g (#[ρ s k]++vr) w fun en w'=>∃v,en=.returned v∧w.grownBy w' (dI (ρ s k)) ∧
      match r with
      | .uniq e' tN n' Ea=>∃zs,oD w' 0 e' tN v n' zs∧gC (bare (ctx h0 w0 ρ st w).h) Ea zs∧∀b,dI v=some b→dI (ρ s k)=some b∨w.heap.size≤b
      | .eE [.uniq e' tN n' Ea]=>v=.tuple #[]∧∃zs,oD w' 0 e' tN (ρ s k) n' zs∧gC (bare (ctx h0 w0 ρ st w).h) Ea zs
      | _=>False:=by
     intro r hr;obtain⟨Y0,hs⟩:=kJ _ _ _ hr
     refine⟨Y0, ?_⟩
     have hs:VN P g e0 sz n cs rest r:=hs
     exact hs w (ctx h0 w0 ρ st w).h (ρ s k) ys vr (fun b o hb=>hb.1) (fun b o hb=>hb.2.2 s k _ he) (yZ ho (Nat.zero_le _)) (oU.flat HR fun b o hb=>hb) (FL hrest YV fun b o hb=>hb)
    have bareLe:∀C:Ctx,(ctx h0 w0 ρ st w).Le C→(bare (ctx h0 w0 ρ st w).h).Le C:=fun C kC=>⟨kC.h,fun _=>Nat.zero_le _,fun _ _ h=>absurd h (by simp[bare])⟩
    have xA:∀b,dI (ρ s k)=some b→w0.heap.size≤b:=fun b hb=>(Cq ho b hb).1
    split at h
    ·rename_i e' tN n' Ea hr
     obtain⟨Y0,hc⟩:=run _ hr
     refine⟨Y0,hc.mono ?_⟩
     rintro en w' ⟨v,rfl,hg,zs,hz,Y2,hzb⟩
     cases dst with
     | none=>cases h
     | some d =>
       simp only[Option.some.injEq] at h;subst h;refine⟨v,rfl, ?_⟩
       obtain⟨S',kk,pA⟩:=S.M8 he hg d (.row e' tN n' Ea) v (tE hz) hzb (fun C kC=>⟨zs,Om hz (fun b hb=>by
        rcases hzb b hb with h|h
        ·exact xA b h
        ·have:=S.ext.size;omega),Y2.le (bareLe C kC)⟩)
       have happ:rT.apply { dst:=some d,val:=.own d (st.aQ d),dQ:=some (s,k,none),new:=some (d,[.row e' tN n' Ea])} st=((st.jB s k none).new d (.row e' tN n' Ea)).put (some d) (.own d (st.aQ d)):=by
        simp only[rT.apply,Vw]
       have bA:st.aQ d<(ctx h0 w0 (tW ρ d (st.aQ d) v) ((st.jB s k none).new d (.row e' tN n' Ea)) w').aQ d:=by simp[ctx,St.new,St.jB]
       have lB:(ctx h0 w0 (tW ρ d (st.aQ d) v) ((st.jB s k none).new d (.row e' tN n' Ea)) w').ρ d (st.aQ d)=v:=pA
       have:=cY.own (C:=ctx h0 w0 (tW ρ d (st.aQ d) v) ((st.jB s k none).new d (.row e' tN n' Ea)) w') d (st.aQ d) bA (by rw[lB];exact tE hz)
       rw[lB] at this;have hS:=S'.put (some d) hd this
       rw[← happ] at hS;exact hK _ _ _ hS
    ·rename_i e' tN n' Ea hr
     obtain⟨Y0,hc⟩:=run _ hr
     refine⟨Y0,hc.mono ?_⟩
     rintro en w' ⟨v,rfl,hg,rfl,zs,hz,Y2⟩
     simp only[Option.some.injEq] at h;subst h;have S':=S.M7 (e':=.row e' tN n' Ea) he hg (fun C kC=>⟨zs,Om hz xA,Y2.le (bareLe C kC)⟩)
     exact⟨_,rfl,hK ρ _ _ (S'.put dst hd (.eE [] #[] rfl (by simp)))⟩
    ·cases h
   ·cases h
  ·cases h
 ·split at h
  ·exact Ew S kJ h gB hd hK
  ·cases h
end
end Go.Ab
end
section
namespace Go.Ab
open Classical
section
variable {P:Program} {h0:Nat→Obj→Prop} {w0:World} {F:Fi} {nt:Nat} {ρ:Nat→Nat→Value} {st:St} {a:Act} {w:World} {K:Act→World→Prop} {Q:Exit→Act→World→Prop}
theorem upon_value {o:Oper} {v:Value} {w':World} (h:(execOp a.eval o).run P w=.ok (.value v) w') (hk:K (a.put o.dst v) w'):o.wp P a w K Q:=by
 unfold Oper.wp;rw[h];exact hk
theorem kU.newVar (S:kU F h0 w0 nt ρ st a w) (d:Nat) (hd:d<nt) (cs:List AV) (arr:Array Value) (T:Nat) (hc:gC (ctx h0 w0 ρ st w) cs arr.toList) :
 ∃oC,kU F h0 w0 nt oC ((st.new d (.cells cs)).put (some d) (.ptr d (st.aQ d) 0)) (a.put (some d) (.pointer (some ⟨w.heap.size,0,none⟩))) (w.alloc (.cells arr T)):=by
 obtain⟨S',k,pA⟩:=S.new (World.grownBy_alloc w (.cells arr T) none) d (.cells cs) (.pointer (some ⟨w.heap.size,0,none⟩)) rfl (fun b hb=>by simp[dI] at hb;omega)
  (fun C k _=>⟨w.heap.size,arr,T,rfl,S.ext.size,heap_alloc_new w _,hc.le k⟩)
 exact⟨_,S'.put (some d) (fun t ht=>by cases ht;exact hd) (.ptr d (st.aQ d) 0 w.heap.size (by simp[ctx,St.new]) (by show dI (tW _ _ _ _ _ _)=_;rw[pA];rfl))⟩
theorem kU.newRow (S:kU F h0 w0 nt ρ st a w) (d:Nat) (hd:d<nt) {w':World} (hg:w.grownBy w' none) (e sz n:Nat) (cs:List AV) (xs:List Value) (v:Value) (ho:oD w' w.heap.size e sz v n xs) (hc:gC (ctx h0 w0 ρ st w) cs xs) :
 ∃oC,kU F h0 w0 nt oC ((st.new d (.row e sz n cs)).put (some d) (.own d (st.aQ d))) (a.put (some d) v) w':=by
 obtain⟨S',k,pA⟩:=S.new hg d (.row e sz n cs) v (tE ho) (fun b hb=>(Cq ho b hb).1) (fun C k _=>⟨xs,yZ ho S.ext.size,hc.le k⟩)
 refine⟨_,S'.put (some d) (fun t ht=>by cases ht;exact hd) ?_⟩
 have bA:st.aQ d<(ctx h0 w0 (tW ρ d (st.aQ d) v) (st.new d (.row e sz n cs)) w').aQ d:=by simp[ctx,St.new]
 have lB:(ctx h0 w0 (tW ρ d (st.aQ d) v) (st.new d (.row e sz n cs)) w').ρ d (st.aQ d)=v:=pA
 have:=cY.own (C:=ctx h0 w0 (tW ρ d (st.aQ d) v) (st.new d (.row e sz n cs)) w') d (st.aQ d) bA (by rw[lB];exact tE ho)
 rw[lB] at this;exact this
theorem Hu (z:Array Value) (n:Nat):((Array.range (n * z.size)).map (z[· % z.size]!)).toList=(List.range n).flatMap fun _=>z.toList:=by
 rw[Array.toList_map];have:(Array.range (n * z.size)).toList=List.range (n * z.size):=by simp
 rw[this];clear this
 induction n with
 | zero=>simp
 | succ n ih =>
   rw[Nat.succ_mul,List.range_add,List.map_append,ih,List.range_succ,List.flatMap_append];congr 1
   simp only[List.flatMap_cons,List.flatMap_nil,List.append_nil,List.map_map];apply List.ext_getElem?
   intro i;by_cases hi:i<z.size
   ·simp[hi,Nat.mod_eq_of_lt hi,Nat.mul_comm n z.size]
   ·simp[hi]
theorem Jk {C:Ctx} {z:List Value} (h1:∀y∈z,y.oneCell'=true) (n:Nat):gC C ((List.range n).flatMap fun _=>z.map .v) ((List.range n).flatMap fun _=>z):=by
 generalize List.range n=l
 induction l with
 | nil=>exact .nil C
 | cons x l ih=>simp only[List.flatMap_cons];exact (gC.vs C z h1).app ih
theorem Rk (S:kU F h0 w0 nt ρ st a w) {T n e sz by_:Nat} {parts:Array (Nat × Operand)} {z:List Value} {cs:List AV} (hs:dS P T=some (e,sz,by_)) (hz:eH P e=some z)
 (hn:0<n∨parts=#[]) (hlim:n * sz≤2 ^ 24) (yB:(parts.toList.all fun p=>(st.ev p.2).jD)=true)
 (hf:gS (fun i=>some (i * sz,sz)) ((List.range n).flatMap fun _=>z.map .v) (parts.toList.map fun p=>(p.1,st.ev p.2))=some cs) :
 ∃v w' xs,(Instr.buildSlice T n (parts.map fun (i,x)=>(i,a.eval x))).run P w=.ok v w'∧w.grownBy w' none∧oD w' w.heap.size e sz v n xs∧gC (ctx h0 w0 ρ st w) cs xs:=by
 obtain⟨ei,ez,hT,By,BB,rfl,AU,rfl,Ai⟩:=kD hs
 obtain⟨i',zv,Cs,LA,rfl,N0⟩:=zB hz
 rw[By] at Cs
 cases Cs
 rw[BB] at LA;cases LA
 rcases Nat.eq_zero_or_pos n with h0'|hn
 ·subst h0'
  have hp:parts=#[]:=by
   rcases hn with h|h
   ·omega
   ·exact h
  subst hp;simp[gS] at hf
  subst hf;refine⟨.slice (some ⟨w.heap.size,0,none⟩) 0 0,w.alloc (.cells #[] e),[], ?_,World.grownBy_alloc w _ none,⟨by simp,.inl ⟨_,rfl,rfl⟩⟩,.nil _⟩
  simp[Instr.buildSlice,run_underlying hT,sizeOf,typeInfo,zeroValue,By,Instr.fill,newRow]
  rw[show Array.map (fun x=>(default:Value)) (Array.range 0)=#[] from by simp[Array.range]]
 have gB:lN (ctx h0 w0 ρ st w) ((parts.toList.map fun p=>(p.1,st.ev p.2)).map (·.2)) ((parts.toList.map fun p=>(p.1,a.eval p.2)).map (·.2)):=by
  simp only[List.map_map];exact lN.map _ _ _ fun p _=>S.ev p.2
 have hnz:¬n * ei.size=0:=by
  have:=Nat.mul_pos hn Ai
  omega
 have VR:((Array.range (n * ei.size)).map (ez.cells[· % ez.cells.size]!)).toList=(List.range n).flatMap fun _=>ez.cells.toList:=by
  rw[← AU];exact Hu ez.cells n
 obtain⟨cells,LB,oU⟩:=Kv (place:=fun i=>some (i * ei.size,ei.size)) (parts.toList.map fun p=>(p.1,st.ev p.2)) (parts.toList.map fun p=>(p.1,a.eval p.2)) _ ((Array.range (n * ei.size)).map (ez.cells[· % ez.cells.size]!)) cs (by simp) gB
  (fun p SJ=>by
   obtain⟨q,hq,rfl⟩:=List.mem_map.1 SJ
   exact List.all_eq_true.1 yB q hq) (by rw[VR];exact Jk N0 n) hf
 have hr:=run_buildSlice (P:=P) w T e n (parts.map fun (i,x)=>(i,a.eval x)) cells ei ez hT By BB (by omega) hnz (by simpa using LB)
 have VH:cells.size=n * ei.size:=by
  have hlen:∀(place:Nat→Option (Nat × Nat)) (ps:List (Nat × AV)) (c out:List AV),gS place c ps=some out→out.length=c.length:=by
   intro place ps;induction ps with
   | nil=>intro c out h;simp[gS] at h;rw[h]
   | cons p ps ih =>
     intro c out h;obtain⟨i,x⟩:=p
     unfold gS at h;split at h
     ·cases h
     ·split at h
      ·rename_i hc;have:=ih _ _ h
       rw[this];simp
       omega
      ·cases h
  have h1:=hlen _ _ _ _ hf
  have h2:=oU.len
  have h3:=(Jk (C:=ctx h0 w0 ρ st w) N0 n).len
  rw[← VR] at h3;simp only[Array.length_toList,Array.size_map,Array.size_range] at h2 h3;omega
 refine⟨_,_,cells.toList,hr,World.grownBy_alloc w _ none,Gp ?_,oU⟩
 refine⟨by simp[VH],.inr ⟨w.heap.size,n,cells,rfl,Nat.le_refl _,heap_alloc_new w _,Nat.le_refl _, ?_,VH, ?_⟩⟩
 ·have:n≤n * ei.size:=Nat.le_mul_of_pos_right n Ai
  simp only[maxLen];omega
 ·rw[← VH,← Array.length_toList,List.take_length]
theorem Ue (C:Ctx) {T e sz by_:Nat} {z:List Value} {n:Nat} (hs:dS P T=some (e,sz,by_)) (hz:eH P e=some z)
 (hb:n * by_≤140737488355328) (hm:n≤maxLen) :
 ∃v w' xs,(Instr.makeSlice T (.int .i64 n) (.int .i64 n)).run P w=.ok v w'∧w.grownBy w' none∧oD w' w.heap.size e sz v n xs∧gC C ((List.range n).flatMap fun _=>z.map .v) xs:=by
 obtain⟨ei,ez,hT,By,BB,rfl,AU,rfl,Ai⟩:=kD hs
 obtain⟨i',zv,Cs,LA,rfl,N0⟩:=zB hz
 rw[By] at Cs
 cases Cs
 rw[BB] at LA;cases LA
 obtain⟨w',hr,ho,hg⟩:=run_make_full (P:=P) w w.heap.size T e ei ez ei.size hT By BB rfl .i64 .i64 n (by rw[Nat.mul_comm];omega) hm (Nat.le_refl _)
 have VR:(madeCells ez.cells (n * ei.size)).toList=(List.range n).flatMap fun _=>ez.cells.toList:=by
  unfold madeCells;rw[← AU];exact Hu ez.cells n
 exact⟨_,w',_,hr,hg,Gp ho,by rw[VR];exact Jk N0 n⟩
theorem OP (S:kU F h0 w0 nt ρ st a w) {T:Nat} {x y:AV} {s g:Nat} {e:nU} {u v:Value} (h:pZ P st T x y=some (s,g,e)) (hu:cY (ctx h0 w0 ρ st w) x u) (hv:cY (ctx h0 w0 ρ st w) y v) :
 ∃w',(Instr.storeAt T u v).run P w=.ok () w'∧kU F h0 w0 nt ρ (st.jB s g (some e)) a w':=by
 unfold pZ at h;split at h
 ·rename_i s' g' off
  split at h
  ·rename_i ba k hld;split at h
   ·rename_i hc;obtain⟨c1,c2⟩:=hc
    obtain⟨i,d,hi,hd,kX,rfl⟩:=Aw hld
    have HU:=hv.cells c2
    have hlen:=HU.len
    simp only[Array.length_toList] at hlen;cases hu with
    | ptr _ _ _ b hg hb =>
      have oB:dI (ρ s' g')=some b:=hb
      have main:∀(arr:Array Value) (B:Nat),w.heap[b]? = some (.cells arr B (0,0))→off+i.size≤arr.size →
       (Instr.storeAt T (.pointer (some ⟨b,off,none⟩)) v).run P w=.ok () (w.setRow b (arr.toList.take off++v.cells.toList++arr.toList.drop (off+i.size)).toArray):=by
       intro arr B hh hle;have yB:=run_storeCells_at P b off B v.cells.toList 0 arr w hh (by simp;omega) (fun y hy=>by
        obtain⟨j,hj,rfl⟩:=List.getElem_of_mem hy
        exact HU.one j _ (by simp))
       simp only[Nat.add_zero,Array.length_toList] at yB;simp only[Instr.storeAt,Instr.sureAddr];rw[dL (Sem.run_pure P w _)];simp only[storeVar,dL (run_sizeOf w hi)];rw[if_neg (by omega),show off+i.size=off+v.cells.size by omega]
       exact yB
      have grown:∀(cs:Array Value),w.grownBy (w.setRow b cs) (some b):=fun cs=>⟨rfl,rfl,rfl,by simp,fun k _ hk=>setRow_other w b k cs (fun e=>hk (by rw[e]))⟩
      cases he:st.heap s' g' with
      | none=>simp[he] at h
      | some e' =>
        obtain⟨_,_,her⟩:=S.sM s' g' _ he
        cases e' with
        | cells cs =>
          simp only[he] at h;split at h
          ·rename_i hle;simp only[Option.some.injEq,Prod.mk.injEq] at h;obtain⟨rfl,rfl,rfl⟩:=h
           obtain⟨b',arr,B,lB,xA,hh,hc⟩:=her
           have xH:b'=b:=by rw[lB] at oB;simpa [dI] using oB
           subst xH;have hl:=hc.len
           simp only[Array.length_toList] at hl;refine⟨_,main arr B hh (by omega),S.store he oB (grown _) fun C k=>⟨b',_,B,lB,xA,setRow_heap w b' arr _ B (0,0) hh, ?_⟩⟩
           exact (((hc.take off).app HU).app (hc.drop _)).le k
          ·cases h
        | row e2 sz n cs =>
          simp only[he] at h;split at h
          ·rename_i hle;simp only[Option.some.injEq,Prod.mk.injEq] at h;obtain⟨rfl,rfl,rfl⟩:=h
           obtain⟨xs,ho,hc⟩:=her
           have ho':=ho
           rcases ho.2 with ⟨p,lB,_⟩|⟨b',cap,cur,lB,xA,hh,Uc,E1,HR,ht,qQ⟩
           ·rw[lB,pV] at oB;cases oB
           ·have xH:b'=b:=by rw[lB,kH qQ] at oB;simpa using oB
            subst xH;have hl:=hc.len
            have hx:=ho.1
            have hle2:n * sz≤cap * sz:=Nat.mul_le_mul_right _ Uc
            refine⟨_,main cur e2 hh (by omega),S.store he oB (grown _) fun C k=>⟨xs.take off++v.cells.toList++xs.drop (off+i.size), ?_,(((hc.take off).app HU).app (hc.drop _)).le k⟩⟩
            refine⟨by simp;omega,.inr ⟨b',cap,_,lB,xA,setRow_heap w b' cur _ e2 (0,0) hh,Uc,E1,by simp;omega, ?_,qQ⟩⟩
            simp only
            rw[← ht];have zD:cur.toList.length=cur.size:=rfl
            have hvl:v.cells.toList.length=v.cells.size:=rfl
            have l1:(cur.toList.take off++v.cells.toList).length=off+i.size:=by simp;omega
            rw[List.take_append,l1,List.take_of_length_le (by omega),List.drop_take,List.take_take,Nat.min_eq_left (by omega)]
          ·cases h
        | map es=>simp[he] at h
   ·cases h
  ·cases h
 ·cases h
end
end Go.Ab
end
