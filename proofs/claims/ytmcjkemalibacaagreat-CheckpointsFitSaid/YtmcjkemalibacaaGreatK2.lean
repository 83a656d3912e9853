/-
  Part 2 of the proof: an evaluator of programs, its soundness, and what functions of this program compute.
-/
import Derived.Test.YtmcjkemalibacaaGreatK1
import Derived.MapKept
set_option linter.all false
set_option maxRecDepth 20000
set_option maxHeartbeats 40000000
section
namespace Go.Ab
open Classical
section
variable {P:Program}
noncomputable def xZ (x:Value):List MapEntry→Nat→Option (Nat × Value)
 | [],_=>none
 | e :: r,i=>if x=e.key then some (i,e.val) else xZ x r (i+1)
theorem mk_inj {agg:Bool} {l:List Bool} {us vs:List Value} (h:gH l us vs) (ha:agg=false→l.length=1):mk agg us=mk agg vs↔us=vs:=by
 cases agg with
 | true=>simp[mk]
 | false =>
   have h1:=ha rfl
   obtain⟨e1,e2⟩:=lU _ _ _ h
   obtain⟨a,rfl⟩:=List.length_eq_one_iff.1 (e1.trans h1)
   obtain⟨b,rfl⟩:=List.length_eq_one_iff.1 (e2.trans h1)
   simp[mk]
theorem Uy (w:World) {k:Nat} {l:List Bool} {us vs:List Value} (hl:fC P 20 k=some l) (h:gH l us vs) :
 (Op.equal k (mk (dH P k) us) (mk (dH P k) vs)).run P w=.ok (decide (mk (dH P k) us=mk (dH P k) vs)) w:=by
 have:=Cf (P:=P) 20 10000 (by omega) w k l hl us vs h
 unfold Op.equal Op.maxDepth;rw[this];congr 1
 rw[Bool.eq_iff_iff];simp[mk_inj h (oI 20 k l hl)]
def aAf (P:Program) (k:Nat) (l:List Bool) (us:List Value) (es:List MapEntry):Prop:=∀e∈es,∃vs,e.key=mk (dH P k) vs∧gH l us vs
theorem Ic (w:World) {k:Nat} {l:List Bool} {us:List Value} (hl:fC P 20 k=some l):∀(es:List MapEntry) (i:Nat),aAf P k l us es →
 (Instr.findAsking k (mk (dH P k) us) es i).run P w=.ok (xZ (mk (dH P k) us) es i) w
 | [],i,_=>by simp[Instr.findAsking,xZ]
 | e :: es,i,h=>by
   obtain⟨vs,hk,hv⟩:=h e (by simp)
   have ih:=Ic w hl es (i+1) (fun x hx=>h x (by simp[hx]))
   have he:=Uy w hl hv
   simp only[Instr.findAsking,hk,Sem.run_bind,he,Result.andThen_ok,xZ];by_cases hq:mk (dH P k) us=mk (dH P k) vs
   ·simp[hq]
   ·simp[hq,ih]
theorem Ub {q k0:IntKind} {a:Int}:∀(es:List MapEntry) (i:Nat),(∀e∈es,∃b,e.key=.int k0 b)→Instr.findNow (.int q) (.int k0 a) es i=some (xZ (.int k0 a) es i)
 | [],i,_=>rfl
 | e :: es,i,h=>by
   obtain⟨b,hk⟩:=h e (by simp)
   have ih:=Ub (q:=q) (a:=a) es (i+1) (fun x hx=>h x (by simp[hx]))
   simp only[Instr.findNow,Instr.sameNow,hk,if_true,xZ];by_cases hq:a=b
   ·subst hq;simp
   ·have:(a == b)=false:=by simp[hq]
    simp[this,ih,hq]
theorem Pc {a:Bool}:∀(es:List MapEntry) (i:Nat),(∀e∈es,∃b,e.key=.bool b)→Instr.findNow .bool (.bool a) es i=some (xZ (.bool a) es i)
 | [],i,_=>rfl
 | e :: es,i,h=>by
   obtain⟨b,hk⟩:=h e (by simp)
   have ih:=Pc (a:=a) es (i+1) (fun x hx=>h x (by simp[hx]))
   simp only[Instr.findNow,Instr.sameNow,hk,xZ];by_cases hq:a=b
   ·subst hq;simp
   ·have:(a == b)=false:=by simp[hq]
    simp[this,ih,hq]
theorem Kx {l:List Bool} {k:Nat} (h:Cv P l k=true):(∃q,P.underlying k=some (.int q))∨P.underlying k=some .bool ∨
 ∃n e q i,P.underlying k=some (.array n e)∧P.underlying e=some (.int q)∧P.info? e=some i∧i.size=1∧l.length=n:=by
 unfold Cv at h;split at h
 ·rename_i q hq;exact .inl ⟨q,hq⟩
 ·rename_i hq;exact .inr (.inl hq)
 ·rename_i n e hu;split at h
  ·rename_i q hq;simp only[Bool.and_eq_true,decide_eq_true_eq] at h;obtain⟨⟨⟨h1,h2⟩,h3⟩,_⟩:=h
   obtain⟨i,hi⟩:=Option.isSome_iff_exists.1 h3
   exact .inr (.inr ⟨n,e,q,i,hu,hq,hi,by rw[← rL hi];exact h1,h2⟩)
  ·cases h
 ·cases h
theorem Pd (w:World) {k:Nat} {l:List Bool} {us:List Value} (hl:fC P 20 k=some l) (hm:Cv P l k=true) (hu:gH l us us) {es:List MapEntry} (h:aAf P k l us es) :
 (Instr.findKey k (mk (dH P k) us) es).run P w=.ok (xZ (mk (dH P k) us) es 0) w:=by
 rcases Kx hm with ⟨q,hk⟩|hk|⟨n,e,q,i,hk,_⟩
 ·have kY:dH P k=false:=by simp[dH,hk]
  have Gx:l=[true]:=by simpa [fC,hk] using hl.symm
  subst Gx
  have hus:∀vs,gH [true] us vs→∃k0 a b,us=[.int k0 a]∧vs=[.int k0 b]:=fun vs h=>by
   cases us with
   | nil=>simp[gH] at h
   | cons u us=>cases vs with
     | nil=>cases u<;>simp[gH] at h
     | cons v vs =>
       cases u<;>cases v<;>simp[gH] at h
       cases us<;>cases vs<;>simp[gH] at h
       subst h;exact⟨_,_,_,rfl,rfl⟩
  obtain⟨k0,a,_,e1,_⟩:=hus us hu
  have Pe:∀e∈es,∃b,e.key=.int k0 b:=fun e he=>by
   obtain⟨vs,h1,h2⟩:=h e he
   obtain⟨k1,a1,b1,e2,e3⟩:=hus vs h2
   rw[e1] at e2;simp at e2
   exact⟨b1,by rw[h1,kY,e3];simp[mk,e2.1]⟩
  have hx:mk (dH P k) us=.int k0 a:=by rw[kY,e1];rfl
  rw[hx];simp only[Instr.findKey,Sem.run_bind,bD hk,Result.andThen_ok,Ub es 0 Pe];rfl
 ·have kY:dH P k=false:=by simp[dH,hk]
  have Gx:l=[false]:=by simpa [fC,hk] using hl.symm
  subst Gx
  have hus:∀vs,gH [false] us vs→∃a b,us=[.bool a]∧vs=[.bool b]:=fun vs h=>by
   cases us with
   | nil=>simp[gH] at h
   | cons u us=>cases vs with
     | nil=>cases u<;>simp[gH] at h
     | cons v vs =>
       cases u<;>cases v<;>simp[gH] at h
       cases us<;>cases vs<;>simp[gH] at h
       exact⟨_,_,rfl,rfl⟩
  obtain⟨a,_,e1,_⟩:=hus us hu
  have Pe:∀e∈es,∃b,e.key=.bool b:=fun e he=>by
   obtain⟨vs,h1,h2⟩:=h e he
   obtain⟨a1,b1,e2,e3⟩:=hus vs h2
   exact⟨b1,by rw[h1,kY,e3];rfl⟩
  have hx:mk (dH P k) us=.bool a:=by rw[kY,e1];rfl
  rw[hx];simp only[Instr.findKey,Sem.run_bind,bD hk,Result.andThen_ok,Pc es 0 Pe];rfl
 ·have kY:dH P k=true:=by simp[dH,hk]
  cases es with
  | nil =>
    simp[Instr.findKey,bD hk,Instr.findNow,xZ]
  | cons m es =>
    have hn:Instr.findNow (.array n e) (mk (dH P k) us) (m :: es) 0=none:=by
     simp[Instr.findNow,Instr.sameNow]
    simp only[Instr.findKey,Sem.run_bind,bD hk,Result.andThen_ok,hn];exact Ic w hl (m :: es) 0 h
theorem Ky (w:World) {k:Nat} {l:List Bool} {us:List Value} (hl:fC P 20 k=some l) (hm:Cv P l k=true) (hu:gH l us us) (em:Bool) :
 (Instr.checkKey em 10000 k (mk (dH P k) us)).run P w=.ok () w:=by
 have plain:∀(n t:Nat) (q:IntKind) (x:Value),P.underlying t=some (.int q)→(Instr.checkKey em (n+1) t x).run P w=.ok () w:=fun n t q x ht=>by
  simp[Instr.checkKey,bD ht]
 rcases Kx hm with ⟨q,hk⟩|hk|⟨n,e,q,i,hk,he,hi,hs,hn⟩
 ·exact plain 9999 k q _ hk
 ·have plainB:∀(n t:Nat) (x:Value),P.underlying t=some .bool→(Instr.checkKey em (n+1) t x).run P w=.ok () w:=fun n t x ht=>by
   simp[Instr.checkKey,bD ht]
  exact plainB 9999 k _ hk
 ·have kY:dH P k=true:=by simp[dH,hk]
  have hea:dH P e=false:=by simp[dH,he]
  have hlen:=(lU _ _ _ hu).1
  rw[kY];simp only[mk,if_true];rw[show (10000:Nat)=9999+1 from rfl,Instr.checkKey];simp only[Sem.run_bind,bD hk,Result.andThen_ok];simp only[Std.Legacy.Range.forIn_eq_forIn_range',Std.Legacy.Range.size,Nat.sub_zero,Nat.add_one_sub_one,Nat.div_one];have each:∀j∈List.range' 0 n,j<us.length:=fun j hj=>by
   have:=List.mem_range'_1.1 hj
   omega
  generalize List.range' 0 n=is at each
  induction is with
  | nil=>simp
  | cons j is ih =>
    have hj:=each j (by simp)
    have p1:=Hc w he hi us j (fun _=>hs) (by omega)
    simp only[List.forIn_cons,Sem.run_bind,run_sizeOf w hi,hs,Nat.mul_one,Result.andThen_ok,p1,plain 9998 e q _ he,Sem.run_pure];exact ih fun y hy=>each y (by simp[hy])
theorem wL:∀(l:List Bool) (us:List Value),gH l us us→∀x∈us,∀n,Instr.sameBits n x x=true
 | [],[],_,x,hx,n=>by simp at hx
 | true :: l,.int k a :: us,h,x,hx,n=>by
   rcases List.mem_cons.1 hx with rfl|hx
   ·cases n<;>simp[Instr.sameBits]
   ·exact wL l us h.2 x hx n
 | false :: l,.bool a :: us,h,x,hx,n=>by
   rcases List.mem_cons.1 hx with rfl|hx
   ·cases n<;>simp[Instr.sameBits]
   ·exact wL l us h x hx n
theorem H5 (w:World) {agg:Bool} {l:List Bool} {us:List Value} (hu:gH l us us) (ha:agg=false→l.length=1):(Instr.keyThatStays (mk agg us) (mk agg us)).run P w=.ok (mk agg us) w:=by
 have hs:Instr.sameBits 10000 (mk agg us) (mk agg us)=true:=by
  cases agg with
  | true =>
    simp only[mk,if_true];show Instr.sameBits (9999+1) _ _=true
    simp only[Instr.sameBits,beq_self_eq_true,Bool.true_and];have Ll:∀x∈us,Instr.sameBits 9999 x x=true:=fun x hx=>wL l us hu x hx 9999
    clear hu
    induction us with
    | nil=>rfl
    | cons x us ih =>
      simp only[List.zip_cons_cons,List.all_cons,Bool.and_eq_true];exact⟨Ll x (by simp),ih fun y hy=>Ll y (by simp[hy])⟩
  | false =>
    obtain⟨a,rfl⟩:=List.length_eq_one_iff.1 ((lU _ _ _ hu).1.trans (ha rfl))
    exact wL l [a] hu a (by simp) 10000
 simp[Instr.keyThatStays,hs]
theorem Pf {k:Nat} {x y:AV} {C:Ctx} {u v:Value} (h:El P k x y) (hu:cZ C x u) (hv:cZ C y v) :
 ∃l us vs,fC P 20 k=some l∧gH l us vs∧u=mk (dH P k) us∧v=mk (dH P k) vs∧(x=y↔u=v):=by
 unfold El at h;cases hl:fC P 20 k with
 | none=>simp[hl] at h
 | some l =>
   simp only[hl] at h;obtain⟨h1,h2,h3⟩:=h
   cases kY:dH P k with
   | true =>
     obtain⟨⟨cs,rfl⟩,ds,rfl⟩:=h2 kY
     obtain⟨us,vs,e1,e2,e3⟩:=Da _ _ _ h1
     simp only[AV.cells] at e1 e2;subst e1;subst e2;have eu:=Bd hu
     have ev:=Bd hv
     refine⟨l,us,vs,rfl,e3,by rw[eu];rfl,by rw[ev];rfl, ?_⟩
     rw[eu,ev];simp[ES]
   | false =>
     obtain⟨⟨a,rfl⟩,b,rfl⟩:=h3 kY
     obtain⟨us,vs,e1,e2,e3⟩:=Da _ _ _ h1
     have eu:=iO hu
     have ev:=iO hv
     subst eu;subst ev;have f1:us=[u]:=by
      cases us with
      | nil=>simp[AV.cells] at e1
      | cons c us=>simp[AV.cells] at e1;simp[e1.1,← e1.2]
     have f2:vs=[v]:=by
      cases vs with
      | nil=>simp[AV.cells] at e2
      | cons c vs=>simp[AV.cells] at e2;simp[e2.1,← e2.2]
     subst f1;subst f2;exact⟨l,_,_,rfl,e3,rfl,rfl,by simp⟩
theorem Zf {k:Nat} {x:AV} {C:Ctx} {u:Value} {l:List Bool} {us:List Value} (hl:fC P 20 k=some l) (hu:cZ C x u) (he:u=mk (dH P k) us) (hx:gH l us us):∀ {es:List (AV × AV)} {ms:List MapEntry},
 (∀p∈es,El P k x p.1)→Ww C es ms→aAf P k l us ms
 | [],[],_,_=>fun e h=>by simp at h
 | p :: es,m :: ms,hk,h=>by
   have ih:=Zf hl hu he hx (es:=es) (ms:=ms) (fun q hq=>hk q (by simp[hq])) h.2.2
   intro e hem;rcases List.mem_cons.1 hem with rfl|hem
   ·obtain⟨l',us',vs,e1,e2,e3,e4,_⟩:=Pf (hk p (by simp)) hu h.1
    rw[hl] at e1;cases e1
    refine⟨vs,e4, ?_⟩
    have:us'=us:=by
     rw[he] at e3;have hlen1:=(lU _ _ _ hx).1
     have Q8:=(lU _ _ _ e2).1
     cases kY:dH P k with
     | true=>rw[kY] at e3;simpa [mk] using e3.symm
     | false =>
       have h1:=oI 20 k l hl kY
       obtain⟨a,rfl⟩:=List.length_eq_one_iff.1 (hlen1.trans h1)
       obtain⟨b,rfl⟩:=List.length_eq_one_iff.1 (Q8.trans h1)
       rw[kY] at e3;simpa [mk] using e3.symm
    rw[← this];exact e2
   ·exact ih e hem
 | [],_ :: _,_,h=>h.elim
 | _ :: _,[],_,h=>h.elim
theorem GJ {k:Nat} {x:AV} {C:Ctx} {u:Value} (hu:cZ C x u):∀ {es:List (AV × AV)} {ms:List MapEntry} (i:Nat),(∀p∈es,El P k x p.1)→Ww C es ms →
 (P4 es x=none∧xZ u ms i=none)∨∃v y j,P4 es x=some v∧xZ u ms i=some (i+j,y)∧cZ C v y∧j<ms.length
 | [],[],i,_,_=>.inl ⟨rfl,rfl⟩
 | p :: es,m :: ms,i,hk,h=>by
   obtain⟨l',us',vs,e1,e2,e3,e4,e5⟩:=Pf (hk p (by simp)) hu h.1
   simp only[P4,xZ];by_cases hq:x=p.1
   ·rw[if_pos hq.symm,if_pos (e5.1 hq)];exact .inr ⟨_,_,0,rfl,rfl,h.2.1,by simp⟩
   ·rw[if_neg (Ne.symm hq),if_neg (fun h'=>hq (e5.2 h'))]
    rcases GJ hu (es:=es) (ms:=ms) (i+1) (fun q hq=>hk q (by simp[hq])) h.2.2 with ⟨h1,h2⟩|⟨v,y,j,h1,h2,h3,h4⟩
    ·exact .inl ⟨h1,h2⟩
    ·exact .inr ⟨v,y,j+1,h1,by rw[h2];congr 2;omega,h3,by simp;omega⟩
 | [],_ :: _,_,_,h=>h.elim
 | _ :: _,[],_,_,h=>h.elim
theorem GK {k:Nat} {x z:AV} {C:Ctx} {u y:Value} (hu:cZ C x u) (hz:cZ C z y):∀ {es:List (AV × AV)} {ms:List MapEntry} (i:Nat),(∀p∈es,El P k x p.1)→Ww C es ms →
 (xZ u ms i=none∧∀c,Ww C (P5 es x z) (ms++[{ key:=u,val:=y,born:=c }])) ∨
 ∃v j,xZ u ms i=some (i+j,v)∧(∃m,ms[j]? = some m∧m.key=u)∧Ww C (P5 es x z) (ms.modify j fun e=>{ e with key:=u,val:=y })
 | [],[],i,_,_=>.inl ⟨rfl,fun c=>⟨hu,hz,trivial⟩⟩
 | p :: es,m :: ms,i,hk,h=>by
   obtain⟨l',us',vs,e1,e2,e3,e4,e5⟩:=Pf (hk p (by simp)) hu h.1
   simp only[P5,xZ];by_cases hq:x=p.1
   ·rw[if_pos hq.symm,if_pos (e5.1 hq)];exact .inr ⟨_,0,rfl,⟨m,rfl,(e5.1 hq).symm⟩,by simp[List.modify];exact⟨hu,hz,h.2.2⟩⟩
   ·rw[if_neg (Ne.symm hq),if_neg (fun h'=>hq (e5.2 h'))]
    rcases GK hu hz (es:=es) (ms:=ms) (i+1) (fun q hq=>hk q (by simp[hq])) h.2.2 with ⟨h1,h2⟩|⟨v,j,h1,h2,h3⟩
    ·exact .inl ⟨h1,fun c=>⟨h.1,h.2.1,h2 c⟩⟩
    ·exact .inr ⟨v,j+1,by rw[h1];congr 2;omega,by simpa using h2,by simp[List.modify_succ_cons];exact⟨h.1,h.2.1,h3⟩⟩
 | [],_ :: _,_,_,h=>h.elim
 | _ :: _,[],_,_,h=>h.elim
theorem Pg {T k:Nat} {z:AV} (h:Vt P T=some (k,z)):∃e l zv,P.underlying T=some (.map k e)∧fC P 20 k=some l∧Cv P l k=true ∧
 (∀w,(zeroValue e).run P w=.ok zv w)∧∀C:Ctx,cZ C z zv:=by
 unfold Vt at h;split at h
 ·rename_i k' e hT
  split at h
  ·rename_i l z' hl hz
   split at h
   ·rename_i hm;simp only[Option.some.injEq,Prod.mk.injEq] at h;obtain⟨rfl,rfl⟩:=h
    unfold aFe at hz;split at hz
    ·rename_i i hi;split at hz
     ·rename_i cs MD;split at hz
      ·rename_i Ll;simp only[Option.some.injEq] at hz;subst hz;refine⟨e,l,_,hT,hl,hm,fun w=>Ce w hi MD,fun C=>?_⟩
       have hc:=gF.vs C cs.toList (List.all_eq_true.1 Ll)
       exact .agg _ _ (by simp) (fun j x y hx hy=>hc.rel j x y hx (by simpa using hy)) (fun j y hy=>hc.one j y (by simpa using hy))
      ·cases hz
     ·rename_i y hy MD;split at hz
      ·simp only[Option.some.injEq] at hz;subst hz;exact⟨e,l,_,hT,hl,hm,fun w=>Ce w hi MD,fun C=>.v _⟩
      ·cases hz
     ·cases hz
    ·cases hz
   ·cases h
  ·cases h
 ·cases h
end
section
variable {P:Program} {h0:Nat→Obj→Prop} {w0:World} {F:Fx} {nt:Nat} {ρ:Nat→Nat→Value} {st:St} {a:Act} {w:World}
theorem WI (S:kX F h0 w0 nt ρ st a w) {T:Nat} {m x z:AV} {ok:Bool} {mv xv:Value} (h:Tl P st T m x ok=some z) (hm:cZ (ctx h0 w0 ρ st w) m mv) (hx:cZ (ctx h0 w0 ρ st w) x xv) :
 ∃r,(Instr.lookup T mv xv ok).run P w=.ok r w∧cZ (ctx h0 w0 ρ st w) z r:=by
 unfold Tl at h;split at h
 ·rename_i s g;split at h
  ·rename_i es k zd he hi;split at h
   ·rename_i hk;obtain⟨e,l,zv,hT,hl,hmk,hz,hzr⟩:=Pg hi
    obtain⟨_,_,b,arr,clock,lC,_,hh,hml⟩:=S.sT s g _ he
    obtain⟨l',us,vs,e1,e2,e3,e4,_⟩:=Pf hk.1 hx hx
    rw[hl] at e1;cases e1
    have hvs:vs=us:=by
     rw[e3] at e4;have hlen:=lU _ _ _ e2
     cases kY:dH P k with
     | true=>rw[kY] at e4;simpa [mk] using e4.symm
     | false =>
       have h1:=oI 20 k l hl kY
       obtain⟨p,rfl⟩:=List.length_eq_one_iff.1 (hlen.1.trans h1)
       obtain⟨q,rfl⟩:=List.length_eq_one_iff.1 (hlen.2.trans h1)
       rw[kY] at e4;simpa [mk] using e4.symm
    subst hvs;have Pe:=Zf hl hx e3 e2 hk.2 hml
    cases hm with
    | mp _ _ hg ho =>
      show ∃r,(Instr.lookup T (ρ s g) xv ok).run P w=.ok r w∧_
      rw[lC,e3];have hck:=Ky w hl hmk e2 arr.isEmpty
      have hfk:=Pd w hl hmk e2 Pe
      rcases GJ hx 0 hk.2 hml with ⟨h1,h2⟩|⟨v,y,j,h1,h2,h3,_⟩
      ·rw[h1] at h;simp only[Option.some.injEq] at h;subst h;rw[e3] at h2;rw[h2] at hfk;refine⟨if ok=true then .tuple #[zv,.bool false] else zv,by
        simp[Instr.lookup,bD hT,MapKept.run_getObj_map hh,hck,hfk,hz w], ?_⟩
       cases ok
       ·exact hzr _
       ·exact .eG _ _ rfl fun i x y hx hy=>by
         match i with
         | 0=>simp at hx hy;subst hx;subst hy;exact hzr _
         | 1=>simp at hx hy;subst hx;subst hy;exact .v _
         | i+2=>simp at hx
      ·rw[h1] at h;simp only[Option.some.injEq] at h;subst h;rw[e3] at h2;rw[h2] at hfk;refine⟨if ok=true then .tuple #[y,.bool true] else y,by
        simp[Instr.lookup,bD hT,MapKept.run_getObj_map hh,hck,hfk], ?_⟩
       cases ok
       ·exact h3
       ·exact .eG _ _ rfl fun i x y hx hy=>by
         match i with
         | 0=>simp at hx hy;subst hx;subst hy;exact h3
         | 1=>simp at hx hy;subst hx;subst hy;exact .v _
         | i+2=>simp at hx
   ·cases h
  ·cases h
 ·cases h
theorem IM (S:kX F h0 w0 nt ρ st a w) {T s g:Nat} {m x y:AV} {e:oB} {mv xv yv:Value} (h:tZ P st T m x y=some (s,g,e))
 (hm:cZ (ctx h0 w0 ρ st w) m mv) (hx:cZ (ctx h0 w0 ρ st w) x xv) (hy:cZ (ctx h0 w0 ρ st w) y yv) :
 ∃w',(Instr.mapUpdate T mv xv yv).run P w=.ok () w'∧kX F h0 w0 nt ρ (st.jB s g (some e)) a w':=by
 unfold tZ at h;split at h
 ·rename_i s' g'
  split at h
  ·rename_i es k zd he hi;split at h
   ·rename_i hk;obtain⟨hk,rY⟩:=hk
    simp only[Option.some.injEq,Prod.mk.injEq] at h;obtain⟨rfl,rfl,rfl⟩:=h
    obtain⟨e,l,zv,hT,hl,hmk,hz,hzr⟩:=Pg hi
    obtain⟨_,_,b,arr,clock,lC,xE,hh,hml⟩:=S.sT s' g' _ he
    obtain⟨l',us,vs,e1,e2,e3,e4,_⟩:=Pf hk.1 hx hx
    rw[hl] at e1;cases e1
    have hvs:vs=us:=by
     rw[e3] at e4;have hlen:=lU _ _ _ e2
     cases kY:dH P k with
     | true=>rw[kY] at e4;simpa [mk] using e4.symm
     | false =>
       have h1:=oI 20 k l hl kY
       obtain⟨p,rfl⟩:=List.length_eq_one_iff.1 (hlen.1.trans h1)
       obtain⟨q,rfl⟩:=List.length_eq_one_iff.1 (hlen.2.trans h1)
       rw[kY] at e4;simpa [mk] using e4.symm
    subst hvs;have Pe:=Zf hl hx e3 e2 hk.2 hml
    clear e4
    subst e3;have oF:dK (ρ s' g')=some b:=by rw[lC];rfl
    have grown:∀o,w.grownBy { w with heap:=w.heap.setIfInBounds b o } (some b):=fun o=>⟨rfl,rfl,rfl,by simp,fun k _ hk=>by
     have gP:b≠k:=fun e=>hk (by rw[e])
     simp[gP]⟩
    cases hm with
    | mp _ _ hg ho =>
      show ∃w',(Instr.mapUpdate T (ρ s' g') _ yv).run P w=.ok () w'∧_
      have hck:=Ky w hl hmk e2 false
      have hfk:=Pd w hl hmk e2 Pe
      have aY:b<w.heap.size:=(Array.getElem?_eq_some_iff.1 hh).1
      rcases GK (z:=y) hx hy 0 hk.2 hml with ⟨h1,h2⟩|⟨v,j,h1,⟨m0,hm0,hmk0⟩,h3⟩
      ·rw[h1] at hfk;refine⟨_,by
        rw[lC];simp only[Instr.mapUpdate,Sem.run_bind,bD hT,MapKept.run_getObj_map hh,Result.andThen_ok,hck,hfk,MapKept.run_setObj_map _ hh];rfl,S.store he oF (grown _) fun C kk=>?_⟩
       refine⟨b,arr.push { key:=mk (dH P k) vs,val:=yv,born:=clock },clock+1,lC,xE,by simp[aY], ?_⟩
       have:=(h2 clock).le kk
       simpa using this
      ·rw[h1] at hfk;have rY:=H5 (P:=P) w (agg:=dH P k) e2 (oI 20 k l hl)
       have hm0':arr[j]? = some m0:=by simpa using hm0
       have hkey:((arr[0+j]?).map (·.key)).getD (mk (dH P k) vs)=mk (dH P k) vs:=by
        rw[Nat.zero_add,hm0'];simp[hmk0]
       refine⟨_,by
        rw[lC];simp only[Instr.mapUpdate,Sem.run_bind,bD hT,MapKept.run_getObj_map hh,Result.andThen_ok,hck,hfk,hkey,rY,MapKept.run_setObj_map _ hh];rfl,S.store he oF (grown _) fun C kk=>?_⟩
       refine⟨b,arr.modify (0+j) fun e=>{ e with key:=mk (dH P k) vs,val:=yv },clock,lC,xE,by simp[aY], ?_⟩
       have:=h3.le kk
       simpa [Array.toList_modify] using this
   ·cases h
  ·cases h
 ·cases h
end
end Go.Ab
end
section
namespace Go.Ab
open Classical
section
variable {P:Program} {h0:Nat→Obj→Prop} {w0:World} {F:Fx} {nt:Nat} {ρ:Nat→Nat→Value} {st:St} {a:Act} {w:World}
theorem PD (S:kX F h0 w0 nt ρ st a w) {T:Nat} {x z:AV} {lo hi:Option Operand} {u:Value} (h:dB P st T x lo hi=some z) (hu:cZ (ctx h0 w0 ρ st w) x u) :
 ∃r,(Instr.sliceAt T u (lo.map a.eval) (hi.map a.eval) none).run P w=.ok r w∧cZ (ctx h0 w0 ρ st w) z r:=by
 unfold dB at h;cases hs:dW P T with
 | none =>
   simp only[hs] at h;split at h
   ·rename_i n sz s g o ha;obtain⟨e,ei,hT,hi,rfl,gP⟩:=Nq ha
    cases he:st.heap s g with
    | none=>simp[he] at h
    | some en =>
      cases en with
      | cells es =>
        simp only[he,Option.some.injEq] at h;subst h;obtain⟨_,_,b1,arr,T1,lC,_⟩:=S.sT s g _ he
        cases hu with
        | ptr _ _ _ b hg hb =>
          refine⟨.slice (some ⟨b,o,none⟩) n n, ?_,.vw s g o n b n hg hb (Nat.le_refl _) (fun ho p n0 c0 hc=>by
           have h2:ρ s g=.slice p n0 c0:=hc
           rw[lC] at h2;cases h2)⟩
          simp[Instr.sliceAt,bD hT,Instr.sureAddr,Instr.sliceBounds,run_sizeOf w hi,lW]
      | _=>simp[he] at h
   ·cases h
 | some t =>
   obtain⟨e,sz,by_⟩:=t
   simp only[hs] at h;obtain⟨ei,ez,hT,Cg,CD,rfl,BX,rfl,yE⟩:=kH hs
   have hiv:∀(o:Option Operand) (n:Int) (k:IntKind) (i:Int),(match o with|some h=>st.ev h|none=>AV.v (.int .i64 n))=.v (.int k i) →
    (match o with|some h=>a.eval h|none=>Value.int .i64 n)=.int k i:=fun o n k i ho=>by
    cases o with
    | none=>simp only at ho ⊢;cases ho;rfl
    | some p =>
      simp only at ho ⊢
      have:=S.ev p
      rw[ho] at this;exact iO this
   have qH:∀(p:Option Addr) (n cap:Nat) (kh kl:IntKind) (H L:Int),n≤cap→(match hi with|some h=>a.eval h|none=>Value.int .i64 n)=.int kh H→(match lo with|some l=>a.eval l|none=>Value.int .i64 0)=.int kl L →
    0≤L→L≤H→H≤n →
    (Instr.sliceAt T (.slice p n cap) (lo.map a.eval) (hi.map a.eval) none).run P w=.ok (.slice (if cap=L.toNat then p else p.map (·.add (L.toNat * ei.size))) (H.toNat-L.toNat) (cap-L.toNat)) w:=by
    intro p n cap kh kl H L mZ hh hl l0 l1 l2;have b1:H≤(cap:Int):=by omega
    have b2:L≤((H.toNat:Nat):Int):=by omega
    have b3:0≤H:=by omega
    have b6:max H 0=H:=by omega
    cases hi with
    | none =>
      simp only[Value.int.injEq] at hh;obtain⟨rfl,rfl⟩:=hh
      cases lo with
      | none =>
        simp only[Value.int.injEq] at hl;obtain⟨rfl,rfl⟩:=hl
        simp[Instr.sliceAt,Instr.slice,Instr.sliceBounds,bD hT,run_sizeOf w Cg]
      | some l =>
        simp only at hl
        simp[Instr.sliceAt,Instr.slice,Instr.sliceBounds,Instr.sliceBound,asIntOf,bD hT,run_sizeOf w Cg,hl,l0,l1]
    | some h =>
      simp only at hh
      cases lo with
      | none =>
        simp only[Value.int.injEq] at hl;obtain⟨rfl,rfl⟩:=hl
        simp[Instr.sliceAt,Instr.slice,Instr.sliceBounds,Instr.sliceBound,asIntOf,bD hT,run_sizeOf w Cg,hh,b3,b1]
      | some l =>
        simp only at hl
        simp[Instr.sliceAt,Instr.slice,Instr.sliceBounds,Instr.sliceBound,asIntOf,bD hT,run_sizeOf w Cg,hh,hl,l0,b3,b1,b6,l1]
   cases x with
   | sl n cs =>
     simp only at h
     split at h
     ·rename_i kh H kl L e1 e2;split at h
      ·rename_i hc;obtain⟨c1,c2,c3,c4⟩:=hc
       simp only[Option.some.injEq] at h;subst h;have e1':=hiv hi n kh H e1
       have e2':=hiv lo 0 kl L e2
       have hHL:(H-L).toNat=H.toNat-L.toNat:=by omega
       cases hu with
       | LZ n cap p mZ =>
         refine⟨_,qH p n cap kh kl H L mZ e1' e2' c1 c2 c3, ?_⟩
         rw[hHL];simp only[List.drop_nil,List.take_nil];exact .LZ _ _ _ (by omega)
       | sl n cs b off cap arr T' fr mZ hb hle hr h1 =>
         refine⟨_,qH _ n cap kh kl H L mZ e1' e2' c1 c2 c3, ?_⟩
         rw[hHL];by_cases hm:cap=L.toNat
         ·have hz:H.toNat-L.toNat=0:=by omega
          rw[if_pos hm,hz];simp only[Nat.zero_mul,List.take_zero];exact .LZ _ _ _ (by omega)
         ·rw[if_neg hm];simp only[Option.map_some,lW];have hbound:L.toNat * ei.size+(H.toNat-L.toNat) * ei.size≤cs.length:=by
           rw[c4,← Nat.add_mul];exact Nat.mul_le_mul_right _ (by omega)
          refine .sl _ _ b (off+L.toNat * ei.size) _ arr T' fr (by omega) hb (by simp;omega) (fun i x y hx hy=>?_) (fun i y Db hy=>?_)
          ·rw[List.getElem?_take] at hx;split at hx
           ·rw[List.getElem?_drop] at hx;exact hr _ x y hx (by rw[← Nat.add_assoc];exact hy)
           ·cases hx
          ·simp only[List.length_take,List.length_drop] at Db
           exact h1 (L.toNat * ei.size+i) y (by omega) (by rw[← Nat.add_assoc];exact hy)
      ·cases h
     ·cases h
   | v xv =>
     split at h
     ·rename_i heq;cases heq
     ·rename_i heq;cases heq
      split at h
      ·rename_i kh H kl L e1 e2;split at h
       ·rename_i hc;obtain⟨rfl,rfl⟩:=hc
        simp only[Option.some.injEq] at h;subst h;have:=iO hu
        subst this;have e1':=hiv hi 0 kh 0 e1
        have e2':=hiv lo 0 kl 0 e2
        refine⟨_,qH none 0 0 kh kl 0 0 (Nat.le_refl _) e1' e2' (by omega) (by omega) (by omega), ?_⟩
        simp
        exact .v _
       ·cases h
      ·cases h
     ·rename_i heq;cases heq
     ·rename_i heq;cases heq
     ·cases h
   | own s g =>
     simp only at h
     cases he:st.heap s g with
     | none=>simp[he] at h
     | some en =>
       cases en with
       | row e' tT n es =>
         simp only[he] at h;split at h
         ·rename_i kh H kl L e1 e2;split at h
          ·rename_i hc;obtain⟨c1,c2,c3⟩:=hc
           have e1':=hiv hi n kh H e1
           have e2':=hiv lo 0 kl L e2
           have hHL:(H-L).toNat=H.toNat-L.toNat:=by omega
           obtain⟨aY,_,xs,ho,zK⟩:=S.sT s g _ he
           cases hu with
           | own _ _ hg h1 =>
             show ∃r,(Instr.sliceAt T (ρ s g) (lo.map a.eval) (hi.map a.eval) none).run P w=.ok r w∧_
             rcases ho.2 with ⟨p,lC,hn⟩|⟨b',cap,cur,lC,_,hh,Uz,_,_,ht,qT⟩
             ·rw[lC];subst hn;have hLH:L=H:=by omega
              rw[if_pos ⟨hLH,by omega⟩] at h
              simp only[Option.some.injEq] at h;subst h;have hz:H.toNat-L.toNat=0:=by omega
              refine⟨_,qH p 0 0 kh kl H L (Nat.le_refl _) e1' e2' c1 c2 c3, ?_⟩
              rw[hz];exact .LZ _ _ _ (by omega)
             ·rw[lC];refine⟨_,qH _ n cap kh kl H L Uz e1' e2' c1 c2 c3, ?_⟩
              split at h
              ·rename_i hLH;simp only[Option.some.injEq] at h;subst h;have hz:H.toNat-L.toNat=0:=by omega
               rw[hz];exact .LZ _ _ _ (by omega)
              ·rename_i hLH;simp only[Option.some.injEq] at h;subst h;rw[if_neg (by omega),hHL]
               simp only[Option.map_some,lW,Nat.zero_add];exact .vw s g _ _ b' _ hg (by show dK (ρ s g)=_;rw[lC,kJ qT]) (by omega) (fun hz p n0 c0 hc=>by
                have h3:L.toNat=0:=(Nat.mul_eq_zero.1 hz).resolve_right (by omega)
                have h2:ρ s g=.slice p n0 c0:=hc
                rw[lC] at h2;simp only[Value.slice.injEq] at h2;omega)
          ·cases h
         ·cases h
       | _=>simp[he] at h
   | vw s g o k =>
     cases o with
     | succ o=>simp at h
     | zero =>
     simp only at h
     split at h
     ·rename_i e' tT n es ho' Gx he
      split at h
      ·rename_i kh H kl L e1 e2;split at h
       ·rename_i hc;obtain⟨c1,c2,c3⟩:=hc
        simp only[Option.some.injEq] at h;subst h;obtain⟨aY,_,xs,ho,zK⟩:=S.sT s g _ he
        cases hu with
        | vw _ _ _ _ b cap hg hb mZ zD =>
          have oF:dK (ρ s g)=some b:=hb
          rcases ho.2 with ⟨p,lC,hn⟩|⟨b',CC,cur,lC,_,hh,Uz,_,_,ht,qT⟩
          ·rw[lC,pX] at oF;cases oF
          ·have xL:b'=b:=by rw[lC,kJ qT] at oF;simpa using oF
           subst xL;have hcc:cap=CC:=zD rfl _ _ _ lC
           subst hcc;have f1:a.eval ho'=.int kh H:=by
            have:=S.ev ho'
            rw[e1] at this;exact iO this
           have f2:a.eval Gx=.int kl L:=by
            have:=S.ev Gx
            rw[e2] at this;exact iO this
           have b1:H≤(cap:Int):=by omega
           have b2:L≤((H.toNat:Nat):Int):=by omega
           have b3:0≤H:=by omega
           have b6:max H 0=H:=by omega
           have b7:¬cap=L.toNat:=by omega
           refine⟨.slice (some ⟨b',L.toNat * ei.size,none⟩) (H.toNat-L.toNat) (cap-L.toNat), ?_, ?_⟩
           ·simp[Instr.sliceAt,Instr.slice,Instr.sliceBounds,Instr.sliceBound,asIntOf,bD hT,run_sizeOf w Cg,f1,f2,c1,b3,b1,b6,b2,b7,lW,show L≤H by omega]
           ·rw[show (H-L).toNat=H.toNat-L.toNat by omega]
            exact .vw s g _ _ b' _ hg hb (by omega) (fun hz p n0 c0 hc=>by
             have h3:L.toNat=0:=(Nat.mul_eq_zero.1 hz).resolve_right (by omega)
             have h2:ρ s g=.slice p n0 c0:=hc
             rw[lC] at h2;simp only[Value.slice.injEq] at h2;omega)
       ·cases h
      ·cases h
     ·cases h
   | _=>first|(simp at h;done)|(cases h;done)
theorem IN (S:kX F h0 w0 nt ρ st a w) {T:Nat} {x z:AV} {lo:Option Operand} {hi mx:Operand} {u:Value} (h:Bb P st T x lo hi mx=some z) (hu:cZ (ctx h0 w0 ρ st w) x u) :
 ∃r,(Instr.sliceAt T u (lo.map a.eval) (some (a.eval hi)) (some (a.eval mx))).run P w=.ok r w∧cZ (ctx h0 w0 ρ st w) z r:=by
 unfold Bb at h;cases hs:dW P T with
 | none=>simp[hs] at h
 | some t =>
   obtain⟨e,sz,by_⟩:=t
   simp only[hs] at h;obtain⟨ei,ez,hT,Cg,CD,rfl,BX,rfl,yE⟩:=kH hs
   have qK:∀(o:Operand) (k:IntKind) (i:Int),st.ev o=.v (.int k i)→a.eval o=.int k i:=fun o k i ho=>by
    have:=S.ev o
    rw[ho] at this;exact iO this
   split at h
   ·rename_i kh H km M kl L e1 e2 e3;have f1:=qK _ _ _ e1
    have f2:=qK _ _ _ e2
    have qH:∀(p:Option Addr) (n cap:Nat),n≤cap→0≤L→L≤H→H=M→H≤n →
     (Instr.sliceAt T (.slice p n cap) (lo.map a.eval) (some (a.eval hi)) (some (a.eval mx))).run P w=.ok (.slice (if H.toNat=L.toNat then p else p.map (·.add (L.toNat * ei.size))) (H.toNat-L.toNat) (H.toNat-L.toNat)) w:=by
     intro p n cap mZ l0 l1 l2 l3;subst l2;have b1:H≤(cap:Int):=by omega
     have b2:L≤((H.toNat:Nat):Int):=by omega
     have b3:0≤H:=by omega
     have b4:H≤((H.toNat:Nat):Int):=by omega
     have b6:max H 0=H:=by omega
     cases lo with
     | none =>
       simp only[AV.v.injEq,Value.int.injEq] at e3;obtain⟨rfl,rfl⟩:=e3
       simp[Instr.sliceAt,Instr.slice,Instr.sliceBounds,Instr.sliceBound,asIntOf,bD hT,run_sizeOf w Cg,f1,f2,b3,b1,b4,b6]
     | some l =>
       simp only at e3
       have f3:=qK _ _ _ e3
       simp[Instr.sliceAt,Instr.slice,Instr.sliceBounds,Instr.sliceBound,asIntOf,bD hT,run_sizeOf w Cg,f1,f2,f3,l0,l1,b3,b1,b2,b4,b6]
    split at h
    ·rename_i n cs;split at h
     ·rename_i hc;obtain⟨c1,c2,c3,c4,c5⟩:=hc
      simp only[Option.some.injEq] at h;subst h;have hHL:(H-L).toNat=H.toNat-L.toNat:=by omega
      cases hu with
      | LZ n cap p mZ =>
        refine⟨_,qH p n cap mZ c1 c2 c3 c4, ?_⟩
        rw[hHL];simp only[List.drop_nil,List.take_nil];exact .cl0 _ _
      | sl n cs b off cap arr T' fr mZ hb hle hr h1 =>
        refine⟨_,qH _ n cap mZ c1 c2 c3 c4, ?_⟩
        rw[hHL];by_cases hm:H.toNat=L.toNat
        ·have hz:H.toNat-L.toNat=0:=by omega
         rw[if_pos hm,hz];simp only[Nat.zero_mul,List.take_zero];exact .cl0 _ _
        ·rw[if_neg hm];simp only[Option.map_some,lW];have hbound:L.toNat * ei.size+(H.toNat-L.toNat) * ei.size≤cs.length:=by
          rw[c5,← Nat.add_mul];exact Nat.mul_le_mul_right _ (by omega)
         refine .cl _ _ b (off+L.toNat * ei.size) arr T' fr hb (by simp;omega) (fun i x y hx hy=>?_) (fun i y Db hy=>?_)
         ·rw[List.getElem?_take] at hx;split at hx
          ·rw[List.getElem?_drop] at hx;exact hr _ x y hx (by rw[← Nat.add_assoc];exact hy)
          ·cases hx
         ·simp only[List.length_take,List.length_drop] at Db
          exact h1 (L.toNat * ei.size+i) y (by omega) (by rw[← Nat.add_assoc];exact hy)
     ·cases h
    ·split at h
     ·rename_i hc;obtain⟨c1,c2,c3⟩:=hc
      simp only[Option.some.injEq] at h;subst h;have:=iO hu
      subst this;refine⟨_,qH none 0 0 (Nat.le_refl _) (by omega) (by omega) (by omega) (by omega), ?_⟩
      subst c2;simp
      exact .v _
     ·cases h
    ·rename_i s g;cases he:st.heap s g with
     | none=>simp[he] at h
     | some en =>
       cases en with
       | row e' tT n es =>
         simp only[he] at h;split at h
         ·rename_i hc;obtain⟨c1,c2,c3,c4⟩:=hc
          simp only[Option.some.injEq] at h;subst h;obtain⟨aY,_,xs,ho,zK⟩:=S.sT s g _ he
          have hrun3:∀(p:Option Addr) (cap:Nat),n≤cap→∃q,(Instr.sliceAt T (.slice p n cap) (lo.map a.eval) (some (a.eval hi)) (some (a.eval mx))).run P w=.ok (.slice q (H.toNat-L.toNat) (M.toNat-L.toNat)) w:=by
           intro p cap mZ;have b1:M≤(cap:Int):=by omega
           have b2:L≤((H.toNat:Nat):Int):=by omega
           have b3:0≤H:=by omega
           have b4:H≤((M.toNat:Nat):Int):=by omega
           have b5:0≤M:=by omega
           have b6:max M 0=M:=by omega
           have b7:max H 0=H:=by omega
           cases lo with
           | none =>
             simp only[AV.v.injEq,Value.int.injEq] at e3;obtain⟨rfl,rfl⟩:=e3
             exact⟨_,by simp[Instr.sliceAt,Instr.slice,Instr.sliceBounds,Instr.sliceBound,asIntOf,bD hT,run_sizeOf w Cg,f1,f2,b3,b1,b4,b5,b6,b7,c3]<;>rfl⟩
           | some l =>
             simp only at e3
             have f3:=qK _ _ _ e3
             exact⟨_,by simp[Instr.sliceAt,Instr.slice,Instr.sliceBounds,Instr.sliceBound,asIntOf,bD hT,run_sizeOf w Cg,f1,f2,f3,c1,c2,c3,b3,b1,b2,b4,b5,b6,b7]<;>rfl⟩
          cases hu with
          | own _ _ hg h1 =>
            show ∃r,(Instr.sliceAt T (ρ s g) _ _ _).run P w=.ok r w∧_
            have TT:∃p cap,ρ s g=.slice p n cap∧n≤cap:=by
             rcases ho.2 with ⟨p,lC,hn⟩|⟨b',cap,cur,lC,_,hh,Uz,_⟩
             ·exact⟨p,0,by rw[lC,hn],by omega⟩
             ·exact⟨_,cap,lC,Uz⟩
            obtain⟨p,cap,lC,Uz⟩:=TT
            rw[lC];obtain⟨q,hq⟩:=hrun3 p cap Uz
            exact⟨_,hq,by rw[show (H-L).toNat=H.toNat-L.toNat by omega];exact .LZ _ _ _ (by omega)⟩
         ·cases h
       | _=>simp[he] at h
    ·cases h
   ·cases h
theorem aAh {C:Ctx} {s g off:Nat} {v:Value} (h:cZ C (.ptr s g off) v):∃b off,v=.pointer (some ⟨b,off,none⟩):=by
 cases h;exact⟨_,_,rfl⟩
theorem aDu {C:Ctx} {cs:List AV} {o:Nat} {v:Value} (h:cZ C (.ip cs o) v):∃b off,v=.pointer (some ⟨b,off,none⟩):=by
 cases h;exact⟨_,_,rfl⟩
theorem aAi {C:Ctx} {vs:List AV} {v:Value} (h:cZ C (.eG vs) v):∃ar,v=.tuple ar∧vs.length=ar.size∧∀(i:Nat) (x:AV) (y:Value),vs[i]? = some x→ar[i]? = some y→cZ C x y:=by
 cases h with
 | eG cs a hl hr=>exact⟨a,rfl,hl,hr⟩
theorem PE (S:kX F h0 w0 nt ρ st a w) {o:Oper} {x:AV} (h:iX P st o.op=some x) :
 ∃v,(execOp a.eval o).run P w=.ok (.value v) w∧cZ (ctx h0 w0 ρ st w) x v:=by
 cases qK:o.op with
 | move y=>rw[qK] at h;simp[iX] at h;subst h;exact⟨_,by simp[execOp,qK],S.ev y⟩
 | assign y=>rw[qK] at h;simp[iX] at h;subst h;exact⟨_,by simp[execOp,qK],S.ev y⟩
 | pick c y z =>
   rw[qK] at h;simp only[iX] at h;split at h
   ·rename_i t hc;simp only[Option.some.injEq] at h;subst h;have:=S.ev c
    rw[hc] at this;have:=iO this
    refine⟨if t=true then a.eval y else a.eval z,by simp[execOp,qK,this,asBool], ?_⟩
    cases t
    ·exact S.ev z
    ·exact S.ev y
   ·cases h
 | binOp op T y z yT =>
   rw[qK] at h;simp only[iX] at h;obtain⟨r,hr,gC⟩:=UA (w:=w) y z h (S.ev y) (S.ev z)
   exact⟨r,by simp only[execOp,qK];rw[dQ hr];rfl,gC⟩
 | unOp op T y =>
   rw[qK] at h;simp only[iX] at h;obtain⟨r,hr,gC⟩:=C4 (P:=P) (w:=w) h (S.ev y)
   exact⟨r,by simp only[execOp,qK];rw[dQ hr];rfl,gC⟩
 | convert src dst y =>
   rw[qK] at h;simp only[iX] at h;split at h
   ·rename_i k' n k ks hy hk hks
    simp only[Option.some.injEq] at h;subst h;have:=S.ev y
    rw[hy] at this;have hv:=iO this
    have hu:∀ {t:Nat} {k:IntKind},intKind P t=some k→P.underlying t=some (.int k):=fun {t k} hk=>by
     unfold intKind at hk;split at hk
     ·rename_i hu;cases hk;exact hu
     ·cases hk
    refine⟨_, ?_,.v _⟩
    simp[execOp,qK,hv,convert,bD (hu hk),bD (hu hks),Conv.intToInt]
   ·cases h
 | nilCheck y =>
   rw[qK] at h;simp only[iX] at h;split at h
   ·rename_i s g off hy;simp only[Option.some.injEq] at h;subst h;have hr:=S.ev y
    rw[hy] at hr;obtain⟨b,off',hv⟩:=aAh hr
    exact⟨a.eval y,by simp[execOp,qK,hv],hr⟩
   ·rename_i cs o hy;simp only[Option.some.injEq] at h;subst h;have hr:=S.ev y
    rw[hy] at hr;obtain⟨b,off',hv⟩:=aDu hr
    exact⟨a.eval y,by simp[execOp,qK,hv],hr⟩
   ·cases h
 | fieldAddr T y f =>
   rw[qK] at h;simp only[iX] at h;split at h
   ·rename_i k hf;obtain⟨r,hr,gC⟩:=Us (w:=w) hf h (S.ev y)
    exact⟨r,by simp only[execOp,qK];rw[dQ hr];rfl,gC⟩
   ·cases h
 | field T y f =>
   rw[qK] at h;simp only[iX] at h;unfold Cd at h;split at h
   ·rename_i cs hy;have hr:=S.ev y
    rw[hy] at hr;obtain⟨u,hu⟩:∃u,a.eval y=u:=⟨_,rfl⟩
    rw[hu] at hr;cases hr with
    | agg _ ar hl gC h1 =>
      have key:∀off b k,fieldInfo P T f=some (off,b,k)→∃fs fd i d,P.underlying T=some (.struct fs)∧fs[f]? = some fd∧fd.offset=off∧P.info? fd.type=some i∧P.underlying fd.type=some d∧dH P fd.type=b∧i.size=k∧(b=true∨k=1):=fun off b k hf=>by
       unfold fieldInfo at hf;split at hf
       ·rename_i fs hT;split at hf
        ·rename_i fd hfd;split at hf
         ·rename_i b' k' hld
          split at hf
          ·rename_i hc;simp only[Option.some.injEq,Prod.mk.injEq] at hf;obtain⟨rfl,rfl,rfl⟩:=hf
           obtain⟨i,d,hi,hd,kY,hk⟩:=Be hld
           exact⟨fs,fd,i,d,hT,hfd,rfl,hi,hd,kY,hk,hc⟩
          ·cases hf
         ·cases hf
        ·cases hf
       ·cases hf
      split at h
      ·rename_i off k hf;obtain⟨fs,fd,i,d,hT,hfd,rfl,hi,hd,kY,rfl,_⟩:=key _ _ _ hf
       split at h
       ·rename_i hle;simp only[Option.some.injEq] at h;subst h;have hp:=Hc w hd hi ar.toList fd.offset (by rw[kY];simp) (by simp;omega)
        rw[kY] at hp;simp only[mk,if_true,Array.toArray_toList] at hp;refine⟨_,by
         simp only[execOp,qK,hu];rw[dQ (show (Instr.field T (Value.agg ar) f).run P w=.ok _ w by
          simp only[Instr.field,Sem.run_bind,bD hT,Result.andThen_ok,hfd,asAgg,Sem.run_pure];exact hp)]
         rfl,.agg _ _ (by simp[hl]) (fun j x z hx hz=>?_) fun j z hz=>?_⟩
        ·rw[List.getElem?_take] at hx;split at hx
         ·rename_i hj;rw[List.getElem?_drop] at hx;refine gC _ x z hx ?_
          simpa [hj,List.getElem?_take,List.getElem?_drop] using hz
         ·cases hx
        ·have hz':ar[fd.offset+j]? = some z:=by
          simp only[List.getElem?_toArray,List.getElem?_take,List.getElem?_drop] at hz;split at hz
          ·simpa using hz
          ·cases hz
         exact h1 _ z hz'
       ·cases h
      ·rename_i off k hf;obtain⟨fs,fd,i,d,hT,hfd,rfl,hi,hd,kY,rfl,hk⟩:=key _ _ _ hf
       have hk1:i.size=1:=by simpa using hk
       have aY:fd.offset<cs.length:=(List.getElem?_eq_some_iff.1 h).1
       have hp:=Hc w hd hi ar.toList fd.offset (fun _=>hk1) (by simp;omega)
       rw[kY] at hp;simp only[mk,Bool.false_eq_true,if_false,Array.toArray_toList] at hp;refine⟨_,by
        simp only[execOp,qK,hu];rw[dQ (show (Instr.field T (Value.agg ar) f).run P w=.ok _ w by
         simp only[Instr.field,Sem.run_bind,bD hT,Result.andThen_ok,hfd,asAgg,Sem.run_pure];exact hp)]
        rfl, ?_⟩
       refine gC fd.offset x _ h ?_
       have:fd.offset<ar.size:=by omega
       rw[hk1,List.take_one];simp[List.head?_drop,this]
      ·cases h
   ·cases h
 | indexAddr T y i =>
   rw[qK] at h;simp only[iX] at h;obtain⟨r,hr,gC⟩:=Ut S h (S.ev y) (S.ev i)
   exact⟨r,by simp only[execOp,qK];rw[dQ hr];rfl,gC⟩
 | load T y =>
   rw[qK] at h;simp only[iX] at h;cases hra:qS st (st.ev y) with
   | none=>simp[hra,cT] at h
   | some cs =>
     simp only[hra,cT] at h;obtain⟨r,hr,gC⟩:=Xa S hra h (S.ev y)
     exact⟨r,by simp only[execOp,qK];rw[dQ hr];rfl,gC⟩
 | extract t i =>
   rw[qK] at h;simp only[iX] at h;split at h
   ·rename_i vs ht;have hr:=S.ev t
    rw[ht] at hr;obtain⟨ar,hv,hl,gC⟩:=aAi hr
    have hi:i<vs.length:=(List.getElem?_eq_some_iff.1 h).1
    have Db:i<ar.size:=by omega
    refine⟨ar[i], ?_,gC i x ar[i] h (by simp[Db])⟩
    simp[execOp,qK,hv,Instr.extract,Db]
   ·cases h
 | build T parts =>
   rw[qK] at h;simp only[iX] at h;obtain⟨r,hr,gC⟩:=MC S h
   exact⟨r,by simp only[execOp,qK];rw[dQ hr];rfl,gC⟩
 | slice T y lo hi mx =>
   rw[qK] at h;cases mx with
   | some m =>
     cases hi with
     | none=>simp[iX] at h
     | some hh =>
       simp only[iX] at h;obtain⟨r,hr,gC⟩:=IN S h (S.ev y)
       exact⟨r,by simp only[execOp,qK,Option.map_some];rw[dQ hr];rfl,gC⟩
   | none =>
     simp only[iX] at h;obtain⟨r,hr,gC⟩:=PD S h (S.ev y)
     exact⟨r,by simp only[execOp,qK,Option.map_none];rw[dQ hr];rfl,gC⟩
 | lookup T y i ok =>
   rw[qK] at h;simp only[iX] at h;obtain⟨r,hr,gC⟩:=WI S h (S.ev y) (S.ev i)
   exact⟨r,by simp only[execOp,qK];rw[dQ hr];rfl,gC⟩
 | makeFunc fn first captured =>
   rw[qK] at h;cases fn with
   | func f =>
     simp only[iX] at h;split at h
     ·rename_i hf;subst hf;simp only[Option.some.injEq] at h;subst h;have gC:lS (ctx h0 w0 ρ st w) (captured.toList.map st.ev) (captured.toList.map a.eval):=lS.map _ _ _ fun p _=>S.ev p
      refine⟨.func (.func f) #[] (captured.map a.eval), ?_,.rW f _ _ (by simp) fun i x y hx hy=>gC.rel i x y hx (by simpa using hy)⟩
      simp[execOp,qK,Instr.makeFunc]
     ·cases h
   | _=>simp[iX] at h
 | _=>rw[qK] at h;simp[iX] at h
end
end Go.Ab
end
section
namespace Go.Ab
open Classical
theorem cZ.flat {C D:Ctx} {x:AV} {v:Value} (hf:Flat x) (hr:cZ C x v) (hh:∀b o,C.h b o→D.h b o):cZ D x v:=by
 induction hr with
 | v x=>exact .v x
 | agg cs a hl _ h1 ih=>cases hf with|agg _ h=>exact .agg cs a hl (fun i x y hx hy=>ih i x y hx hy (h x (List.mem_of_getElem? hx))) h1
 | LZ n cap p mZ=>exact .LZ n cap p mZ
 | sl n cs b off cap arr T fr mZ hb hle _ h1 ih=>cases hf with|sl _ _ h=>exact .sl n cs b off cap arr T fr mZ (hh _ _ hb) hle (fun i x y hx hy=>ih i x y hx hy (h x (List.mem_of_getElem? hx))) h1
 | cl0 n p=>exact .cl0 n p
 | cl n cs b off arr T fr hb hle _ h1 ih=>cases hf with|cl _ _ h=>exact .cl n cs b off arr T fr (hh _ _ hb) hle (fun i x y hx hy=>ih i x y hx hy (h x (List.mem_of_getElem? hx))) h1
 | ip cs o b off arr T fr hb hle _ h1 ih=>cases hf with|ip _ _ h=>exact .ip cs o b off arr T fr (hh _ _ hb) hle (fun i x y hx hy=>ih i x y hx hy (h x (List.mem_of_getElem? hx))) h1
 | ptr=>cases hf
 | own=>cases hf
 | vw=>cases hf
 | mp=>cases hf
 | rW f cs a hl _ ih=>cases hf with|rW _ _ h=>exact .rW f cs a hl (fun i x y hx hy=>ih i x y hx hy (h x (List.mem_of_getElem? hx)))
 | eG cs a hl _ ih=>cases hf with|eG _ h=>exact .eG cs a hl (fun i x y hx hy=>ih i x y hx hy (h x (List.mem_of_getElem? hx)))
theorem cZ.Ph {C D:Ctx} {x:AV} {v:Value} (hf:iE x) (hr:cZ C x v):cZ D x v:=by
 induction hr with
 | v x=>exact .v x
 | agg cs a hl _ h1 ih=>cases hf with|agg _ h=>exact .agg cs a hl (fun i x y hx hy=>ih i x y hx hy (h x (List.mem_of_getElem? hx))) h1
 | eG cs a hl _ ih=>cases hf with|eG _ h=>exact .eG cs a hl (fun i x y hx hy=>ih i x y hx hy (h x (List.mem_of_getElem? hx)))
 | _=>cases hf
def bare (h:Nat→Obj→Prop):Ctx:=⟨h,fun _ _=>undef,fun _=>0⟩
inductive Se:AV→Prop
 | v (x:Value):Se (.v x)
 | agg (cs:List AV) (h:∀x∈cs,Se x):Se (.agg cs)
 | eG (cs:List AV) (h:∀x∈cs,Se x):Se (.eG cs)
 | own (s g:Nat):Se (.own s g)
theorem iE.aDv {x:AV} (h:iE x):Se x:=by
 induction h with
 | v x=>exact .v x
 | agg cs _ ih=>exact .agg cs ih
 | eG cs _ ih=>exact .eG cs ih
theorem cZ.aDv {C D:Ctx} {x:AV} {v:Value} (hf:Se x) (hr:cZ C x v) (hc:∀s,C.aT s≤D.aT s) (lC:∀s g,g<C.aT s→D.ρ s g=C.ρ s g):cZ D x v:=by
 induction hr with
 | v x=>exact .v x
 | agg cs a hl _ h1 ih=>cases hf with|agg _ h=>exact .agg cs a hl (fun i x y hx hy=>ih i x y hx hy (h x (List.mem_of_getElem? hx))) h1
 | eG cs a hl _ ih=>cases hf with|eG _ h=>exact .eG cs a hl (fun i x y hx hy=>ih i x y hx hy (h x (List.mem_of_getElem? hx)))
 | own s g hg ho=>rw[← lC s g hg];exact .own s g (Nat.lt_of_lt_of_le hg (hc s)) (by rw[lC s g hg];exact ho)
 | _=>cases hf
def newHs (h0:Nat→Obj→Prop) (w w':World) (vs:List Value):Nat→Obj→Prop :=
 fun b o=>w'.heap[b]? = some o∧(b<w.heap.size→h0 b o)∧∀x∈vs,dK x≠some b
def PF (h0:Nat→Obj→Prop) (w w':World) (r:AV) (v:Value):Prop :=
 ∃vs:List Value,(∀x∈vs,x.oneCell'=true)∧(∀(i j:Nat) (x y:Value) (b:Nat),vs[i]? = some x→vs[j]? = some y→dK x=some b→dK y=some b→i=j) ∧
  (∀x∈vs,∀b,dK x=some b→w.heap.size≤b)∧(∀d c,(ZF d c r).2.length=vs.length) ∧
  ∀(D:Ctx) (d c:Nat),(∀b o,newHs h0 w w' vs b o→D.h b o)→(∀(i:Nat) (x:Value),vs[i]? = some x→c+i<D.aT d∧D.ρ d (c+i)=x) →
   cZ D (ZF d c r).1 v∧∀(i:Nat) (e:oB) (x:Value),(ZF d c r).2[i]? = some e→vs[i]? = some x→nJ D w' w.heap.size x e
def IJ (P:Program) (g:Nat) (xs:List AV) (r:AV):Prop :=
 ∀(w:World) (h0:Nat→Obj→Prop) (vs:Array Value),(∀b o,h0 b o→w.heap[b]? = some o)→lS (bare h0) xs vs.toList →
  Calls P g vs w fun e w'=>∃v,e=.returned v∧PF h0 w w' r v∧w.grownBy w' none
def WJ (P:Program) (g e sz n:Nat) (cs xs:List AV) (r:AV):Prop :=
 ∀(w:World) (h0:Nat→Obj→Prop) (v0:Value) (ys:List Value) (vs:Array Value),(∀b o,h0 b o→w.heap[b]? = some o)→(∀b o,h0 b o→dK v0≠some b)→oH w 0 e sz v0 n ys→gF (bare h0) cs ys →
  lS (bare h0) xs vs.toList→Calls P g (#[v0]++vs) w fun en w'=>∃v,en=.returned v∧w.grownBy w' (dK v0) ∧
   match r with
   | .uniq e' tT n' Ek=>∃zs,oH w' 0 e' tT v n' zs∧gF (bare h0) Ek zs∧∀b,dK v=some b→dK v0=some b∨w.heap.size≤b
   | .eG [.uniq e' tT n' Ek]=>v=.tuple #[]∧∃zs,oH w' 0 e' tT v0 n' zs∧gF (bare h0) Ek zs
   | _=>False
def Ia (P:Program) (g:Nat) (xs:List AV) (r:AV):Prop :=
 match xs with
 | .uniq e sz n cs :: rest=>WJ P g e sz n cs rest r
 | xs=>IJ P g xs r
def Ie (P : Program) (g : Nat) : Prop := ∃ fn, P.funcs[g]? = some fn ∧ (fn.name == "runtime.NumGoroutine") = false ∧ fn.body.isSome = true
def rH (P:Program) (call:Nat→List AV→Option AV):Prop:=∀g xs r,call g xs=some r→Ie P g∧Ia P g xs r
theorem IP {f:Nat→AV→AV × List oB}:∀(xs:List AV) (c:Nat),(∀x∈xs,∀c,f c x=(x,[]))→qQ f c xs=(xs,[])
 | [],c,_=>rfl
 | x :: xs,c,h=>by
   simp only[qQ,h x (by simp),List.length_nil,Nat.add_zero,IP xs c fun y hy=>h y (by simp[hy]),List.nil_append]
theorem Jv {x:AV} (h:Flat x) (d c:Nat):zB d c x=(x,[]):=by cases h<;>rfl
theorem GL {x:AV} (h:Flat x) (d c:Nat):Uq d c x=(x,[]):=by
 cases h with
 | agg cs h=>simp only[Uq,IP (f:=zB d) cs c fun x hx c=>Jv (h x hx) d c]
 | _=>rfl
theorem Ig {x:AV} (h:Flat x) (d c:Nat):ZF d c x=(x,[]):=by
 cases h with
 | eG cs h=>simp only[ZF,IP (f:=Uq d) cs c fun x hx c=>GL (h x hx) d c]
 | agg cs h=>exact GL (.agg cs h) d c
 | _=>rfl
theorem GM {h0:Nat→Obj→Prop} {w w':World} {r:AV} {v:Value} (hf:Flat r) (h:cZ (bare (newHs h0 w w' [])) r v):PF h0 w w' r v :=
 ⟨[],by simp,by simp,by simp,fun d c=>by rw[Ig hf];rfl,fun D d c hD _=>by
  rw[Ig hf];exact⟨h.flat hf hD,by simp⟩⟩
theorem nJ.base {C:Ctx} {w:World} {b b':Nat} {v:Value} {e:oB} (h:nJ C w b v e) (hb:b'≤b):nJ C w b' v e:=by
 cases e with
 | cells cs=>obtain⟨k,arr,T,h1,h2,h3⟩:=h;exact⟨k,arr,T,h1,Nat.le_trans hb h2,h3⟩
 | row e sz n cs=>obtain⟨xs,ho,hc⟩:=h;exact⟨xs,zF ho hb,hc⟩
 | map es=>obtain⟨k,arr,T,h1,h2,h3⟩:=h;exact⟨k,arr,T,h1,Nat.le_trans hb h2,h3⟩
theorem Pj {w:World} {b b' e sz n:Nat} {v:Value} {xs:List Value} (h:oH w b e sz v n xs) (hb:∀k,dK v=some k→b'≤k):oH w b' e sz v n xs:=by
 refine⟨h.1, ?_⟩
 rcases h.2 with h|⟨g,cap,cur,rfl,h1,h2,h3,h4,h5,h6,hc⟩
 ·exact .inl h
 ·exact .inr ⟨g,cap,cur,rfl,hb g (kJ hc),h2,h3,h4,h5,h6,hc⟩
theorem jI {α:Type}:∀(l:List (Option α)) (r:List α),cP l=some r→l=r.map some
 | [],r,h=>by simp[cP] at h;subst h;rfl
 | none :: l,r,h=>by simp[cP] at h
 | some x :: l,r,h=>by
   simp only[cP,Option.map_eq_some_iff] at h;obtain⟨r',h',rfl⟩:=h
   rw[jI l r' h'];rfl
section
variable {P:Program} {h0:Nat→Obj→Prop} {w0:World} {F:Fx} {nt:Nat} {ρ:Nat→Nat→Value} {st:St} {a:Act} {w:World}
def Dv (h0:Nat→Obj→Prop) (w0 w:World):Nat→Obj→Prop:=fun b o=>w.heap[b]? = some o∧(b<w0.heap.size→h0 b o)
theorem Fj {D:Ctx} {base e sz n:Nat} {v:Value} {xs:List Value} {cs:List AV} (hD:∀b o,dK v=some b→base≤b→w.heap[b]? = some o→D.h b o) (h:oH w base e sz v n xs) (hc:gF D cs xs):cZ D (.sl n cs) v:=by
 rcases h.2 with ⟨p,rfl,hn⟩|⟨g,cap,cur,rfl,hb,hg,Uz,_,IQ,ht,qT⟩
 ·subst hn;have:xs.length=0:=by rw[h.1];simp
  have:=hc.len
  have hnil:=List.length_eq_zero_iff.1 (show cs.length=0 by omega)
  subst hnil;exact .LZ 0 0 p (by omega)
 ·have hl:=hc.len
  have hx:=h.1
  have hle:n * sz≤cap * sz:=Nat.mul_le_mul_right _ Uz
  refine .sl n cs g 0 cap cur e (0,0) Uz (hD g _ (kJ qT) hb hg) (by omega) (fun i x y Jq hy=>?_) (fun i y hi hy=>?_)
  ·have hi:i<cs.length:=(List.getElem?_eq_some_iff.1 Jq).1
   refine hc.rel i x y Jq ?_
   rw[← ht,List.getElem?_take,if_pos (by omega)]
   simpa using hy
  ·refine hc.one i y ?_
   rw[← ht,List.getElem?_take,if_pos (by omega)]
   simpa using hy
theorem gF.flat {C D:Ctx} {cs:List AV} {ys:List Value} (h:gF C cs ys) (hf:∀c∈cs,Flat c) (hh:∀b o,C.h b o→D.h b o):gF D cs ys :=
 ⟨h.len,fun i x y hx hy=>(h.rel i x y hx hy).flat (hf x (List.mem_of_getElem? hx)) hh,h.one⟩
theorem Dw (b:Nat) (o:Obj) (h:(ctx h0 w0 ρ st w).h b o):(bare (Dv h0 w0 w)).h b o:=⟨h.1,h.2.1⟩
theorem aF8 (S:kX F h0 w0 nt ρ st a w) {s g o n e sz N:Nat} {cs:List AV} {v:Value} (he:st.heap s g=some (.row e sz N cs)) (hf:∀c∈cs,Flat c) (hle:o+n * sz≤cs.length) (hu:cZ (ctx h0 w0 ρ st w) (.vw s g o n) v):cZ (bare (Dv h0 w0 w)) (.sl n ((cs.drop o).take (n * sz))) v:=by
 obtain⟨_,ho1,xs,ho,hc⟩:=S.sT s g _ he
 cases hu with
 | vw _ _ _ _ b cap hg hb mZ _ =>
   change dK (ρ s g)=some b at hb
   rcases ho.2 with ⟨p,lC,hn⟩|⟨b',CC,cur,lC,xL,hh,_,_,_,ht,qT⟩
   ·exfalso
    rw[lC] at hb;cases p<;>cases hb
   ·rw[lC,kJ qT] at hb;simp only[Option.some.injEq] at hb;subst hb;have hc':=hc.flat (D:=bare (Dv h0 w0 w)) hf Dw
    have hl:=hc.len
    have hxl:xs.length≤cur.size:=by rw[← ht];simp;omega
    have H6:∀i,i<n * sz→cur[o+i]? = xs[o+i]?:=fun i hi=>by
     rw[← ht,List.getElem?_take,if_pos (by rw[← ho.1];omega)]
     simp
    refine .sl _ _ b' o cap cur e (0,0) mZ ⟨hh,fun aY=>by omega⟩ (by simp;omega) (fun i x y hx hy=>?_) (fun i y hi hy=>?_)
    ·rw[List.getElem?_take] at hx;split at hx
     ·rename_i hi;rw[List.getElem?_drop] at hx;rw[H6 i hi] at hy;exact hc'.rel _ x y hx hy
     ·cases hx
    ·simp only[List.length_take,List.length_drop] at hi;rw[H6 i (by omega)] at hy
     exact hc.one _ y hy
theorem PG (S:kX F h0 w0 nt ρ st a w) {x y:AV} {v:Value} (hu:cZ (ctx h0 w0 ρ st w) x v) (h:wO st x=some y):cZ (bare (Dv h0 w0 w)) y v:=by
 unfold wO at h;split at h
 ·rename_i hf;simp only[Option.some.injEq] at h;subst h;exact hu.flat hf Dw
 ·split at h
  ·split at h
   ·rename_i e sz n cs he;split at h
    ·rename_i hf;simp only[Option.some.injEq] at h;subst h;obtain⟨_,ho1,xs,ho,hc⟩:=S.sT _ _ _ he
     cases hu with
     | own s g hg h1=>exact Fj (fun b o _ hb GH=>⟨GH,fun aY=>by omega⟩) ho (hc.flat hf Dw)
    ·cases h
   ·cases h
  ·rename_i s g o n _;split at h
   ·rename_i e sz N cs he;split at h
    ·rename_i hf;obtain⟨hf,hle⟩:=hf
     simp only[Option.some.injEq] at h;subst h;exact aF8 S he hf hle hu
    ·cases h
   ·cases h
  ·cases h
theorem WK {x y:AV} (h:wO st x=some y):Flat y:=by
 unfold wO at h;split at h
 ·rename_i hf;simp only[Option.some.injEq] at h;subst h;exact hf
 ·split at h
  ·split at h
   ·split at h
    ·rename_i hf;simp only[Option.some.injEq] at h;subst h;exact .sl _ _ hf
    ·cases h
   ·cases h
  ·split at h
   ·split at h
    ·rename_i hf;simp only[Option.some.injEq] at h;subst h;exact .sl _ _ fun c hc=>hf.1 c (List.mem_of_mem_drop (List.mem_of_mem_take hc))
    ·cases h
   ·cases h
  ·cases h
theorem xF (S:kX F h0 w0 nt ρ st a w) {x y:AV} {v:Value} (hu:cZ (ctx h0 w0 ρ st w) x v) (h:cS st x=some y):cZ (bare (Dv h0 w0 w)) y v∧(v.oneCell'=true∨y=x):=by
 unfold cS at h;split at h
 ·rename_i hf;simp only[Option.some.injEq] at h;subst h;exact⟨hu.flat hf Dw,.inr rfl⟩
 ·split at h
  ·rename_i s g _;split at h
   ·rename_i e sz n cs he;split at h
    ·rename_i hf;simp only[Option.some.injEq] at h;subst h;obtain⟨_,ho1,xs,ho,hc⟩:=S.sT s g _ he
     cases hu with
     | own s g hg h1=>exact⟨Fj (fun b o _ hb GH=>⟨GH,fun aY=>by omega⟩) ho (hc.flat hf Dw),.inl h1⟩
    ·cases h
   ·cases h
  ·rename_i s g o n _;split at h
   ·rename_i e sz N cs he;split at h
    ·rename_i hf;obtain⟨hf,hle⟩:=hf
     simp only[Option.some.injEq] at h;subst h;cases hu with
     | vw _ _ _ _ b cap hg hb mZ zD=>exact⟨aF8 S he hf hle (.vw s g o n b cap hg hb mZ zD),.inl rfl⟩
    ·cases h
   ·cases h
  ·rename_i s g off _;split at h
   ·rename_i cs he;simp only[Option.map_eq_some_iff] at h;obtain⟨ds,Sf,rfl⟩:=h
    have hm:=jI _ _ Sf
    have hlen:ds.length=cs.length:=by have:=congrArg List.length hm;simpa using this.symm
    obtain⟨_,_,b',arr,T,lC,oF,hh,hc⟩:=S.sT s g _ he
    cases hu with
    | ptr s g off b hg hb =>
      have xL:b'=b:=by
       have h2:dK (ρ s g)=some b:=hb
       rw[lC] at h2;simpa [dK] using h2
      subst xL;have hl:=hc.len
      simp only[Array.length_toList] at hl;have:=cZ.ip (C:=bare (Dv h0 w0 w)) ds off b' 0 arr T (0,0) ⟨hh,fun aY=>by omega⟩ (by omega) (fun i x y hx hy=>by
       have hi:i<cs.length:=by have:=(List.getElem?_eq_some_iff.1 hx).1;omega
       have Jq:wO st cs[i]=some x:=by
        have:=congrArg (·[i]?) hm
        simp only[List.getElem?_map,hx,List.getElem?_eq_getElem hi,Option.map_some,Option.some.injEq] at this;exact this
       exact PG S (hc.rel i cs[i] y (by simp[hi]) (by simpa using hy)) Jq) (fun i y hi hy=>hc.one i y (by simpa using hy))
      rw[Nat.zero_add] at this;exact⟨this,.inl rfl⟩
   ·cases h
  ·cases h
theorem Mj (S:kX F h0 w0 nt ρ st a w) {x y:AV} {v:Value} (hu:cZ (ctx h0 w0 ρ st w) x v) (h:fO st x=some y):cZ (bare (Dv h0 w0 w)) y v:=by
 unfold fO at h;split at h
 ·rename_i hf;simp only[Option.some.injEq] at h;subst h;exact hu.flat hf Dw
 ·split at h
  ·rename_i cs _;simp only[Option.map_eq_some_iff] at h;obtain⟨ds,Sf,rfl⟩:=h
   have hm:=jI _ _ Sf
   cases hu with
   | agg cs ar hl hr h1 =>
     have hlen:ds.length=cs.length:=by have:=congrArg List.length hm;simpa using this.symm
     refine .agg ds ar (by omega) (fun i x y hx hy=>?_) h1
     have hi:i<cs.length:=by have:=(List.getElem?_eq_some_iff.1 hx).1;omega
     have Jq:cS st cs[i]=some x:=by
      have:=congrArg (·[i]?) hm
      simp only[List.getElem?_map,hx,List.getElem?_eq_getElem hi,Option.map_some,Option.some.injEq] at this;exact this
     exact (xF S (hr i cs[i] y (by simp[hi]) hy) Jq).1
  ·rename_i f mG _;simp only[Option.map_eq_some_iff] at h;obtain⟨ds,Sf,rfl⟩:=h
   have hm:=jI _ _ Sf
   cases hu with
   | rW f cs ar hl hr =>
     have hlen:ds.length=mG.length:=by have:=congrArg List.length hm;simpa using this.symm
     refine .rW f ds ar (by omega) (fun i x y hx hy=>?_)
     have hi:i<mG.length:=by have:=(List.getElem?_eq_some_iff.1 hx).1;omega
     have Jq:cS st mG[i]=some x:=by
      have:=congrArg (·[i]?) hm
      simp only[List.getElem?_map,hx,List.getElem?_eq_getElem hi,Option.map_some,Option.some.injEq] at this;exact this
     exact (xF S (hr i mG[i] y (by simp[hi]) hy) Jq).1
  ·exact (xF S hu h).1
theorem pO {α β:Type} {p:β→Prop} {f:α→Option β} (hp:∀a b,f a=some b→p b):∀(l:List α) (r:List β),cP (l.map f)=some r→∀b∈r,p b
 | [],r,h=>by simp[cP] at h;subst h;simp
 | a :: l,r,h=>by
   simp only[List.map_cons] at h;cases ha:f a with
   | none=>simp[ha,cP] at h
   | some b =>
     simp only[ha,cP,Option.map_eq_some_iff] at h;obtain⟨r',h',rfl⟩:=h
     intro c hc;rcases List.mem_cons.1 hc with rfl|hc
     ·exact hp _ _ ha
     ·exact pO hp l r' h' c hc
theorem Ac {x y:AV} (h:cS st x=some y):Flat y:=by
 unfold cS at h;split at h
 ·rename_i hf;simp only[Option.some.injEq] at h;subst h;exact hf
 ·split at h
  ·split at h
   ·split at h
    ·rename_i hf;simp only[Option.some.injEq] at h;subst h;exact .sl _ _ hf
    ·cases h
   ·cases h
  ·split at h
   ·split at h
    ·rename_i hf;simp only[Option.some.injEq] at h;subst h;exact .sl _ _ fun c hc=>hf.1 c (List.mem_of_mem_drop (List.mem_of_mem_take hc))
    ·cases h
   ·cases h
  ·split at h
   ·simp only[Option.map_eq_some_iff] at h;obtain⟨ds,Sf,rfl⟩:=h
    exact .ip _ _ (pO (fun a b h=>WK h) _ _ Sf)
   ·cases h
  ·cases h
theorem Jy {x y:AV} (h:fO st x=some y):Flat y:=by
 unfold fO at h;split at h
 ·rename_i hf;simp only[Option.some.injEq] at h;subst h;exact hf
 ·split at h
  ·simp only[Option.map_eq_some_iff] at h;obtain⟨ds,Sf,rfl⟩:=h
   exact .agg _ (pO (fun a b h=>Ac h) _ _ Sf)
  ·simp only[Option.map_eq_some_iff] at h;obtain⟨ds,Sf,rfl⟩:=h
   exact .rW _ _ (pO (fun a b h=>Ac h) _ _ Sf)
  ·exact Ac h
theorem Uc (S:kX F h0 w0 nt ρ st a w) {x y:AV} {v:Value} (hu:cZ (ctx h0 w0 ρ st w) x v) (h:Cw st x=some y):cZ (bare (Dv h0 w0 w)) y v:=by
 unfold Cw at h;split at h
 ·rename_i s g;split at h
  ·rename_i e sz n cs he;simp only[Option.map_eq_some_iff] at h;obtain⟨ds,Sf,rfl⟩:=h
   have hm:=jI _ _ Sf
   obtain⟨_,ho1,xs,ho,hc⟩:=S.sT s g _ he
   cases hu with
   | own s g hg h1 =>
     have hlen:ds.length=cs.length:=by have:=congrArg List.length hm;simpa using this.symm
     refine Fj (fun b o _ hb GH=>⟨GH,fun aY=>by omega⟩) ho ⟨by rw[hlen];exact hc.len,fun i x y hx hy=>?_,hc.one⟩
     have hi:i<cs.length:=by have:=(List.getElem?_eq_some_iff.1 hx).1;omega
     have Jq:cS st cs[i]=some x:=by
      have:=congrArg (·[i]?) hm
      simp only[List.getElem?_map,hx,List.getElem?_eq_getElem hi,Option.map_some,Option.some.injEq] at this;exact this
     exact (xF S (hc.rel i cs[i] y (by simp[hi]) hy) Jq).1
  ·cases h
 ·exact (xF S hu h).1
theorem PH (S:kX F h0 w0 nt ρ st a w) {x y:AV} {v:Value} (hu:cZ (ctx h0 w0 ρ st w) x v) (h:Nj st x=some y):cZ (bare (Dv h0 w0 w)) y v:=by
 unfold Nj at h;split at h
 ·rename_i cs;simp only[Option.map_eq_some_iff] at h;obtain⟨ds,Sf,rfl⟩:=h
  have hm:=jI _ _ Sf
  cases hu with
  | agg cs ar hl hr h1 =>
    have hlen:ds.length=cs.length:=by have:=congrArg List.length hm;simpa using this.symm
    refine .agg ds ar (by omega) (fun i x y hx hy=>?_) h1
    have hi:i<cs.length:=by have:=(List.getElem?_eq_some_iff.1 hx).1;omega
    have Jq:Cw st cs[i]=some x:=by
     have:=congrArg (·[i]?) hm
     simp only[List.getElem?_map,hx,List.getElem?_eq_getElem hi,Option.map_some,Option.some.injEq] at this;exact this
    exact Uc S (hr i cs[i] y (by simp[hi]) hy) Jq
 ·exact Uc S hu h
theorem PI (S:kX F h0 w0 nt ρ st a w) {x y:AV} {v:Value} (hu:cZ (ctx h0 w0 ρ st w) x v) (h:Cx st x=some y):cZ (bare (Dv h0 w0 w)) y v:=by
 unfold Cx at h;split at h
 ·rename_i z hz;simp only[Option.some.injEq] at h;subst h;exact Mj S hu hz
 ·exact PH S hu h
theorem Zg {x y:AV} (h:Cw st x=some y):Flat y:=by
 unfold Cw at h;split at h
 ·split at h
  ·simp only[Option.map_eq_some_iff] at h;obtain⟨ds,Sf,rfl⟩:=h
   exact .sl _ _ (pO (fun a b h=>Ac h) _ _ Sf)
  ·cases h
 ·exact Ac h
theorem WL {x y:AV} (h:Cx st x=some y):Flat y:=by
 unfold Cx at h;split at h
 ·rename_i z hz;simp only[Option.some.injEq] at h;subst h;exact Jy hz
 ·unfold Nj at h;split at h
  ·simp only[Option.map_eq_some_iff] at h;obtain⟨ds,Sf,rfl⟩:=h
   exact .agg _ (pO (fun a b h=>Zg h) _ _ Sf)
  ·exact Zg h
theorem Dx {x y:AV} (h:fO st x=some y):Cx st x=some y:=by unfold Cx;rw[h]
theorem WM {x:AV} (h:fO st x=none):Cx st x=Nj st x:=by unfold Cx;rw[h]
end
end Go.Ab
end
section
namespace Go.Ab
open Classical
def Ih (es:List oB):Prop:=∀e∈es,∃a b n cs,e=.row a b n cs∧∀c∈cs,iE c
theorem Zh {x:AV} (h:TV x) (d c:Nat):Se (zB d c x).1∧Ih (zB d c x).2:=by
 cases x
 case uniq e sz n cs=>exact⟨.own _ _,fun e he=>by simp[zB] at he;exact⟨_,_,_,_,he,h⟩⟩
 all_goals exact⟨iE.aDv h,fun e he=>by simp[zB] at he⟩
theorem Mk {f:Nat→AV→AV × List oB}:∀(xs:List AV) (c:Nat),(∀x∈xs,∀c,Se (f c x).1∧Ih (f c x).2)→(∀y∈(qQ f c xs).1,Se y)∧Ih (qQ f c xs).2
 | [],c,_=>⟨by simp[qQ],fun e he=>by simp[qQ] at he⟩
 | x :: xs,c,h=>by
   obtain⟨h1,h2⟩:=h x (by simp) c
   obtain⟨h3,h4⟩:=Mk xs (c+(f c x).2.length) fun y hy=>h y (by simp[hy])
   simp only[qQ];refine⟨fun y hy=>?_,fun e he=>?_⟩
   ·rcases List.mem_cons.1 hy with rfl|hy
    ·exact h1
    ·exact h3 y hy
   ·rcases List.mem_append.1 he with he|he
    ·exact h2 e he
    ·exact h4 e he
theorem Zi {x:AV} (h:TW x) (d c:Nat):Se (Uq d c x).1∧Ih (Uq d c x).2:=by
 cases x
 case agg cs =>
  obtain⟨h1,h2⟩:=Mk (f:=zB d) cs c fun x hx c=>Zh (h x hx) d c
  exact⟨.agg _ h1,h2⟩
 all_goals
  refine @Zh _ ?_ d c
  exact h
theorem Sg {x:AV} (h:Wq x) (d c:Nat):Se (ZF d c x).1∧Ih (ZF d c x).2:=by
 cases x
 case eG cs =>
  obtain⟨h1,h2⟩:=Mk (f:=Uq d) cs c fun x hx c=>Zi (h x hx) d c
  exact⟨.eG _ h1,h2⟩
 all_goals
  refine @Zi _ ?_ d c
  exact h
theorem gF.Ph {C D:Ctx} {cs:List AV} {ys:List Value} (h:gF C cs ys) (hm:∀c∈cs,iE c):gF D cs ys :=
 ⟨h.len,fun i x y hx hy=>(h.rel i x y hx hy).Ph (hm x (List.mem_of_getElem? hx)),h.one⟩
theorem nJ.free {C D:Ctx} {w:World} {b:Nat} {v:Value} {e:oB} (h:nJ C w b v e) (hf:∃a s n cs,e=.row a s n cs∧∀c∈cs,iE c):nJ D w b v e:=by
 obtain⟨a,s,n,cs,rfl,hm⟩:=hf
 obtain⟨xs,ho,hc⟩:=h
 exact⟨xs,ho,hc.Ph hm⟩
section
variable {P:Program} {h0:Nat→Obj→Prop} {w0:World} {F:Fx} {nt:Nat} {ρ:Nat→Nat→Value} {st:St} {a:Act} {w:World} {K:Act→World→Prop} {Q:Exit→Act→World→Prop}
theorem GN {C D:Ctx} {xs:List AV} {vs:List Value} (h:lS C xs vs) (hf:∀x∈xs,Flat x) (hh:∀b o,C.h b o→D.h b o):lS D xs vs :=
 ⟨h.len,fun i x y hx hy=>(h.rel i x y hx hy).flat (hf x (List.mem_of_getElem? hx)) hh⟩
theorem yL (S:kX F h0 w0 nt ρ st a w) {H:Nat→Obj→Prop} {w':World} {r:AV} {v:Value} {dst:Option Nat} {e:rX} (hr:PF H w w' r v) (hg:w.grownBy w' none)
 (hH:(∀b o,H b o→(ctx h0 w0 ρ st w).h b o)∨Wq r) (h:jC r st dst=some e) (hd:∀d,dst=some d→d<nt)
 (hK:∀oG a' w',kX F h0 w0 nt oG (e.apply st) a' w'→K a' w'):K (a.put dst v) w':=by
 obtain⟨vs,v1,v2,v3,v4,v5⟩:=hr
 unfold jC at h;split at h
 ·rename_i hf;simp only[Option.some.injEq] at h;subst h;have hl:=v4 0 0
  rw[Ig hf] at hl;have hvs:vs=[]:=List.length_eq_zero_iff.1 hl.symm
  subst hvs;obtain⟨S',k⟩:=S.grow hg
  refine hK ρ _ _ (S'.put dst hd ?_)
  rcases hH with hH|hH
  ·have:=(v5 (ctx h0 w0 ρ st w') 0 0 (fun b o hb=>by
    by_cases aY:b<w.heap.size
    ·exact k.h _ _ (hH _ _ (hb.2.1 aY))
    ·exact⟨hb.1,fun h=>by have:=S.ext.size;omega,fun s g e he=>jT S he (by omega)⟩) (by simp)).1
   rw[Ig hf] at this;exact this
  ·have:=(v5 ⟨newHs H w w' [],ρ,st.aT⟩ 0 0 (fun b o hb=>hb) (by simp)).1
   have hn:=(Sg hH 0 0).1
   rw[Ig hf] at this hn;exact this.aDv hn (fun _=>Nat.le_refl _) (fun _ _ _=>rfl)
 ·cases dst with
  | none=>cases h
  | some d =>
    simp only[Option.some.injEq] at h;subst h;obtain⟨S',k,hh,pF⟩:=S.news hg d (ZF d (st.aT d) r).2 vs (v4 _ _) v1 v3 v2 (fun C kC hC lC i e x hi hx=>by
     rcases hH with hH|hH
     ·exact ((v5 C d (st.aT d) (fun b o hb=>by
       by_cases aY:b<w.heap.size
       ·exact kC.h _ _ (hH _ _ (hb.2.1 aY))
       ·exact hC b o (by omega) hb.1 hb.2.2) lC).2 i e x hi hx).base S.ext.size
     ·have:=((v5 ⟨newHs H w w' vs,C.ρ,C.aT⟩ d (st.aT d) (fun b o hb=>hb) lC).2 i e x hi hx).base S.ext.size
      exact this.free ((Sg hH d (st.aT d)).2 e (List.mem_of_getElem? hi)))
    refine hK _ _ _ (S'.put (some d) hd ?_)
    rcases hH with hH|hH
    ·exact (v5 (ctx h0 w0 (Fy ρ d (st.aT d) vs) (st.news d (ZF d (st.aT d) r).2) w') d (st.aT d) (fun b o hb=>by
      by_cases aY:b<w.heap.size
      ·exact k.h _ _ (hH _ _ (hb.2.1 aY))
      ·exact hh b o (by omega) hb.1 hb.2.2) pF).1
    ·have:=(v5 ⟨newHs H w w' vs,Fy ρ d (st.aT d) vs,(st.news d (ZF d (st.aT d) r).2).aT⟩ d (st.aT d) (fun b o hb=>hb) pF).1
     exact this.aDv (Sg hH d (st.aT d)).1 (fun _=>Nat.le_refl _) (fun _ _ _=>rfl)
theorem Zj {P:Program} {g:Nat} {args:List AV} {r:AV} (h:Ia P g args r) (hn:∀x∈args,Flat x):IJ P g args r:=by
 unfold Ia at h;split at h
 ·rename_i e sz n cs rest;have:=hn _ (List.mem_cons_self ..)
  cases this
 ·exact h
theorem Fk (S:kX F h0 w0 nt ρ st a w) {call:Nat→List AV→Option AV} (kK:rH P call) {g:Nat} {args:List AV} {vs:Array Value} {dst:Option Nat} {e:rX}
 (h:aM call g args st dst=some e) (gC:lS (ctx h0 w0 ρ st w) args vs.toList) (hd:∀d,dst=some d→d<nt)
 (hK:∀oG a' w',kX F h0 w0 nt oG (e.apply st) a' w'→K a' w') :
 Ie P g∧Calls P g vs w fun en w'=>∃v,en=.returned v∧K (a.put dst v) w':=by
 unfold aM at h;split at h
 ·rename_i hf;cases hc:call g args with
  | none=>simp[hc,cT] at h
  | some r =>
    obtain⟨hen,hs⟩:=kK g args r hc
    refine⟨hen, ?_⟩
    simp only[hc,cT] at h;refine ((Zj hs hf) w (ctx h0 w0 ρ st w).h vs (fun b o hb=>hb.1) (GN gC hf fun b o hb=>hb)).mono ?_
    rintro en w' ⟨v,rfl,hr,hg⟩
    exact⟨v,rfl,yL S hr hg (.inl fun b o hb=>hb) h hd hK⟩
 ·split at h
  ·rename_i xs IS;cases hc:call g xs with
   | none=>simp[hc,cT] at h
   | some r =>
     obtain⟨hen,hs⟩:=kK g xs r hc
     refine⟨hen, ?_⟩
     simp only[hc,cT] at h;split at h
     ·rename_i hm;have hmm:=jI _ _ IS
      have TK:∀x∈xs,Flat x:=pO (fun a b h=>Jy h) _ _ IS
      have hlen:xs.length=args.length:=by have:=congrArg List.length hmm;simpa using this.symm
      have Pk:lS (bare (Dv h0 w0 w)) xs vs.toList:=⟨by rw[hlen];exact gC.len,fun i x y hx hy=>by
       have hi:i<args.length:=by have:=(List.getElem?_eq_some_iff.1 hx).1;omega
       have Jq:fO st args[i]=some x:=by
        have:=congrArg (·[i]?) hmm
        simp only[List.getElem?_map,hx,List.getElem?_eq_getElem hi,Option.map_some,Option.some.injEq] at this;exact this
       exact Mj S (gC.rel i args[i] y (by simp[hi]) hy) Jq⟩
      refine ((Zj hs TK) w (Dv h0 w0 w) vs (fun b o hb=>hb.1) Pk).mono ?_
      rintro en w' ⟨v,rfl,hr,hg⟩
      exact⟨v,rfl,yL S hr hg (.inr hm) h hd hK⟩
     ·cases h
  ·cases h
theorem kX.drop (S:kX F h0 w0 nt ρ st a w) (s k:Nat):kX F h0 w0 nt ρ (st.jB s k none) a w∧(ctx h0 w0 ρ st w).Le (ctx h0 w0 ρ (st.jB s k none) w):=by
 have hs:∀s' g' e,(st.jB s k none).heap s' g'=some e→st.heap s' g'=some e:=fun s' g' e h=>by
  simp only[St.jB] at h;split at h
  ·cases h
  ·exact h
 have kk:(ctx h0 w0 ρ st w).Le (ctx h0 w0 ρ (st.jB s k none) w):=⟨fun b o hb=>⟨hb.1,hb.2.1,fun s' g' e he=>hb.2.2 s' g' e (hs s' g' e he)⟩,fun _=>Nat.le_refl _,fun _ _ _=>rfl⟩
 exact⟨⟨fun t=>(S.env t).le kk,fun s' g' e he=>⟨(S.sT s' g' e (hs s' g' e he)).1,(S.sT s' g' e (hs s' g' e he)).2.1,nJ.world (r:=none) (S.sT s' g' e (hs s' g' e he)).2.2 kk ⟨rfl,rfl,rfl,Nat.le_refl _,fun _ _ _=>rfl⟩ (by cases dK (ρ s' g')<;>simp)⟩,
  fun s1 g1 s2 g2 e1 e2 b h1 h2=>S.inj s1 g1 s2 g2 e1 e2 b (hs _ _ _ h1) (hs _ _ _ h2),S.ext,S.size,S.defers,⟨fun x v h=>(S.Nd.1 x v h).le kk,fun b o h=>kk.h b o (S.Nd.2.1 b o h),S.Nd.2.2⟩⟩,kk⟩
theorem aNZ (S:kX F h0 w0 nt ρ st a w) {s k:Nat} {c y:AV} {v:Value} (hc:Flat c∨c=.own s k) (hu:cZ (ctx h0 w0 ρ st w) c v) (h:cS st c=some y):cZ (bare (ctx h0 w0 ρ (st.jB s k none) w).h) y v∧(v.oneCell'=true∨y=c):=by
 have kk:=(S.drop s k).2
 rcases hc with hf|rfl
 ·unfold cS at h;rw[if_pos hf] at h;simp only[Option.some.injEq] at h;subst h;exact⟨hu.flat hf kk.h,.inr rfl⟩
 ·unfold cS at h;rw[if_neg (by intro h;cases h)] at h
  simp only at h
  split at h
  ·rename_i e sz n cs he;split at h
   ·rename_i hf;simp only[Option.some.injEq] at h;subst h;obtain⟨_,ho1,xs,ho,hc⟩:=S.sT s k _ he
    cases hu with
    | own s g hg h1 =>
      refine⟨Fj (fun b o hv hb GH=>⟨GH,fun aY=>by omega,fun s' g' e' Ap xL=>?_⟩) ho (hc.flat hf kk.h),.inl h1⟩
      simp only[St.jB] at Ap
      split at Ap
      ·cases Ap
      ·rename_i gP;have:=S.inj s' g' s k e' _ b Ap he xL hv
       exact gP this
   ·cases h
  ·cases h
theorem aAk (S:kX F h0 w0 nt ρ st a w) {s k:Nat} {x y:AV} {v:Value} (hx:ZH x) (hk:∀p∈jE x,p=(s,k)) (hu:cZ (ctx h0 w0 ρ st w) x v) (h:fO st x=some y):cZ (bare (ctx h0 w0 ρ (st.jB s k none) w).h) y v:=by
 have kk:=(S.drop s k).2
 by_cases hf:Flat x
 ·unfold fO at h;rw[if_pos hf] at h;simp only[Option.some.injEq] at h;subst h;exact hu.flat hf kk.h
 ·rcases hx with hx|⟨s',k',rfl⟩|⟨cs,rfl,IQ⟩
  ·exact absurd hx hf
  ·have:=hk (s',k') (by simp[jE,iB])
   simp only[Prod.mk.injEq] at this;obtain⟨rfl,rfl⟩:=this
   unfold fO at h;rw[if_neg hf] at h;exact (aNZ S (.inr rfl) hu h).1
  ·have hc:∀c∈cs,Flat c∨c=.own s k:=fun c hc=>by
    rcases IQ c hc with h|⟨s',k',rfl⟩
    ·exact .inl h
    ·have:=hk (s',k') (by simp only[jE];exact List.mem_flatMap.2 ⟨_,hc,by simp[iB]⟩)
     simp only[Prod.mk.injEq] at this;obtain⟨rfl,rfl⟩:=this
     exact .inr rfl
   unfold fO at h;rw[if_neg hf] at h;simp only[Option.map_eq_some_iff] at h;obtain⟨ys,Va,rfl⟩:=h
   have hmm:=jI _ _ Va
   have hlen:ys.length=cs.length:=by have:=congrArg List.length hmm;simpa using this.symm
   cases hu with
   | agg _ arr hl hr h1 =>
     refine .agg ys arr (by omega) (fun i y z hy hz=>?_) h1
     have hi:i<cs.length:=by have:=(List.getElem?_eq_some_iff.1 hy).1;omega
     have Jq:cS st cs[i]=some y:=by
      have:=congrArg (·[i]?) hmm
      simp only[List.getElem?_map,hy,List.getElem?_eq_getElem hi,Option.map_some,Option.some.injEq] at this;exact this
     exact (aNZ S (hc _ (List.getElem_mem hi)) (hr i cs[i] z (by simp[hi]) hz) Jq).1
theorem Pl {r:AV} {dst:Option Nat} {s k:Nat} {e:rX} (h:Em r st dst s k=some e) :
 (Flat r∧e={ dst:=dst,val:=r,dS:=some (s,k,none)}) ∨
 (¬Flat r∧∃e1 sz n cs d,r=.uniq e1 sz n cs∧dst=some d∧(∀c∈cs,iE c)∧e={ dst:=some d,val:=.own d (st.aT d),dS:=some (s,k,none),new:=some (d,[.row e1 sz n cs])}):=by
 unfold Em at h;split at h
 ·rename_i hf;simp only[Option.some.injEq] at h;exact .inl ⟨hf,h.symm⟩
 ·rename_i hf;split at h
  ·rename_i e1 sz n cs d;split at h
   ·rename_i hc;simp only[Option.some.injEq] at h;exact .inr ⟨hf,e1,sz,n,cs,d,rfl,rfl,hc,h.symm⟩
   ·cases h
  ·cases h
theorem CT (S:kX F h0 w0 nt ρ st a w) {call:Nat→List AV→Option AV} (kK:rH P call) {g:Nat} {args:List AV} {vs:Array Value} {dst:Option Nat} {e:rX}
 (h:fG call g args st dst=some e) (gC:lS (ctx h0 w0 ρ st w) args vs.toList) (hd:∀d,dst=some d→d<nt)
 (hK:∀oG a' w',kX F h0 w0 nt oG (e.apply st) a' w'→K a' w') :
 Ie P g∧Calls P g vs w fun en w'=>∃v,en=.returned v∧K (a.put dst v) w':=by
 unfold fG at h;split at h
 ·rename_i s k Pe;split at h
  ·rename_i oZ;split at h
   ·rename_i xs IS;cases hc:call g xs with
    | none=>simp[hc,cT] at h
    | some r =>
      obtain⟨hen,hs⟩:=kK g xs r hc
      refine⟨hen, ?_⟩
      simp only[hc,cT] at h;have h:=Pl h
      have hmm:=jI _ _ IS
      have TK:∀x∈xs,Flat x:=pO (fun a b h=>Jy h) _ _ IS
      have hlen:xs.length=args.length:=by have:=congrArg List.length hmm;simpa using this.symm
      obtain⟨S1,kk⟩:=S.drop s k
      have Pk:lS (bare (ctx h0 w0 ρ (st.jB s k none) w).h) xs vs.toList:=⟨by rw[hlen];exact gC.len,fun i x y hx hy=>by
       have hi:i<args.length:=by have:=(List.getElem?_eq_some_iff.1 hx).1;omega
       have Jq:fO st args[i]=some x:=by
        have:=congrArg (·[i]?) hmm
        simp only[List.getElem?_map,hx,List.getElem?_eq_getElem hi,Option.map_some,Option.some.injEq] at this;exact this
       refine aAk S (oZ _ (List.getElem_mem hi)) (fun p hp=>?_) (gC.rel i args[i] y (by simp[hi]) hy) Jq
       have:p∈args.flatMap jE:=List.mem_flatMap.2 ⟨_,List.getElem_mem hi,hp⟩
       rw[Pe] at this;simpa using this⟩
      refine ((Zj hs TK) w (ctx h0 w0 ρ (st.jB s k none) w).h vs (fun b o hb=>hb.1) Pk).mono ?_
      rintro en w' ⟨v,rfl,hr,hg⟩
      rcases h with ⟨ZS,rfl⟩|⟨ZS,e1,sz,n,cs,d,rfl,rfl,IQ,rfl⟩
      ·refine⟨v,rfl,yL (e:={ dst:=dst,val:=r }) S1 hr hg (.inl fun b o hb=>hb) ?_ hd (fun oG a' w2 hS=>hK oG a' w2 hS)⟩
       unfold jC;rw[if_pos ZS]
      ·refine⟨v,rfl,yL (e:={ dst:=some d,val:=.own d (st.aT d),new:=some (d,[.row e1 sz n cs])}) S1 hr hg (.inr IQ) ?_ hd (fun oG a' w2 hS=>hK oG a' w2 hS)⟩
       unfold jC;rw[if_neg ZS];rfl
   ·cases h
  ·cases h
 ·exact Fk S kK h gC hd hK
theorem IT (S:kX F h0 w0 nt ρ st a w) {call:Nat→List AV→Option AV} (kK:rH P call) {g:Nat} {args:List AV} {vs:Array Value} {dst:Option Nat} {e:rX}
 (h:lQ call g args st dst=some e) (gC:lS (ctx h0 w0 ρ st w) args vs.toList) (hd:∀d,dst=some d→d<nt)
 (hK:∀oG a' w',kX F h0 w0 nt oG (e.apply st) a' w'→K a' w') :
 Ie P g∧Calls P g vs w fun en w'=>∃v,en=.returned v∧K (a.put dst v) w':=by
 unfold lQ at h;split at h
 ·rename_i s k rest;split at h
  ·rename_i e0 sz n cs he;split at h
   ·rename_i IQ;obtain⟨IQ,ZS⟩:=IQ
    have hvs:∃v0 vr,vs=#[v0]++vr∧cZ (ctx h0 w0 ρ st w) (.own s k) v0∧lS (ctx h0 w0 ρ st w) rest vr.toList:=by
     have hl:=gC.len
     cases hv:vs.toList with
     | nil=>rw[hv] at hl;simp at hl
     | cons v0 vr =>
       rw[hv] at gC;refine⟨v0,vr.toArray, ?_,gC.head,by simpa using gC.tail⟩
       apply Array.ext'
       rw[hv];simp
    obtain⟨v0,vr,rfl,hv0,hrest⟩:=hvs
    have hv0':v0=ρ s k:=by cases hv0;rfl
    subst hv0'
    obtain⟨hk1,hk2,ys,ho,pA⟩:=S.sT s k _ he
    have run:∀r,call g (.uniq e0 sz n cs :: rest)=some r→Ie P g ∧
     Calls P g (#[ρ s k]++vr) w fun en w'=>∃v,en=.returned v∧w.grownBy w' (dK (ρ s k)) ∧
      match r with
      | .uniq e' tT n' Ek=>∃zs,oH w' 0 e' tT v n' zs∧gF (bare (ctx h0 w0 ρ st w).h) Ek zs∧∀b,dK v=some b→dK (ρ s k)=some b∨w.heap.size≤b
      | .eG [.uniq e' tT n' Ek]=>v=.tuple #[]∧∃zs,oH w' 0 e' tT (ρ s k) n' zs∧gF (bare (ctx h0 w0 ρ st w).h) Ek zs
      | _=>False:=by
     intro r hr;obtain⟨hen,hs⟩:=kK _ _ _ hr
     refine⟨hen, ?_⟩
     have hs:WJ P g e0 sz n cs rest r:=hs
     exact hs w (ctx h0 w0 ρ st w).h (ρ s k) ys vr (fun b o hb=>hb.1) (fun b o hb=>hb.2.2 s k _ he) (zF ho (Nat.zero_le _)) (pA.flat IQ fun b o hb=>hb) (GN hrest ZS fun b o hb=>hb)
    have bareLe:∀C:Ctx,(ctx h0 w0 ρ st w).Le C→(bare (ctx h0 w0 ρ st w).h).Le C:=fun C kC=>⟨kC.h,fun _=>Nat.zero_le _,fun _ _ h=>absurd h (by simp[bare])⟩
    have xE:∀b,dK (ρ s k)=some b→w0.heap.size≤b:=fun b hb=>(Cz ho b hb).1
    split at h
    ·rename_i e' tT n' Ek hr
     obtain⟨hen,hc⟩:=run _ hr
     refine⟨hen,hc.mono ?_⟩
     rintro en w' ⟨v,rfl,hg,zs,hz,hzc,hzb⟩
     cases dst with
     | none=>cases h
     | some d =>
       simp only[Option.some.injEq] at h;subst h;refine⟨v,rfl, ?_⟩
       obtain⟨S',kk,pF⟩:=S.P8 he hg d (.row e' tT n' Ek) v (tK hz) hzb (fun C kC=>⟨zs,Pj hz (fun b hb=>by
        rcases hzb b hb with h|h
        ·exact xE b h
        ·have:=S.ext.size;omega),hzc.le (bareLe C kC)⟩)
       have happ:rX.apply { dst:=some d,val:=.own d (st.aT d),dS:=some (s,k,none),new:=some (d,[.row e' tT n' Ek])} st=((st.jB s k none).new d (.row e' tT n' Ek)).put (some d) (.own d (st.aT d)):=by
        simp only[rX.apply,Wy]
       have aY:st.aT d<(ctx h0 w0 (uC ρ d (st.aT d) v) ((st.jB s k none).new d (.row e' tT n' Ek)) w').aT d:=by simp[ctx,St.new,St.jB]
       have lC:(ctx h0 w0 (uC ρ d (st.aT d) v) ((st.jB s k none).new d (.row e' tT n' Ek)) w').ρ d (st.aT d)=v:=pF
       have:=cZ.own (C:=ctx h0 w0 (uC ρ d (st.aT d) v) ((st.jB s k none).new d (.row e' tT n' Ek)) w') d (st.aT d) aY (by rw[lC];exact tK hz)
       rw[lC] at this;have hS:=S'.put (some d) hd this
       rw[← happ] at hS;exact hK _ _ _ hS
    ·rename_i e' tT n' Ek hr
     obtain⟨hen,hc⟩:=run _ hr
     refine⟨hen,hc.mono ?_⟩
     rintro en w' ⟨v,rfl,hg,rfl,zs,hz,hzc⟩
     simp only[Option.some.injEq] at h;subst h;have S':=S.P7 (e':=.row e' tT n' Ek) he hg (fun C kC=>⟨zs,Pj hz xE,hzc.le (bareLe C kC)⟩)
     exact⟨_,rfl,hK ρ _ _ (S'.put dst hd (.eG [] #[] rfl (by simp)))⟩
    ·cases h
   ·cases h
  ·cases h
 ·split at h
  ·exact Fk S kK h gC hd hK
  ·cases h
end
end Go.Ab
end
section
namespace Go.Ab
open Classical
section
variable {P:Program} {h0:Nat→Obj→Prop} {w0:World} {F:Fx} {nt:Nat} {ρ:Nat→Nat→Value} {st:St} {a:Act} {w:World} {K:Act→World→Prop} {Q:Exit→Act→World→Prop}
theorem upon_value {o:Oper} {v:Value} {w':World} (h:(execOp a.eval o).run P w=.ok (.value v) w') (hk:K (a.put o.dst v) w'):o.wp P a w K Q:=by
 unfold Oper.wp;rw[h];exact hk
theorem kX.newVar (S:kX F h0 w0 nt ρ st a w) (d:Nat) (hd:d<nt) (cs:List AV) (arr:Array Value) (T:Nat) (hc:gF (ctx h0 w0 ρ st w) cs arr.toList) :
 ∃oG,kX F h0 w0 nt oG ((st.new d (.cells cs)).put (some d) (.ptr d (st.aT d) 0)) (a.put (some d) (.pointer (some ⟨w.heap.size,0,none⟩))) (w.alloc (.cells arr T)):=by
 obtain⟨S',k,pF⟩:=S.new (World.grownBy_alloc w (.cells arr T) none) d (.cells cs) (.pointer (some ⟨w.heap.size,0,none⟩)) rfl (fun b hb=>by simp[dK] at hb;omega)
  (fun C k _=>⟨w.heap.size,arr,T,rfl,S.ext.size,heap_alloc_new w _,hc.le k⟩)
 exact⟨_,S'.put (some d) (fun t ht=>by cases ht;exact hd) (.ptr d (st.aT d) 0 w.heap.size (by simp[ctx,St.new]) (by show dK (uC _ _ _ _ _ _)=_;rw[pF];rfl))⟩
theorem kX.newRow (S:kX F h0 w0 nt ρ st a w) (d:Nat) (hd:d<nt) {w':World} (hg:w.grownBy w' none) (e sz n:Nat) (cs:List AV) (xs:List Value) (v:Value) (ho:oH w' w.heap.size e sz v n xs) (hc:gF (ctx h0 w0 ρ st w) cs xs) :
 ∃oG,kX F h0 w0 nt oG ((st.new d (.row e sz n cs)).put (some d) (.own d (st.aT d))) (a.put (some d) v) w':=by
 obtain⟨S',k,pF⟩:=S.new hg d (.row e sz n cs) v (tK ho) (fun b hb=>(Cz ho b hb).1) (fun C k _=>⟨xs,zF ho S.ext.size,hc.le k⟩)
 refine⟨_,S'.put (some d) (fun t ht=>by cases ht;exact hd) ?_⟩
 have aY:st.aT d<(ctx h0 w0 (uC ρ d (st.aT d) v) (st.new d (.row e sz n cs)) w').aT d:=by simp[ctx,St.new]
 have lC:(ctx h0 w0 (uC ρ d (st.aT d) v) (st.new d (.row e sz n cs)) w').ρ d (st.aT d)=v:=pF
 have:=cZ.own (C:=ctx h0 w0 (uC ρ d (st.aT d) v) (st.new d (.row e sz n cs)) w') d (st.aT d) aY (by rw[lC];exact tK ho)
 rw[lC] at this;exact this
theorem Ii (z:Array Value) (n:Nat):((Array.range (n * z.size)).map (z[· % z.size]!)).toList=(List.range n).flatMap fun _=>z.toList:=by
 rw[Array.toList_map];have:(Array.range (n * z.size)).toList=List.range (n * z.size):=by simp
 rw[this];clear this
 induction n with
 | zero=>simp
 | succ n ih =>
   rw[Nat.succ_mul,List.range_add,List.map_append,ih,List.range_succ,List.flatMap_append];congr 1
   simp only[List.flatMap_cons,List.flatMap_nil,List.append_nil,List.map_map];apply List.ext_getElem?
   intro i;by_cases hi:i<z.size
   ·simp[hi,Nat.mod_eq_of_lt hi,Nat.mul_comm n z.size]
   ·simp[hi]
theorem Jz {C:Ctx} {z:List Value} (h1:∀y∈z,y.oneCell'=true) (n:Nat):gF C ((List.range n).flatMap fun _=>z.map .v) ((List.range n).flatMap fun _=>z):=by
 generalize List.range n=l
 induction l with
 | nil=>exact .nil C
 | cons x l ih=>simp only[List.flatMap_cons];exact (gF.vs C z h1).app ih
theorem Sh (S:kX F h0 w0 nt ρ st a w) {T n e sz by_:Nat} {parts:Array (Nat × Operand)} {z:List Value} {cs:List AV} (hs:dW P T=some (e,sz,by_)) (hz:eI P e=some z)
 (hn:0<n∨parts=#[]) (hlim:n * sz≤2 ^ 24) (rY:(parts.toList.all fun p=>(st.ev p.2).jD)=true)
 (hf:gS (fun i=>some (i * sz,sz)) ((List.range n).flatMap fun _=>z.map .v) (parts.toList.map fun p=>(p.1,st.ev p.2))=some cs) :
 ∃v w' xs,(Instr.buildSlice T n (parts.map fun (i,x)=>(i,a.eval x))).run P w=.ok v w'∧w.grownBy w' none∧oH w' w.heap.size e sz v n xs∧gF (ctx h0 w0 ρ st w) cs xs:=by
 obtain⟨ei,ez,hT,Cg,CD,rfl,BX,rfl,yE⟩:=kH hs
 obtain⟨i',zv,Db,MD,rfl,Q0⟩:=zH hz
 rw[Cg] at Db
 cases Db
 rw[CD] at MD;cases MD
 rcases Nat.eq_zero_or_pos n with h0'|hn
 ·subst h0'
  have hp:parts=#[]:=by
   rcases hn with h|h
   ·omega
   ·exact h
  subst hp;simp[gS] at hf
  subst hf;refine⟨.slice (some ⟨w.heap.size,0,none⟩) 0 0,w.alloc (.cells #[] e),[], ?_,World.grownBy_alloc w _ none,⟨by simp,.inl ⟨_,rfl,rfl⟩⟩,.nil _⟩
  simp[Instr.buildSlice,run_underlying hT,sizeOf,typeInfo,zeroValue,Cg,Instr.fill,newRow]
  rw[show Array.map (fun x=>(default:Value)) (Array.range 0)=#[] from by simp[Array.range]]
 have gC:lS (ctx h0 w0 ρ st w) ((parts.toList.map fun p=>(p.1,st.ev p.2)).map (·.2)) ((parts.toList.map fun p=>(p.1,a.eval p.2)).map (·.2)):=by
  simp only[List.map_map];exact lS.map _ _ _ fun p _=>S.ev p.2
 have hnz:¬n * ei.size=0:=by
  have:=Nat.mul_pos hn yE
  omega
 have WN:((Array.range (n * ei.size)).map (ez.cells[· % ez.cells.size]!)).toList=(List.range n).flatMap fun _=>ez.cells.toList:=by
  rw[← BX];exact Ii ez.cells n
 obtain⟨cells,ME,pA⟩:=Lk (place:=fun i=>some (i * ei.size,ei.size)) (parts.toList.map fun p=>(p.1,st.ev p.2)) (parts.toList.map fun p=>(p.1,a.eval p.2)) _ ((Array.range (n * ei.size)).map (ez.cells[· % ez.cells.size]!)) cs (by simp) gC
  (fun p TE=>by
   obtain⟨q,hq,rfl⟩:=List.mem_map.1 TE
   exact List.all_eq_true.1 rY q hq) (by rw[WN];exact Jz Q0 n) hf
 have hr:=run_buildSlice (P:=P) w T e n (parts.map fun (i,x)=>(i,a.eval x)) cells ei ez hT Cg CD (by omega) hnz (by simpa using ME)
 have WA:cells.size=n * ei.size:=by
  have hlen:∀(place:Nat→Option (Nat × Nat)) (ps:List (Nat × AV)) (c out:List AV),gS place c ps=some out→out.length=c.length:=by
   intro place ps;induction ps with
   | nil=>intro c out h;simp[gS] at h;rw[h]
   | cons p ps ih =>
     intro c out h;obtain⟨i,x⟩:=p
     unfold gS at h;split at h
     ·cases h
     ·split at h
      ·rename_i hc;have:=ih _ _ h
       rw[this];simp
       omega
      ·cases h
  have h1:=hlen _ _ _ _ hf
  have h2:=pA.len
  have h3:=(Jz (C:=ctx h0 w0 ρ st w) Q0 n).len
  rw[← WN] at h3;simp only[Array.length_toList,Array.size_map,Array.size_range] at h2 h3;omega
 refine⟨_,_,cells.toList,hr,World.grownBy_alloc w _ none,Hb ?_,pA⟩
 refine⟨by simp[WA],.inr ⟨w.heap.size,n,cells,rfl,Nat.le_refl _,heap_alloc_new w _,Nat.le_refl _, ?_,WA, ?_⟩⟩
 ·have:n≤n * ei.size:=Nat.le_mul_of_pos_right n yE
  simp only[maxLen];omega
 ·rw[← WA,← Array.length_toList,List.take_length]
theorem Vb (C:Ctx) {T e sz by_:Nat} {z:List Value} {n:Nat} (hs:dW P T=some (e,sz,by_)) (hz:eI P e=some z)
 (hb:n * by_≤140737488355328) (hm:n≤maxLen) :
 ∃v w' xs,(Instr.makeSlice T (.int .i64 n) (.int .i64 n)).run P w=.ok v w'∧w.grownBy w' none∧oH w' w.heap.size e sz v n xs∧gF C ((List.range n).flatMap fun _=>z.map .v) xs:=by
 obtain⟨ei,ez,hT,Cg,CD,rfl,BX,rfl,yE⟩:=kH hs
 obtain⟨i',zv,Db,MD,rfl,Q0⟩:=zH hz
 rw[Cg] at Db
 cases Db
 rw[CD] at MD;cases MD
 obtain⟨w',hr,ho,hg⟩:=run_make_full (P:=P) w w.heap.size T e ei ez ei.size hT Cg CD rfl .i64 .i64 n (by rw[Nat.mul_comm];omega) hm (Nat.le_refl _)
 have WN:(madeCells ez.cells (n * ei.size)).toList=(List.range n).flatMap fun _=>ez.cells.toList:=by
  unfold madeCells;rw[← BX];exact Ii ez.cells n
 exact⟨_,w',_,hr,hg,Hb ho,by rw[WN];exact Jz Q0 n⟩
theorem PJ (S:kX F h0 w0 nt ρ st a w) {T:Nat} {x y:AV} {s g:Nat} {e:oB} {u v:Value} (h:qB P st T x y=some (s,g,e)) (hu:cZ (ctx h0 w0 ρ st w) x u) (hv:cZ (ctx h0 w0 ρ st w) y v) :
 ∃w',(Instr.storeAt T u v).run P w=.ok () w'∧kX F h0 w0 nt ρ (st.jB s g (some e)) a w':=by
 unfold qB at h;split at h
 ·rename_i s' g' off
  split at h
  ·rename_i ba k hld;split at h
   ·rename_i hc;obtain⟨c1,c2⟩:=hc
    obtain⟨i,d,hi,hd,kY,rfl⟩:=Be hld
    have IU:=hv.cells c2
    have hlen:=IU.len
    simp only[Array.length_toList] at hlen;cases hu with
    | ptr _ _ _ b hg hb =>
      have oF:dK (ρ s' g')=some b:=hb
      have main:∀(arr:Array Value) (B:Nat),w.heap[b]? = some (.cells arr B (0,0))→off+i.size≤arr.size →
       (Instr.storeAt T (.pointer (some ⟨b,off,none⟩)) v).run P w=.ok () (w.setRow b (arr.toList.take off++v.cells.toList++arr.toList.drop (off+i.size)).toArray):=by
       intro arr B hh hle;have rY:=run_storeCells_at P b off B v.cells.toList 0 arr w hh (by simp;omega) (fun y hy=>by
        obtain⟨j,hj,rfl⟩:=List.getElem_of_mem hy
        exact IU.one j _ (by simp))
       simp only[Nat.add_zero,Array.length_toList] at rY;simp only[Instr.storeAt,Instr.sureAddr];rw[dQ (Sem.run_pure P w _)];simp only[storeVar,dQ (run_sizeOf w hi)];rw[if_neg (by omega),show off+i.size=off+v.cells.size by omega]
       exact rY
      have grown:∀(cs:Array Value),w.grownBy (w.setRow b cs) (some b):=fun cs=>⟨rfl,rfl,rfl,by simp,fun k _ hk=>setRow_other w b k cs (fun e=>hk (by rw[e]))⟩
      cases he:st.heap s' g' with
      | none=>simp[he] at h
      | some e' =>
        obtain⟨_,_,her⟩:=S.sT s' g' _ he
        cases e' with
        | cells cs =>
          simp only[he] at h;split at h
          ·rename_i hle;simp only[Option.some.injEq,Prod.mk.injEq] at h;obtain⟨rfl,rfl,rfl⟩:=h
           obtain⟨b',arr,B,lC,xE,hh,hc⟩:=her
           have xL:b'=b:=by rw[lC] at oF;simpa [dK] using oF
           subst xL;have hl:=hc.len
           simp only[Array.length_toList] at hl;refine⟨_,main arr B hh (by omega),S.store he oF (grown _) fun C k=>⟨b',_,B,lC,xE,setRow_heap w b' arr _ B (0,0) hh, ?_⟩⟩
           exact (((hc.take off).app IU).app (hc.drop _)).le k
          ·cases h
        | row e2 sz n cs =>
          simp only[he] at h;split at h
          ·rename_i hle;simp only[Option.some.injEq,Prod.mk.injEq] at h;obtain⟨rfl,rfl,rfl⟩:=h
           obtain⟨xs,ho,hc⟩:=her
           have ho':=ho
           rcases ho.2 with ⟨p,lC,_⟩|⟨b',cap,cur,lC,xE,hh,Uz,VT,IQ,ht,qT⟩
           ·rw[lC,pX] at oF;cases oF
           ·have xL:b'=b:=by rw[lC,kJ qT] at oF;simpa using oF
            subst xL;have hl:=hc.len
            have hx:=ho.1
            have hle2:n * sz≤cap * sz:=Nat.mul_le_mul_right _ Uz
            refine⟨_,main cur e2 hh (by omega),S.store he oF (grown _) fun C k=>⟨xs.take off++v.cells.toList++xs.drop (off+i.size), ?_,(((hc.take off).app IU).app (hc.drop _)).le k⟩⟩
            refine⟨by simp;omega,.inr ⟨b',cap,_,lC,xE,setRow_heap w b' cur _ e2 (0,0) hh,Uz,VT,by simp;omega, ?_,qT⟩⟩
            simp only
            rw[← ht];have zK:cur.toList.length=cur.size:=rfl
            have hvl:v.cells.toList.length=v.cells.size:=rfl
            have l1:(cur.toList.take off++v.cells.toList).length=off+i.size:=by simp;omega
            rw[List.take_append,l1,List.take_of_length_le (by omega),List.drop_take,List.take_take,Nat.min_eq_left (by omega)]
          ·cases h
        | map es=>simp[he] at h
   ·cases h
  ·cases h
 ·cases h
end
end Go.Ab
end
