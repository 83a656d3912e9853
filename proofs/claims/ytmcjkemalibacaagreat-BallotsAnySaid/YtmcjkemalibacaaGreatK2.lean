/-
  Part 2 of the proof: an evaluator of programs, its soundness, and what functions of this program compute.
-/
import Derived.Test.YtmcjkemalibacaaGreatK1
import Derived.MapKept
set_option linter.all false
set_option maxRecDepth 20000
set_option maxHeartbeats 40000000
section
namespace Go.Ab
open Classical
section
variable {P:Program}
noncomputable def wY (x:Value):List MapEntry→Nat→Option (Nat × Value)
 | [],_=>none
 | e :: r,i=>if x=e.key then some (i,e.val) else wY x r (i+1)
theorem mk_inj {agg:Bool} {l:List Bool} {us vs:List Value} (h:fW l us vs) (ha:agg=false→l.length=1):mk agg us=mk agg vs↔us=vs:=by
 cases agg with
 | true=>simp[mk]
 | false =>
   have h1:=ha rfl
   obtain⟨e1,e2⟩:=lD _ _ _ h
   obtain⟨a,rfl⟩:=List.length_eq_one_iff.1 (e1.trans h1)
   obtain⟨b,rfl⟩:=List.length_eq_one_iff.1 (e2.trans h1)
   simp[mk]
theorem Tq (w:World) {k:Nat} {l:List Bool} {us vs:List Value} (hl:eR P 20 k=some l) (h:fW l us vs) :
 (Op.equal k (mk (dB P k) us) (mk (dB P k) vs)).run P w=.ok (decide (mk (dB P k) us=mk (dB P k) vs)) w:=by
 have:=Bd (P:=P) 20 10000 (by omega) w k l hl us vs h
 unfold Op.equal Op.maxDepth;rw[this];congr 1
 rw[Bool.eq_iff_iff];simp[mk_inj h (nG 20 k l hl)]
def R0 (P:Program) (k:Nat) (l:List Bool) (us:List Value) (es:List MapEntry):Prop:=∀e∈es,∃vs,e.key=mk (dB P k) vs∧fW l us vs
theorem Hg (w:World) {k:Nat} {l:List Bool} {us:List Value} (hl:eR P 20 k=some l):∀(es:List MapEntry) (i:Nat),R0 P k l us es →
 (Instr.findAsking k (mk (dB P k) us) es i).run P w=.ok (wY (mk (dB P k) us) es i) w
 | [],i,_=>by simp[Instr.findAsking,wY]
 | e :: es,i,h=>by
   obtain⟨vs,hk,hv⟩:=h e (by simp)
   have ih:=Hg w hl es (i+1) (fun x hx=>h x (by simp[hx]))
   have he:=Tq w hl hv
   simp only[Instr.findAsking,hk,Sem.run_bind,he,Result.andThen_ok,wY];by_cases hq:mk (dB P k) us=mk (dB P k) vs
   ·simp[hq]
   ·simp[hq,ih]
theorem Sv {q k0:IntKind} {a:Int}:∀(es:List MapEntry) (i:Nat),(∀e∈es,∃b,e.key=.int k0 b)→Instr.findNow (.int q) (.int k0 a) es i=some (wY (.int k0 a) es i)
 | [],i,_=>rfl
 | e :: es,i,h=>by
   obtain⟨b,hk⟩:=h e (by simp)
   have ih:=Sv (q:=q) (a:=a) es (i+1) (fun x hx=>h x (by simp[hx]))
   simp only[Instr.findNow,Instr.sameNow,hk,if_true,wY];by_cases hq:a=b
   ·subst hq;simp
   ·have:(a == b)=false:=by simp[hq]
    simp[this,ih,hq]
theorem Nx {a:Bool}:∀(es:List MapEntry) (i:Nat),(∀e∈es,∃b,e.key=.bool b)→Instr.findNow .bool (.bool a) es i=some (wY (.bool a) es i)
 | [],i,_=>rfl
 | e :: es,i,h=>by
   obtain⟨b,hk⟩:=h e (by simp)
   have ih:=Nx (a:=a) es (i+1) (fun x hx=>h x (by simp[hx]))
   simp only[Instr.findNow,Instr.sameNow,hk,wY];by_cases hq:a=b
   ·subst hq;simp
   ·have:(a == b)=false:=by simp[hq]
    simp[this,ih,hq]
theorem Ka {l:List Bool} {k:Nat} (h:Bv P l k=true):(∃q,P.underlying k=some (.int q))∨P.underlying k=some .bool ∨
 ∃n e q i,P.underlying k=some (.array n e)∧P.underlying e=some (.int q)∧P.info? e=some i∧i.size=1∧l.length=n:=by
 unfold Bv at h;split at h
 ·rename_i q hq;exact .inl ⟨q,hq⟩
 ·rename_i hq;exact .inr (.inl hq)
 ·rename_i n e hu;split at h
  ·rename_i q hq;simp only[Bool.and_eq_true,decide_eq_true_eq] at h;obtain⟨⟨⟨h1,h2⟩,h3⟩,_⟩:=h
   obtain⟨i,hi⟩:=Option.isSome_iff_exists.1 h3
   exact .inr (.inr ⟨n,e,q,i,hu,hq,hi,by rw[← qM hi];exact h1,h2⟩)
  ·cases h
 ·cases h
theorem Ny (w:World) {k:Nat} {l:List Bool} {us:List Value} (hl:eR P 20 k=some l) (hm:Bv P l k=true) (hu:fW l us us) {es:List MapEntry} (h:R0 P k l us es) :
 (Instr.findKey k (mk (dB P k) us) es).run P w=.ok (wY (mk (dB P k) us) es 0) w:=by
 rcases Ka hm with ⟨q,hk⟩|hk|⟨n,e,q,i,hk,_⟩
 ·have kF:dB P k=false:=by simp[dB,hk]
  have Fa:l=[true]:=by simpa [eR,hk] using hl.symm
  subst Fa
  have hus:∀vs,fW [true] us vs→∃k0 a b,us=[.int k0 a]∧vs=[.int k0 b]:=fun vs h=>by
   cases us with
   | nil=>simp[fW] at h
   | cons u us=>cases vs with
     | nil=>cases u<;>simp[fW] at h
     | cons v vs =>
       cases u<;>cases v<;>simp[fW] at h
       cases us<;>cases vs<;>simp[fW] at h
       subst h;exact⟨_,_,_,rfl,rfl⟩
  obtain⟨k0,a,_,e1,_⟩:=hus us hu
  have Nz:∀e∈es,∃b,e.key=.int k0 b:=fun e he=>by
   obtain⟨vs,h1,h2⟩:=h e he
   obtain⟨k1,a1,b1,e2,e3⟩:=hus vs h2
   rw[e1] at e2;simp at e2
   exact⟨b1,by rw[h1,kF,e3];simp[mk,e2.1]⟩
  have hx:mk (dB P k) us=.int k0 a:=by rw[kF,e1];rfl
  rw[hx];simp only[Instr.findKey,Sem.run_bind,aX hk,Result.andThen_ok,Sv es 0 Nz];rfl
 ·have kF:dB P k=false:=by simp[dB,hk]
  have Fa:l=[false]:=by simpa [eR,hk] using hl.symm
  subst Fa
  have hus:∀vs,fW [false] us vs→∃a b,us=[.bool a]∧vs=[.bool b]:=fun vs h=>by
   cases us with
   | nil=>simp[fW] at h
   | cons u us=>cases vs with
     | nil=>cases u<;>simp[fW] at h
     | cons v vs =>
       cases u<;>cases v<;>simp[fW] at h
       cases us<;>cases vs<;>simp[fW] at h
       exact⟨_,_,rfl,rfl⟩
  obtain⟨a,_,e1,_⟩:=hus us hu
  have Nz:∀e∈es,∃b,e.key=.bool b:=fun e he=>by
   obtain⟨vs,h1,h2⟩:=h e he
   obtain⟨a1,b1,e2,e3⟩:=hus vs h2
   exact⟨b1,by rw[h1,kF,e3];rfl⟩
  have hx:mk (dB P k) us=.bool a:=by rw[kF,e1];rfl
  rw[hx];simp only[Instr.findKey,Sem.run_bind,aX hk,Result.andThen_ok,Nx es 0 Nz];rfl
 ·have kF:dB P k=true:=by simp[dB,hk]
  cases es with
  | nil =>
    simp[Instr.findKey,aX hk,Instr.findNow,wY]
  | cons m es =>
    have hn:Instr.findNow (.array n e) (mk (dB P k) us) (m :: es) 0=none:=by
     simp[Instr.findNow,Instr.sameNow]
    simp only[Instr.findKey,Sem.run_bind,aX hk,Result.andThen_ok,hn];exact Hg w hl (m :: es) 0 h
theorem Kb (w:World) {k:Nat} {l:List Bool} {us:List Value} (hl:eR P 20 k=some l) (hm:Bv P l k=true) (hu:fW l us us) (em:Bool) :
 (Instr.checkKey em 10000 k (mk (dB P k) us)).run P w=.ok () w:=by
 have plain:∀(n t:Nat) (q:IntKind) (x:Value),P.underlying t=some (.int q)→(Instr.checkKey em (n+1) t x).run P w=.ok () w:=fun n t q x ht=>by
  simp[Instr.checkKey,aX ht]
 rcases Ka hm with ⟨q,hk⟩|hk|⟨n,e,q,i,hk,he,hi,hs,hn⟩
 ·exact plain 9999 k q _ hk
 ·have plainB:∀(n t:Nat) (x:Value),P.underlying t=some .bool→(Instr.checkKey em (n+1) t x).run P w=.ok () w:=fun n t x ht=>by
   simp[Instr.checkKey,aX ht]
  exact plainB 9999 k _ hk
 ·have kF:dB P k=true:=by simp[dB,hk]
  have hea:dB P e=false:=by simp[dB,he]
  have hlen:=(lD _ _ _ hu).1
  rw[kF];simp only[mk,if_true];rw[show (10000:Nat)=9999+1 from rfl,Instr.checkKey];simp only[Sem.run_bind,aX hk,Result.andThen_ok];simp only[Std.Legacy.Range.forIn_eq_forIn_range',Std.Legacy.Range.size,Nat.sub_zero,Nat.add_one_sub_one,Nat.div_one];have each:∀j∈List.range' 0 n,j<us.length:=fun j hj=>by
   have:=List.mem_range'_1.1 hj
   omega
  generalize List.range' 0 n=is at each
  induction is with
  | nil=>simp
  | cons j is ih =>
    have hj:=each j (by simp)
    have p1:=Gk w he hi us j (fun _=>hs) (by omega)
    simp only[List.forIn_cons,Sem.run_bind,run_sizeOf w hi,hs,Nat.mul_one,Result.andThen_ok,p1,plain 9998 e q _ he,Sem.run_pure];exact ih fun y hy=>each y (by simp[hy])
theorem vG:∀(l:List Bool) (us:List Value),fW l us us→∀x∈us,∀n,Instr.sameBits n x x=true
 | [],[],_,x,hx,n=>by simp at hx
 | true :: l,.int k a :: us,h,x,hx,n=>by
   rcases List.mem_cons.1 hx with rfl|hx
   ·cases n<;>simp[Instr.sameBits]
   ·exact vG l us h.2 x hx n
 | false :: l,.bool a :: us,h,x,hx,n=>by
   rcases List.mem_cons.1 hx with rfl|hx
   ·cases n<;>simp[Instr.sameBits]
   ·exact vG l us h x hx n
theorem z4 (w:World) {agg:Bool} {l:List Bool} {us:List Value} (hu:fW l us us) (ha:agg=false→l.length=1):(Instr.keyThatStays (mk agg us) (mk agg us)).run P w=.ok (mk agg us) w:=by
 have hs:Instr.sameBits 10000 (mk agg us) (mk agg us)=true:=by
  cases agg with
  | true =>
    simp only[mk,if_true];show Instr.sameBits (9999+1) _ _=true
    simp only[Instr.sameBits,beq_self_eq_true,Bool.true_and];have Ko:∀x∈us,Instr.sameBits 9999 x x=true:=fun x hx=>vG l us hu x hx 9999
    clear hu
    induction us with
    | nil=>rfl
    | cons x us ih =>
      simp only[List.zip_cons_cons,List.all_cons,Bool.and_eq_true];exact⟨Ko x (by simp),ih fun y hy=>Ko y (by simp[hy])⟩
  | false =>
    obtain⟨a,rfl⟩:=List.length_eq_one_iff.1 ((lD _ _ _ hu).1.trans (ha rfl))
    exact vG l [a] hu a (by simp) 10000
 simp[Instr.keyThatStays,hs]
theorem Oa {k:Nat} {x y:AV} {C:Ctx} {u v:Value} (h:Di P k x y) (hu:cM C x u) (hv:cM C y v) :
 ∃l us vs,eR P 20 k=some l∧fW l us vs∧u=mk (dB P k) us∧v=mk (dB P k) vs∧(x=y↔u=v):=by
 unfold Di at h;cases hl:eR P 20 k with
 | none=>simp[hl] at h
 | some l =>
   simp only[hl] at h;obtain⟨h1,h2,h3⟩:=h
   cases kF:dB P k with
   | true =>
     obtain⟨⟨cs,rfl⟩,ds,rfl⟩:=h2 kF
     obtain⟨us,vs,e1,e2,e3⟩:=Ca _ _ _ h1
     simp only[AV.cells] at e1 e2;subst e1;subst e2;have eu:=zY hu
     have ev:=zY hv
     refine⟨l,us,vs,rfl,e3,by rw[eu];rfl,by rw[ev];rfl, ?_⟩
     rw[eu,ev];simp[CS]
   | false =>
     obtain⟨⟨a,rfl⟩,b,rfl⟩:=h3 kF
     obtain⟨us,vs,e1,e2,e3⟩:=Ca _ _ _ h1
     have eu:=iC hu
     have ev:=iC hv
     subst eu;subst ev;have f1:us=[u]:=by
      cases us with
      | nil=>simp[AV.cells] at e1
      | cons c us=>simp[AV.cells] at e1;simp[e1.1,← e1.2]
     have f2:vs=[v]:=by
      cases vs with
      | nil=>simp[AV.cells] at e2
      | cons c vs=>simp[AV.cells] at e2;simp[e2.1,← e2.2]
     subst f1;subst f2;exact⟨l,_,_,rfl,e3,rfl,rfl,by simp⟩
theorem Xg {k:Nat} {x:AV} {C:Ctx} {u:Value} {l:List Bool} {us:List Value} (hl:eR P 20 k=some l) (hu:cM C x u) (he:u=mk (dB P k) us) (hx:fW l us us):∀ {es:List (AV × AV)} {ms:List MapEntry},
 (∀p∈es,Di P k x p.1)→Vh C es ms→R0 P k l us ms
 | [],[],_,_=>fun e h=>by simp at h
 | p :: es,m :: ms,hk,h=>by
   have ih:=Xg hl hu he hx (es:=es) (ms:=ms) (fun q hq=>hk q (by simp[hq])) h.2.2
   intro e hem;rcases List.mem_cons.1 hem with rfl|hem
   ·obtain⟨l',us',vs,e1,e2,e3,e4,_⟩:=Oa (hk p (by simp)) hu h.1
    rw[hl] at e1;cases e1
    refine⟨vs,e4, ?_⟩
    have:us'=us:=by
     rw[he] at e3;have hlen1:=(lD _ _ _ hx).1
     have KK:=(lD _ _ _ e2).1
     cases kF:dB P k with
     | true=>rw[kF] at e3;simpa [mk] using e3.symm
     | false =>
       have h1:=nG 20 k l hl kF
       obtain⟨a,rfl⟩:=List.length_eq_one_iff.1 (hlen1.trans h1)
       obtain⟨b,rfl⟩:=List.length_eq_one_iff.1 (KK.trans h1)
       rw[kF] at e3;simpa [mk] using e3.symm
    rw[← this];exact e2
   ·exact ih e hem
 | [],_ :: _,_,h=>h.elim
 | _ :: _,[],_,h=>h.elim
theorem EE {k:Nat} {x:AV} {C:Ctx} {u:Value} (hu:cM C x u):∀ {es:List (AV × AV)} {ms:List MapEntry} (i:Nat),(∀p∈es,Di P k x p.1)→Vh C es ms →
 (H6 es x=none∧wY u ms i=none)∨∃v y j,H6 es x=some v∧wY u ms i=some (i+j,y)∧cM C v y∧j<ms.length
 | [],[],i,_,_=>.inl ⟨rfl,rfl⟩
 | p :: es,m :: ms,i,hk,h=>by
   obtain⟨l',us',vs,e1,e2,e3,e4,e5⟩:=Oa (hk p (by simp)) hu h.1
   simp only[H6,wY];by_cases hq:x=p.1
   ·rw[if_pos hq.symm,if_pos (e5.1 hq)];exact .inr ⟨_,_,0,rfl,rfl,h.2.1,by simp⟩
   ·rw[if_neg (Ne.symm hq),if_neg (fun h'=>hq (e5.2 h'))]
    rcases EE hu (es:=es) (ms:=ms) (i+1) (fun q hq=>hk q (by simp[hq])) h.2.2 with ⟨h1,h2⟩|⟨v,y,j,h1,h2,h3,h4⟩
    ·exact .inl ⟨h1,h2⟩
    ·exact .inr ⟨v,y,j+1,h1,by rw[h2];congr 2;omega,h3,by simp;omega⟩
 | [],_ :: _,_,_,h=>h.elim
 | _ :: _,[],_,_,h=>h.elim
theorem EF {k:Nat} {x z:AV} {C:Ctx} {u y:Value} (hu:cM C x u) (hz:cM C z y):∀ {es:List (AV × AV)} {ms:List MapEntry} (i:Nat),(∀p∈es,Di P k x p.1)→Vh C es ms →
 (wY u ms i=none∧∀c,Vh C (H7 es x z) (ms++[{ key:=u,val:=y,born:=c }])) ∨
 ∃v j,wY u ms i=some (i+j,v)∧(∃m,ms[j]? = some m∧m.key=u)∧Vh C (H7 es x z) (ms.modify j fun e=>{ e with key:=u,val:=y })
 | [],[],i,_,_=>.inl ⟨rfl,fun c=>⟨hu,hz,trivial⟩⟩
 | p :: es,m :: ms,i,hk,h=>by
   obtain⟨l',us',vs,e1,e2,e3,e4,e5⟩:=Oa (hk p (by simp)) hu h.1
   simp only[H7,wY];by_cases hq:x=p.1
   ·rw[if_pos hq.symm,if_pos (e5.1 hq)];exact .inr ⟨_,0,rfl,⟨m,rfl,(e5.1 hq).symm⟩,by simp[List.modify];exact⟨hu,hz,h.2.2⟩⟩
   ·rw[if_neg (Ne.symm hq),if_neg (fun h'=>hq (e5.2 h'))]
    rcases EF hu hz (es:=es) (ms:=ms) (i+1) (fun q hq=>hk q (by simp[hq])) h.2.2 with ⟨h1,h2⟩|⟨v,j,h1,h2,h3⟩
    ·exact .inl ⟨h1,fun c=>⟨h.1,h.2.1,h2 c⟩⟩
    ·exact .inr ⟨v,j+1,by rw[h1];congr 2;omega,by simpa using h2,by simp[List.modify_succ_cons];exact⟨h.1,h.2.1,h3⟩⟩
 | [],_ :: _,_,_,h=>h.elim
 | _ :: _,[],_,_,h=>h.elim
theorem Ob {T k:Nat} {z:AV} (h:Ul P T=some (k,z)):∃e l zv,P.underlying T=some (.map k e)∧eR P 20 k=some l∧Bv P l k=true ∧
 (∀w,(zeroValue e).run P w=.ok zv w)∧∀C:Ctx,cM C z zv:=by
 unfold Ul at h;split at h
 ·rename_i k' e hT
  split at h
  ·rename_i l z' hl hz
   split at h
   ·rename_i hm;simp only[Option.some.injEq,Prod.mk.injEq] at h;obtain⟨rfl,rfl⟩:=h
    unfold aDP at hz;split at hz
    ·rename_i i hi;split at hz
     ·rename_i cs KE;split at hz
      ·rename_i Ko;simp only[Option.some.injEq] at hz;subst hz;refine⟨e,l,_,hT,hl,hm,fun w=>Bc w hi KE,fun C=>?_⟩
       have hc:=fG.vs C cs.toList (List.all_eq_true.1 Ko)
       exact .agg _ _ (by simp) (fun j x y hx hy=>hc.rel j x y hx (by simpa using hy)) (fun j y hy=>hc.one j y (by simpa using hy))
      ·cases hz
     ·rename_i y hy KE;split at hz
      ·simp only[Option.some.injEq] at hz;subst hz;exact⟨e,l,_,hT,hl,hm,fun w=>Bc w hi KE,fun C=>.v _⟩
      ·cases hz
     ·cases hz
    ·cases hz
   ·cases h
  ·cases h
 ·cases h
end
section
variable {P:Program} {h0:Nat→Obj→Prop} {w0:World} {F:Gj} {nt:Nat} {ρ:Nat→Nat→Value} {st:St} {a:Act} {w:World}
theorem UA (S:kE F h0 w0 nt ρ st a w) {T:Nat} {m x z:AV} {ok:Bool} {mv xv:Value} (h:Sd P st T m x ok=some z) (hm:cM (ctx h0 w0 ρ st w) m mv) (hx:cM (ctx h0 w0 ρ st w) x xv) :
 ∃r,(Instr.lookup T mv xv ok).run P w=.ok r w∧cM (ctx h0 w0 ρ st w) z r:=by
 unfold Sd at h;split at h
 ·rename_i s g;split at h
  ·rename_i es k zd he hi;split at h
   ·rename_i hk;obtain⟨e,l,zv,hT,hl,hmk,hz,hzr⟩:=Ob hi
    obtain⟨_,_,b,arr,clock,kK,_,hh,hml⟩:=S.rT s g _ he
    obtain⟨l',us,vs,e1,e2,e3,e4,_⟩:=Oa hk.1 hx hx
    rw[hl] at e1;cases e1
    have hvs:vs=us:=by
     rw[e3] at e4;have hlen:=lD _ _ _ e2
     cases kF:dB P k with
     | true=>rw[kF] at e4;simpa [mk] using e4.symm
     | false =>
       have h1:=nG 20 k l hl kF
       obtain⟨p,rfl⟩:=List.length_eq_one_iff.1 (hlen.1.trans h1)
       obtain⟨q,rfl⟩:=List.length_eq_one_iff.1 (hlen.2.trans h1)
       rw[kF] at e4;simpa [mk] using e4.symm
    subst hvs;have Nz:=Xg hl hx e3 e2 hk.2 hml
    cases hm with
    | mp _ _ hg ho =>
      show ∃r,(Instr.lookup T (ρ s g) xv ok).run P w=.ok r w∧_
      rw[kK,e3];have hck:=Kb w hl hmk e2 arr.isEmpty
      have hfk:=Ny w hl hmk e2 Nz
      rcases EE hx 0 hk.2 hml with ⟨h1,h2⟩|⟨v,y,j,h1,h2,h3,_⟩
      ·rw[h1] at h;simp only[Option.some.injEq] at h;subst h;rw[e3] at h2;rw[h2] at hfk;refine⟨if ok=true then .tuple #[zv,.bool false] else zv,by
        simp[Instr.lookup,aX hT,MapKept.run_getObj_map hh,hck,hfk,hz w], ?_⟩
       cases ok
       ·exact hzr _
       ·exact .eE _ _ rfl fun i x y hx hy=>by
         match i with
         | 0=>simp at hx hy;subst hx;subst hy;exact hzr _
         | 1=>simp at hx hy;subst hx;subst hy;exact .v _
         | i+2=>simp at hx
      ·rw[h1] at h;simp only[Option.some.injEq] at h;subst h;rw[e3] at h2;rw[h2] at hfk;refine⟨if ok=true then .tuple #[y,.bool true] else y,by
        simp[Instr.lookup,aX hT,MapKept.run_getObj_map hh,hck,hfk], ?_⟩
       cases ok
       ·exact h3
       ·exact .eE _ _ rfl fun i x y hx hy=>by
         match i with
         | 0=>simp at hx hy;subst hx;subst hy;exact h3
         | 1=>simp at hx hy;subst hx;subst hy;exact .v _
         | i+2=>simp at hx
   ·cases h
  ·cases h
 ·cases h
theorem GR (S:kE F h0 w0 nt ρ st a w) {T s g:Nat} {m x y:AV} {e:mV} {mv xv yv:Value} (h:sX P st T m x y=some (s,g,e))
 (hm:cM (ctx h0 w0 ρ st w) m mv) (hx:cM (ctx h0 w0 ρ st w) x xv) (hy:cM (ctx h0 w0 ρ st w) y yv) :
 ∃w',(Instr.mapUpdate T mv xv yv).run P w=.ok () w'∧kE F h0 w0 nt ρ (st.jV s g (some e)) a w':=by
 unfold sX at h;split at h
 ·rename_i s' g'
  split at h
  ·rename_i es k zd he hi;split at h
   ·rename_i hk;obtain⟨hk,rH⟩:=hk
    simp only[Option.some.injEq,Prod.mk.injEq] at h;obtain⟨rfl,rfl,rfl⟩:=h
    obtain⟨e,l,zv,hT,hl,hmk,hz,hzr⟩:=Ob hi
    obtain⟨_,_,b,arr,clock,kK,vZ,hh,hml⟩:=S.rT s' g' _ he
    obtain⟨l',us,vs,e1,e2,e3,e4,_⟩:=Oa hk.1 hx hx
    rw[hl] at e1;cases e1
    have hvs:vs=us:=by
     rw[e3] at e4;have hlen:=lD _ _ _ e2
     cases kF:dB P k with
     | true=>rw[kF] at e4;simpa [mk] using e4.symm
     | false =>
       have h1:=nG 20 k l hl kF
       obtain⟨p,rfl⟩:=List.length_eq_one_iff.1 (hlen.1.trans h1)
       obtain⟨q,rfl⟩:=List.length_eq_one_iff.1 (hlen.2.trans h1)
       rw[kF] at e4;simpa [mk] using e4.symm
    subst hvs;have Nz:=Xg hl hx e3 e2 hk.2 hml
    clear e4
    subst e3;have nA:dF (ρ s' g')=some b:=by rw[kK];rfl
    have grown:∀o,w.grownBy { w with heap:=w.heap.setIfInBounds b o } (some b):=fun o=>⟨rfl,rfl,rfl,by simp,fun k _ hk=>by
     have gR:b≠k:=fun e=>hk (by rw[e])
     simp[gR]⟩
    cases hm with
    | mp _ _ hg ho =>
      show ∃w',(Instr.mapUpdate T (ρ s' g') _ yv).run P w=.ok () w'∧_
      have hck:=Kb w hl hmk e2 false
      have hfk:=Ny w hl hmk e2 Nz
      have aZ:b<w.heap.size:=(Array.getElem?_eq_some_iff.1 hh).1
      rcases EF (z:=y) hx hy 0 hk.2 hml with ⟨h1,h2⟩|⟨v,j,h1,⟨m0,hm0,hmk0⟩,h3⟩
      ·rw[h1] at hfk;refine⟨_,by
        rw[kK];simp only[Instr.mapUpdate,Sem.run_bind,aX hT,MapKept.run_getObj_map hh,Result.andThen_ok,hck,hfk,MapKept.run_setObj_map _ hh];rfl,S.store he nA (grown _) fun C kk=>?_⟩
       refine⟨b,arr.push { key:=mk (dB P k) vs,val:=yv,born:=clock },clock+1,kK,vZ,by simp[aZ], ?_⟩
       have:=(h2 clock).le kk
       simpa using this
      ·rw[h1] at hfk;have rH:=z4 (P:=P) w (agg:=dB P k) e2 (nG 20 k l hl)
       have hm0':arr[j]? = some m0:=by simpa using hm0
       have hkey:((arr[0+j]?).map (·.key)).getD (mk (dB P k) vs)=mk (dB P k) vs:=by
        rw[Nat.zero_add,hm0'];simp[hmk0]
       refine⟨_,by
        rw[kK];simp only[Instr.mapUpdate,Sem.run_bind,aX hT,MapKept.run_getObj_map hh,Result.andThen_ok,hck,hfk,hkey,rH,MapKept.run_setObj_map _ hh];rfl,S.store he nA (grown _) fun C kk=>?_⟩
       refine⟨b,arr.modify (0+j) fun e=>{ e with key:=mk (dB P k) vs,val:=yv },clock,kK,vZ,by simp[aZ], ?_⟩
       have:=h3.le kk
       simpa [Array.toList_modify] using this
   ·cases h
  ·cases h
 ·cases h
end
end Go.Ab
end
section
namespace Go.Ab
open Classical
section
variable {P:Program} {h0:Nat→Obj→Prop} {w0:World} {F:Gj} {nt:Nat} {ρ:Nat→Nat→Value} {st:St} {a:Act} {w:World}
theorem NB (S:kE F h0 w0 nt ρ st a w) {T:Nat} {x z:AV} {lo hi:Option Operand} {u:Value} (h:dL P st T x lo hi=some z) (hu:cM (ctx h0 w0 ρ st w) x u) :
 ∃r,(Instr.sliceAt T u (lo.map a.eval) (hi.map a.eval) none).run P w=.ok r w∧cM (ctx h0 w0 ρ st w) z r:=by
 unfold dL at h;cases hs:dQ P T with
 | none =>
   simp only[hs] at h;split at h
   ·rename_i n sz s g o ha;obtain⟨e,ei,hT,hi,rfl,gR⟩:=Mn ha
    cases he:st.heap s g with
    | none=>simp[he] at h
    | some en =>
      cases en with
      | cells es =>
        simp only[he,Option.some.injEq] at h;subst h;obtain⟨_,_,b1,arr,T1,kK,_⟩:=S.rT s g _ he
        cases hu with
        | ptr _ _ _ b hg hb =>
          refine⟨.slice (some ⟨b,o,none⟩) n n, ?_,.vw s g o n b n hg hb (Nat.le_refl _) (fun ho p n0 c0 hc=>by
           have h2:ρ s g=.slice p n0 c0:=hc
           rw[kK] at h2;cases h2)⟩
          simp[Instr.sliceAt,aX hT,Instr.sureAddr,Instr.sliceBounds,run_sizeOf w hi,kM]
      | _=>simp[he] at h
   ·cases h
 | some t =>
   obtain⟨e,sz,by_⟩:=t
   simp only[hs] at h;obtain⟨ei,ez,hT,Be,AF,rfl,AA,rfl,wJ⟩:=jT hs
   have hiv:∀(o:Option Operand) (n:Int) (k:IntKind) (i:Int),(match o with|some h=>st.ev h|none=>AV.v (.int .i64 n))=.v (.int k i) →
    (match o with|some h=>a.eval h|none=>Value.int .i64 n)=.int k i:=fun o n k i ho=>by
    cases o with
    | none=>simp only at ho ⊢;cases ho;rfl
    | some p =>
      simp only at ho ⊢
      have:=S.ev p
      rw[ho] at this;exact iC this
   have pN:∀(p:Option Addr) (n cap:Nat) (kh kl:IntKind) (H L:Int),n≤cap→(match hi with|some h=>a.eval h|none=>Value.int .i64 n)=.int kh H→(match lo with|some l=>a.eval l|none=>Value.int .i64 0)=.int kl L →
    0≤L→L≤H→H≤n →
    (Instr.sliceAt T (.slice p n cap) (lo.map a.eval) (hi.map a.eval) none).run P w=.ok (.slice (if cap=L.toNat then p else p.map (·.add (L.toNat * ei.size))) (H.toNat-L.toNat) (cap-L.toNat)) w:=by
    intro p n cap kh kl H L mG hh hl l0 l1 l2;have b1:H≤(cap:Int):=by omega
    have b2:L≤((H.toNat:Nat):Int):=by omega
    have b3:0≤H:=by omega
    have b6:max H 0=H:=by omega
    cases hi with
    | none =>
      simp only[Value.int.injEq] at hh;obtain⟨rfl,rfl⟩:=hh
      cases lo with
      | none =>
        simp only[Value.int.injEq] at hl;obtain⟨rfl,rfl⟩:=hl
        simp[Instr.sliceAt,Instr.slice,Instr.sliceBounds,aX hT,run_sizeOf w Be]
      | some l =>
        simp only at hl
        simp[Instr.sliceAt,Instr.slice,Instr.sliceBounds,Instr.sliceBound,asIntOf,aX hT,run_sizeOf w Be,hl,l0,l1]
    | some h =>
      simp only at hh
      cases lo with
      | none =>
        simp only[Value.int.injEq] at hl;obtain⟨rfl,rfl⟩:=hl
        simp[Instr.sliceAt,Instr.slice,Instr.sliceBounds,Instr.sliceBound,asIntOf,aX hT,run_sizeOf w Be,hh,b3,b1]
      | some l =>
        simp only at hl
        simp[Instr.sliceAt,Instr.slice,Instr.sliceBounds,Instr.sliceBound,asIntOf,aX hT,run_sizeOf w Be,hh,hl,l0,b3,b1,b6,l1]
   cases x with
   | sl n cs =>
     simp only at h
     split at h
     ·rename_i kh H kl L e1 e2;split at h
      ·rename_i hc;obtain⟨c1,c2,c3,c4⟩:=hc
       simp only[Option.some.injEq] at h;subst h;have R1:=hiv hi n kh H e1
       have e2':=hiv lo 0 kl L e2
       have hHL:(H-L).toNat=H.toNat-L.toNat:=by omega
       cases hu with
       | FB n cap p mG =>
         refine⟨_,pN p n cap kh kl H L mG R1 e2' c1 c2 c3, ?_⟩
         rw[hHL];simp only[List.drop_nil,List.take_nil];exact .FB _ _ _ (by omega)
       | sl n cs b off cap arr T' fr mG hb hle hr h1 =>
         refine⟨_,pN _ n cap kh kl H L mG R1 e2' c1 c2 c3, ?_⟩
         rw[hHL];by_cases hm:cap=L.toNat
         ·have hz:H.toNat-L.toNat=0:=by omega
          rw[if_pos hm,hz];simp only[Nat.zero_mul,List.take_zero];exact .FB _ _ _ (by omega)
         ·rw[if_neg hm];simp only[Option.map_some,kM];have hbound:L.toNat * ei.size+(H.toNat-L.toNat) * ei.size≤cs.length:=by
           rw[c4,← Nat.add_mul];exact Nat.mul_le_mul_right _ (by omega)
          refine .sl _ _ b (off+L.toNat * ei.size) _ arr T' fr (by omega) hb (by simp;omega) (fun i x y hx hy=>?_) (fun i y Aa hy=>?_)
          ·rw[List.getElem?_take] at hx;split at hx
           ·rw[List.getElem?_drop] at hx;exact hr _ x y hx (by rw[← Nat.add_assoc];exact hy)
           ·cases hx
          ·simp only[List.length_take,List.length_drop] at Aa
           exact h1 (L.toNat * ei.size+i) y (by omega) (by rw[← Nat.add_assoc];exact hy)
      ·cases h
     ·cases h
   | v xv =>
     split at h
     ·rename_i heq;cases heq
     ·rename_i heq;cases heq
      split at h
      ·rename_i kh H kl L e1 e2;split at h
       ·rename_i hc;obtain⟨rfl,rfl⟩:=hc
        simp only[Option.some.injEq] at h;subst h;have:=iC hu
        subst this;have R1:=hiv hi 0 kh 0 e1
        have e2':=hiv lo 0 kl 0 e2
        refine⟨_,pN none 0 0 kh kl 0 0 (Nat.le_refl _) R1 e2' (by omega) (by omega) (by omega), ?_⟩
        simp
        exact .v _
       ·cases h
      ·cases h
     ·rename_i heq;cases heq
     ·rename_i heq;cases heq
     ·cases h
   | own s g =>
     simp only at h
     cases he:st.heap s g with
     | none=>simp[he] at h
     | some en =>
       cases en with
       | row e' sT n es =>
         simp only[he] at h;split at h
         ·rename_i kh H kl L e1 e2;split at h
          ·rename_i hc;obtain⟨c1,c2,c3⟩:=hc
           have R1:=hiv hi n kh H e1
           have e2':=hiv lo 0 kl L e2
           have hHL:(H-L).toNat=H.toNat-L.toNat:=by omega
           obtain⟨aZ,_,xs,ho,Bf⟩:=S.rT s g _ he
           cases hu with
           | own _ _ hg h1 =>
             show ∃r,(Instr.sliceAt T (ρ s g) (lo.map a.eval) (hi.map a.eval) none).run P w=.ok r w∧_
             rcases ho.2 with ⟨p,kK,hn⟩|⟨b',cap,cur,kK,_,hh,Tr,_,_,ht,oM⟩
             ·rw[kK];subst hn;have hLH:L=H:=by omega
              rw[if_pos ⟨hLH,by omega⟩] at h
              simp only[Option.some.injEq] at h;subst h;have hz:H.toNat-L.toNat=0:=by omega
              refine⟨_,pN p 0 0 kh kl H L (Nat.le_refl _) R1 e2' c1 c2 c3, ?_⟩
              rw[hz];exact .FB _ _ _ (by omega)
             ·rw[kK];refine⟨_,pN _ n cap kh kl H L Tr R1 e2' c1 c2 c3, ?_⟩
              split at h
              ·rename_i hLH;simp only[Option.some.injEq] at h;subst h;have hz:H.toNat-L.toNat=0:=by omega
               rw[hz];exact .FB _ _ _ (by omega)
              ·rename_i hLH;simp only[Option.some.injEq] at h;subst h;rw[if_neg (by omega),hHL]
               simp only[Option.map_some,kM,Nat.zero_add];exact .vw s g _ _ b' _ hg (by show dF (ρ s g)=_;rw[kK,jW oM]) (by omega) (fun hz p n0 c0 hc=>by
                have h3:L.toNat=0:=(Nat.mul_eq_zero.1 hz).resolve_right (by omega)
                have h2:ρ s g=.slice p n0 c0:=hc
                rw[kK] at h2;simp only[Value.slice.injEq] at h2;omega)
          ·cases h
         ·cases h
       | _=>simp[he] at h
   | vw s g o k =>
     cases o with
     | succ o=>simp at h
     | zero =>
     simp only at h
     split at h
     ·rename_i e' sT n es ho' Fa he
      split at h
      ·rename_i kh H kl L e1 e2;split at h
       ·rename_i hc;obtain⟨c1,c2,c3⟩:=hc
        simp only[Option.some.injEq] at h;subst h;obtain⟨aZ,_,xs,ho,Bf⟩:=S.rT s g _ he
        cases hu with
        | vw _ _ _ _ b cap hg hb mG yA =>
          have nA:dF (ρ s g)=some b:=hb
          rcases ho.2 with ⟨p,kK,hn⟩|⟨b',AE,cur,kK,_,hh,Tr,_,_,ht,oM⟩
          ·rw[kK,pH] at nA;cases nA
          ·have wG:b'=b:=by rw[kK,jW oM] at nA;simpa using nA
           subst wG;have hcc:cap=AE:=yA rfl _ _ _ kK
           subst hcc;have f1:a.eval ho'=.int kh H:=by
            have:=S.ev ho'
            rw[e1] at this;exact iC this
           have f2:a.eval Fa=.int kl L:=by
            have:=S.ev Fa
            rw[e2] at this;exact iC this
           have b1:H≤(cap:Int):=by omega
           have b2:L≤((H.toNat:Nat):Int):=by omega
           have b3:0≤H:=by omega
           have b6:max H 0=H:=by omega
           have b7:¬cap=L.toNat:=by omega
           refine⟨.slice (some ⟨b',L.toNat * ei.size,none⟩) (H.toNat-L.toNat) (cap-L.toNat), ?_, ?_⟩
           ·simp[Instr.sliceAt,Instr.slice,Instr.sliceBounds,Instr.sliceBound,asIntOf,aX hT,run_sizeOf w Be,f1,f2,c1,b3,b1,b6,b2,b7,kM,show L≤H by omega]
           ·rw[show (H-L).toNat=H.toNat-L.toNat by omega]
            exact .vw s g _ _ b' _ hg hb (by omega) (fun hz p n0 c0 hc=>by
             have h3:L.toNat=0:=(Nat.mul_eq_zero.1 hz).resolve_right (by omega)
             have h2:ρ s g=.slice p n0 c0:=hc
             rw[kK] at h2;simp only[Value.slice.injEq] at h2;omega)
       ·cases h
      ·cases h
     ·cases h
   | _=>first|(simp at h;done)|(cases h;done)
theorem GS (S:kE F h0 w0 nt ρ st a w) {T:Nat} {x z:AV} {lo:Option Operand} {hi mx:Operand} {u:Value} (h:zW P st T x lo hi mx=some z) (hu:cM (ctx h0 w0 ρ st w) x u) :
 ∃r,(Instr.sliceAt T u (lo.map a.eval) (some (a.eval hi)) (some (a.eval mx))).run P w=.ok r w∧cM (ctx h0 w0 ρ st w) z r:=by
 unfold zW at h;cases hs:dQ P T with
 | none=>simp[hs] at h
 | some t =>
   obtain⟨e,sz,by_⟩:=t
   simp only[hs] at h;obtain⟨ei,ez,hT,Be,AF,rfl,AA,rfl,wJ⟩:=jT hs
   have pQ:∀(o:Operand) (k:IntKind) (i:Int),st.ev o=.v (.int k i)→a.eval o=.int k i:=fun o k i ho=>by
    have:=S.ev o
    rw[ho] at this;exact iC this
   split at h
   ·rename_i kh H km M kl L e1 e2 e3;have f1:=pQ _ _ _ e1
    have f2:=pQ _ _ _ e2
    have pN:∀(p:Option Addr) (n cap:Nat),n≤cap→0≤L→L≤H→H=M→H≤n →
     (Instr.sliceAt T (.slice p n cap) (lo.map a.eval) (some (a.eval hi)) (some (a.eval mx))).run P w=.ok (.slice (if H.toNat=L.toNat then p else p.map (·.add (L.toNat * ei.size))) (H.toNat-L.toNat) (H.toNat-L.toNat)) w:=by
     intro p n cap mG l0 l1 l2 l3;subst l2;have b1:H≤(cap:Int):=by omega
     have b2:L≤((H.toNat:Nat):Int):=by omega
     have b3:0≤H:=by omega
     have b4:H≤((H.toNat:Nat):Int):=by omega
     have b6:max H 0=H:=by omega
     cases lo with
     | none =>
       simp only[AV.v.injEq,Value.int.injEq] at e3;obtain⟨rfl,rfl⟩:=e3
       simp[Instr.sliceAt,Instr.slice,Instr.sliceBounds,Instr.sliceBound,asIntOf,aX hT,run_sizeOf w Be,f1,f2,b3,b1,b4,b6]
     | some l =>
       simp only at e3
       have f3:=pQ _ _ _ e3
       simp[Instr.sliceAt,Instr.slice,Instr.sliceBounds,Instr.sliceBound,asIntOf,aX hT,run_sizeOf w Be,f1,f2,f3,l0,l1,b3,b1,b2,b4,b6]
    split at h
    ·rename_i n cs;split at h
     ·rename_i hc;obtain⟨c1,c2,c3,c4,c5⟩:=hc
      simp only[Option.some.injEq] at h;subst h;have hHL:(H-L).toNat=H.toNat-L.toNat:=by omega
      cases hu with
      | FB n cap p mG =>
        refine⟨_,pN p n cap mG c1 c2 c3 c4, ?_⟩
        rw[hHL];simp only[List.drop_nil,List.take_nil];exact .cl0 _ _
      | sl n cs b off cap arr T' fr mG hb hle hr h1 =>
        refine⟨_,pN _ n cap mG c1 c2 c3 c4, ?_⟩
        rw[hHL];by_cases hm:H.toNat=L.toNat
        ·have hz:H.toNat-L.toNat=0:=by omega
         rw[if_pos hm,hz];simp only[Nat.zero_mul,List.take_zero];exact .cl0 _ _
        ·rw[if_neg hm];simp only[Option.map_some,kM];have hbound:L.toNat * ei.size+(H.toNat-L.toNat) * ei.size≤cs.length:=by
          rw[c5,← Nat.add_mul];exact Nat.mul_le_mul_right _ (by omega)
         refine .cl _ _ b (off+L.toNat * ei.size) arr T' fr hb (by simp;omega) (fun i x y hx hy=>?_) (fun i y Aa hy=>?_)
         ·rw[List.getElem?_take] at hx;split at hx
          ·rw[List.getElem?_drop] at hx;exact hr _ x y hx (by rw[← Nat.add_assoc];exact hy)
          ·cases hx
         ·simp only[List.length_take,List.length_drop] at Aa
          exact h1 (L.toNat * ei.size+i) y (by omega) (by rw[← Nat.add_assoc];exact hy)
     ·cases h
    ·split at h
     ·rename_i hc;obtain⟨c1,c2,c3⟩:=hc
      simp only[Option.some.injEq] at h;subst h;have:=iC hu
      subst this;refine⟨_,pN none 0 0 (Nat.le_refl _) (by omega) (by omega) (by omega) (by omega), ?_⟩
      subst c2;simp
      exact .v _
     ·cases h
    ·rename_i s g;cases he:st.heap s g with
     | none=>simp[he] at h
     | some en =>
       cases en with
       | row e' sT n es =>
         simp only[he] at h;split at h
         ·rename_i hc;obtain⟨c1,c2,c3,c4⟩:=hc
          simp only[Option.some.injEq] at h;subst h;obtain⟨aZ,_,xs,ho,Bf⟩:=S.rT s g _ he
          have hrun3:∀(p:Option Addr) (cap:Nat),n≤cap→∃q,(Instr.sliceAt T (.slice p n cap) (lo.map a.eval) (some (a.eval hi)) (some (a.eval mx))).run P w=.ok (.slice q (H.toNat-L.toNat) (M.toNat-L.toNat)) w:=by
           intro p cap mG;have b1:M≤(cap:Int):=by omega
           have b2:L≤((H.toNat:Nat):Int):=by omega
           have b3:0≤H:=by omega
           have b4:H≤((M.toNat:Nat):Int):=by omega
           have b5:0≤M:=by omega
           have b6:max M 0=M:=by omega
           have b7:max H 0=H:=by omega
           cases lo with
           | none =>
             simp only[AV.v.injEq,Value.int.injEq] at e3;obtain⟨rfl,rfl⟩:=e3
             exact⟨_,by simp[Instr.sliceAt,Instr.slice,Instr.sliceBounds,Instr.sliceBound,asIntOf,aX hT,run_sizeOf w Be,f1,f2,b3,b1,b4,b5,b6,b7,c3]<;>rfl⟩
           | some l =>
             simp only at e3
             have f3:=pQ _ _ _ e3
             exact⟨_,by simp[Instr.sliceAt,Instr.slice,Instr.sliceBounds,Instr.sliceBound,asIntOf,aX hT,run_sizeOf w Be,f1,f2,f3,c1,c2,c3,b3,b1,b2,b4,b5,b6,b7]<;>rfl⟩
          cases hu with
          | own _ _ hg h1 =>
            show ∃r,(Instr.sliceAt T (ρ s g) _ _ _).run P w=.ok r w∧_
            have Qt:∃p cap,ρ s g=.slice p n cap∧n≤cap:=by
             rcases ho.2 with ⟨p,kK,hn⟩|⟨b',cap,cur,kK,_,hh,Tr,_⟩
             ·exact⟨p,0,by rw[kK,hn],by omega⟩
             ·exact⟨_,cap,kK,Tr⟩
            obtain⟨p,cap,kK,Tr⟩:=Qt
            rw[kK];obtain⟨q,hq⟩:=hrun3 p cap Tr
            exact⟨_,hq,by rw[show (H-L).toNat=H.toNat-L.toNat by omega];exact .FB _ _ _ (by omega)⟩
         ·cases h
       | _=>simp[he] at h
    ·cases h
   ·cases h
theorem R2 {C:Ctx} {s g off:Nat} {v:Value} (h:cM C (.ptr s g off) v):∃b off,v=.pointer (some ⟨b,off,none⟩):=by
 cases h;exact⟨_,_,rfl⟩
theorem aB5 {C:Ctx} {cs:List AV} {o:Nat} {v:Value} (h:cM C (.ip cs o) v):∃b off,v=.pointer (some ⟨b,off,none⟩):=by
 cases h;exact⟨_,_,rfl⟩
theorem R3 {C:Ctx} {vs:List AV} {v:Value} (h:cM C (.eE vs) v):∃ar,v=.tuple ar∧vs.length=ar.size∧∀(i:Nat) (x:AV) (y:Value),vs[i]? = some x→ar[i]? = some y→cM C x y:=by
 cases h with
 | eE cs a hl hr=>exact⟨a,rfl,hl,hr⟩
theorem NC (S:kE F h0 w0 nt ρ st a w) {o:Oper} {x:AV} (h:iO P st o.op=some x) :
 ∃v,(execOp a.eval o).run P w=.ok (.value v) w∧cM (ctx h0 w0 ρ st w) x v:=by
 cases pQ:o.op with
 | move y=>rw[pQ] at h;simp[iO] at h;subst h;exact⟨_,by simp[execOp,pQ],S.ev y⟩
 | assign y=>rw[pQ] at h;simp[iO] at h;subst h;exact⟨_,by simp[execOp,pQ],S.ev y⟩
 | pick c y z =>
   rw[pQ] at h;simp only[iO] at h;split at h
   ·rename_i t hc;simp only[Option.some.injEq] at h;subst h;have:=S.ev c
    rw[hc] at this;have:=iC this
    refine⟨if t=true then a.eval y else a.eval z,by simp[execOp,pQ,this,asBool], ?_⟩
    cases t
    ·exact S.ev z
    ·exact S.ev y
   ·cases h
 | binOp op T y z yT =>
   rw[pQ] at h;simp only[iO] at h;obtain⟨r,hr,fU⟩:=RN (w:=w) y z h (S.ev y) (S.ev z)
   exact⟨r,by simp only[execOp,pQ];rw[dI hr];rfl,fU⟩
 | unOp op T y =>
   rw[pQ] at h;simp only[iO] at h;obtain⟨r,hr,fU⟩:=ZJ (P:=P) (w:=w) h (S.ev y)
   exact⟨r,by simp only[execOp,pQ];rw[dI hr];rfl,fU⟩
 | convert src dst y =>
   rw[pQ] at h;simp only[iO] at h;split at h
   ·rename_i k' n k ks hy hk hks
    simp only[Option.some.injEq] at h;subst h;have:=S.ev y
    rw[hy] at this;have hv:=iC this
    have hu:∀ {t:Nat} {k:IntKind},intKind P t=some k→P.underlying t=some (.int k):=fun {t k} hk=>by
     unfold intKind at hk;split at hk
     ·rename_i hu;cases hk;exact hu
     ·cases hk
    refine⟨_, ?_,.v _⟩
    simp[execOp,pQ,hv,convert,aX (hu hk),aX (hu hks),Conv.intToInt]
   ·cases h
 | nilCheck y =>
   rw[pQ] at h;simp only[iO] at h;split at h
   ·rename_i s g off hy;simp only[Option.some.injEq] at h;subst h;have hr:=S.ev y
    rw[hy] at hr;obtain⟨b,off',hv⟩:=R2 hr
    exact⟨a.eval y,by simp[execOp,pQ,hv],hr⟩
   ·rename_i cs o hy;simp only[Option.some.injEq] at h;subst h;have hr:=S.ev y
    rw[hy] at hr;obtain⟨b,off',hv⟩:=aB5 hr
    exact⟨a.eval y,by simp[execOp,pQ,hv],hr⟩
   ·cases h
 | fieldAddr T y f =>
   rw[pQ] at h;simp only[iO] at h;split at h
   ·rename_i k hf;obtain⟨r,hr,fU⟩:=Tl (w:=w) hf h (S.ev y)
    exact⟨r,by simp only[execOp,pQ];rw[dI hr];rfl,fU⟩
   ·cases h
 | field T y f =>
   rw[pQ] at h;simp only[iO] at h;unfold wI at h;split at h
   ·rename_i cs hy;have hr:=S.ev y
    rw[hy] at hr;obtain⟨u,hu⟩:∃u,a.eval y=u:=⟨_,rfl⟩
    rw[hu] at hr;cases hr with
    | agg _ ar hl fU h1 =>
      have key:∀off b k,fieldInfo P T f=some (off,b,k)→∃fs fd i d,P.underlying T=some (.struct fs)∧fs[f]? = some fd∧fd.offset=off∧P.info? fd.type=some i∧P.underlying fd.type=some d∧dB P fd.type=b∧i.size=k∧(b=true∨k=1):=fun off b k hf=>by
       unfold fieldInfo at hf;split at hf
       ·rename_i fs hT;split at hf
        ·rename_i fd hfd;split at hf
         ·rename_i b' k' hld
          split at hf
          ·rename_i hc;simp only[Option.some.injEq,Prod.mk.injEq] at hf;obtain⟨rfl,rfl,rfl⟩:=hf
           obtain⟨i,d,hi,hd,kF,hk⟩:=zZ hld
           exact⟨fs,fd,i,d,hT,hfd,rfl,hi,hd,kF,hk,hc⟩
          ·cases hf
         ·cases hf
        ·cases hf
       ·cases hf
      split at h
      ·rename_i off k hf;obtain⟨fs,fd,i,d,hT,hfd,rfl,hi,hd,kF,rfl,_⟩:=key _ _ _ hf
       split at h
       ·rename_i hle;simp only[Option.some.injEq] at h;subst h;have hp:=Gk w hd hi ar.toList fd.offset (by rw[kF];simp) (by simp;omega)
        rw[kF] at hp;simp only[mk,if_true,Array.toArray_toList] at hp;refine⟨_,by
         simp only[execOp,pQ,hu];rw[dI (show (Instr.field T (Value.agg ar) f).run P w=.ok _ w by
          simp only[Instr.field,Sem.run_bind,aX hT,Result.andThen_ok,hfd,asAgg,Sem.run_pure];exact hp)]
         rfl,.agg _ _ (by simp[hl]) (fun j x z hx hz=>?_) fun j z hz=>?_⟩
        ·rw[List.getElem?_take] at hx;split at hx
         ·rename_i hj;rw[List.getElem?_drop] at hx;refine fU _ x z hx ?_
          simpa [hj,List.getElem?_take,List.getElem?_drop] using hz
         ·cases hx
        ·have hz':ar[fd.offset+j]? = some z:=by
          simp only[List.getElem?_toArray,List.getElem?_take,List.getElem?_drop] at hz;split at hz
          ·simpa using hz
          ·cases hz
         exact h1 _ z hz'
       ·cases h
      ·rename_i off k hf;obtain⟨fs,fd,i,d,hT,hfd,rfl,hi,hd,kF,rfl,hk⟩:=key _ _ _ hf
       have hk1:i.size=1:=by simpa using hk
       have aZ:fd.offset<cs.length:=(List.getElem?_eq_some_iff.1 h).1
       have hp:=Gk w hd hi ar.toList fd.offset (fun _=>hk1) (by simp;omega)
       rw[kF] at hp;simp only[mk,Bool.false_eq_true,if_false,Array.toArray_toList] at hp;refine⟨_,by
        simp only[execOp,pQ,hu];rw[dI (show (Instr.field T (Value.agg ar) f).run P w=.ok _ w by
         simp only[Instr.field,Sem.run_bind,aX hT,Result.andThen_ok,hfd,asAgg,Sem.run_pure];exact hp)]
        rfl, ?_⟩
       refine fU fd.offset x _ h ?_
       have:fd.offset<ar.size:=by omega
       rw[hk1,List.take_one];simp[List.head?_drop,this]
      ·cases h
   ·cases h
 | indexAddr T y i =>
   rw[pQ] at h;simp only[iO] at h;obtain⟨r,hr,fU⟩:=Tm S h (S.ev y) (S.ev i)
   exact⟨r,by simp only[execOp,pQ];rw[dI hr];rfl,fU⟩
 | load T y =>
   rw[pQ] at h;simp only[iO] at h;cases hra:pX st (st.ev y) with
   | none=>simp[hra,cH] at h
   | some cs =>
     simp only[hra,cH] at h;obtain⟨r,hr,fU⟩:=Vl S hra h (S.ev y)
     exact⟨r,by simp only[execOp,pQ];rw[dI hr];rfl,fU⟩
 | extract t i =>
   rw[pQ] at h;simp only[iO] at h;split at h
   ·rename_i vs ht;have hr:=S.ev t
    rw[ht] at hr;obtain⟨ar,hv,hl,fU⟩:=R3 hr
    have hi:i<vs.length:=(List.getElem?_eq_some_iff.1 h).1
    have Aa:i<ar.size:=by omega
    refine⟨ar[i], ?_,fU i x ar[i] h (by simp[Aa])⟩
    simp[execOp,pQ,hv,Instr.extract,Aa]
   ·cases h
 | build T parts =>
   rw[pQ] at h;simp only[iO] at h;obtain⟨r,hr,fU⟩:=KD S h
   exact⟨r,by simp only[execOp,pQ];rw[dI hr];rfl,fU⟩
 | slice T y lo hi mx =>
   rw[pQ] at h;cases mx with
   | some m =>
     cases hi with
     | none=>simp[iO] at h
     | some hh =>
       simp only[iO] at h;obtain⟨r,hr,fU⟩:=GS S h (S.ev y)
       exact⟨r,by simp only[execOp,pQ,Option.map_some];rw[dI hr];rfl,fU⟩
   | none =>
     simp only[iO] at h;obtain⟨r,hr,fU⟩:=NB S h (S.ev y)
     exact⟨r,by simp only[execOp,pQ,Option.map_none];rw[dI hr];rfl,fU⟩
 | lookup T y i ok =>
   rw[pQ] at h;simp only[iO] at h;obtain⟨r,hr,fU⟩:=UA S h (S.ev y) (S.ev i)
   exact⟨r,by simp only[execOp,pQ];rw[dI hr];rfl,fU⟩
 | makeFunc fn first captured =>
   rw[pQ] at h;cases fn with
   | func f =>
     simp only[iO] at h;split at h
     ·rename_i hf;subst hf;simp only[Option.some.injEq] at h;subst h;have fU:lC (ctx h0 w0 ρ st w) (captured.toList.map st.ev) (captured.toList.map a.eval):=lC.map _ _ _ fun p _=>S.ev p
      refine⟨.func (.func f) #[] (captured.map a.eval), ?_,.Fp f _ _ (by simp) fun i x y hx hy=>fU.rel i x y hx (by simpa using hy)⟩
      simp[execOp,pQ,Instr.makeFunc]
     ·cases h
   | _=>simp[iO] at h
 | _=>rw[pQ] at h;simp[iO] at h
end
end Go.Ab
end
section
namespace Go.Ab
open Classical
theorem cM.flat {C D:Ctx} {x:AV} {v:Value} (hf:Flat x) (hr:cM C x v) (hh:∀b o,C.h b o→D.h b o):cM D x v:=by
 induction hr with
 | v x=>exact .v x
 | agg cs a hl _ h1 ih=>cases hf with|agg _ h=>exact .agg cs a hl (fun i x y hx hy=>ih i x y hx hy (h x (List.mem_of_getElem? hx))) h1
 | FB n cap p mG=>exact .FB n cap p mG
 | sl n cs b off cap arr T fr mG hb hle _ h1 ih=>cases hf with|sl _ _ h=>exact .sl n cs b off cap arr T fr mG (hh _ _ hb) hle (fun i x y hx hy=>ih i x y hx hy (h x (List.mem_of_getElem? hx))) h1
 | cl0 n p=>exact .cl0 n p
 | cl n cs b off arr T fr hb hle _ h1 ih=>cases hf with|cl _ _ h=>exact .cl n cs b off arr T fr (hh _ _ hb) hle (fun i x y hx hy=>ih i x y hx hy (h x (List.mem_of_getElem? hx))) h1
 | ip cs o b off arr T fr hb hle _ h1 ih=>cases hf with|ip _ _ h=>exact .ip cs o b off arr T fr (hh _ _ hb) hle (fun i x y hx hy=>ih i x y hx hy (h x (List.mem_of_getElem? hx))) h1
 | ptr=>cases hf
 | own=>cases hf
 | vw=>cases hf
 | mp=>cases hf
 | Fp f cs a hl _ ih=>cases hf with|Fp _ _ h=>exact .Fp f cs a hl (fun i x y hx hy=>ih i x y hx hy (h x (List.mem_of_getElem? hx)))
 | eE cs a hl _ ih=>cases hf with|eE _ h=>exact .eE cs a hl (fun i x y hx hy=>ih i x y hx hy (h x (List.mem_of_getElem? hx)))
theorem cM.Oc {C D:Ctx} {x:AV} {v:Value} (hf:gE x) (hr:cM C x v):cM D x v:=by
 induction hr with
 | v x=>exact .v x
 | agg cs a hl _ h1 ih=>cases hf with|agg _ h=>exact .agg cs a hl (fun i x y hx hy=>ih i x y hx hy (h x (List.mem_of_getElem? hx))) h1
 | eE cs a hl _ ih=>cases hf with|eE _ h=>exact .eE cs a hl (fun i x y hx hy=>ih i x y hx hy (h x (List.mem_of_getElem? hx)))
 | _=>cases hf
def bare (h:Nat→Obj→Prop):Ctx:=⟨h,fun _ _=>undef,fun _=>0⟩
inductive Qw:AV→Prop
 | v (x:Value):Qw (.v x)
 | agg (cs:List AV) (h:∀x∈cs,Qw x):Qw (.agg cs)
 | eE (cs:List AV) (h:∀x∈cs,Qw x):Qw (.eE cs)
 | own (s g:Nat):Qw (.own s g)
theorem gE.aB6 {x:AV} (h:gE x):Qw x:=by
 induction h with
 | v x=>exact .v x
 | agg cs _ ih=>exact .agg cs ih
 | eE cs _ ih=>exact .eE cs ih
theorem cM.aB6 {C D:Ctx} {x:AV} {v:Value} (hf:Qw x) (hr:cM C x v) (hc:∀s,C.aQ s≤D.aQ s) (kK:∀s g,g<C.aQ s→D.ρ s g=C.ρ s g):cM D x v:=by
 induction hr with
 | v x=>exact .v x
 | agg cs a hl _ h1 ih=>cases hf with|agg _ h=>exact .agg cs a hl (fun i x y hx hy=>ih i x y hx hy (h x (List.mem_of_getElem? hx))) h1
 | eE cs a hl _ ih=>cases hf with|eE _ h=>exact .eE cs a hl (fun i x y hx hy=>ih i x y hx hy (h x (List.mem_of_getElem? hx)))
 | own s g hg ho=>rw[← kK s g hg];exact .own s g (Nat.lt_of_lt_of_le hg (hc s)) (by rw[kK s g hg];exact ho)
 | _=>cases hf
def newHs (h0:Nat→Obj→Prop) (w w':World) (vs:List Value):Nat→Obj→Prop :=
 fun b o=>w'.heap[b]? = some o∧(b<w.heap.size→h0 b o)∧∀x∈vs,dF x≠some b
def ND (h0:Nat→Obj→Prop) (w w':World) (r:AV) (v:Value):Prop :=
 ∃vs:List Value,(∀x∈vs,x.oneCell'=true)∧(∀(i j:Nat) (x y:Value) (b:Nat),vs[i]? = some x→vs[j]? = some y→dF x=some b→dF y=some b→i=j) ∧
  (∀x∈vs,∀b,dF x=some b→w.heap.size≤b)∧(∀d c,(WV d c r).2.length=vs.length) ∧
  ∀(D:Ctx) (d c:Nat),(∀b o,newHs h0 w w' vs b o→D.h b o)→(∀(i:Nat) (x:Value),vs[i]? = some x→c+i<D.aQ d∧D.ρ d (c+i)=x) →
   cM D (WV d c r).1 v∧∀(i:Nat) (e:mV) (x:Value),(WV d c r).2[i]? = some e→vs[i]? = some x→mP D w' w.heap.size x e
def GQ (P:Program) (g:Nat) (xs:List AV) (r:AV):Prop :=
 ∀(w:World) (h0:Nat→Obj→Prop) (vs:Array Value),(∀b o,h0 b o→w.heap[b]? = some o)→lC (bare h0) xs vs.toList →
  Calls P g vs w fun e w'=>∃v,e=.returned v∧ND h0 w w' r v∧w.grownBy w' none
def UB (P:Program) (g e sz n:Nat) (cs xs:List AV) (r:AV):Prop :=
 ∀(w:World) (h0:Nat→Obj→Prop) (v0:Value) (ys:List Value) (vs:Array Value),(∀b o,h0 b o→w.heap[b]? = some o)→(∀b o,h0 b o→dF v0≠some b)→nF w 0 e sz v0 n ys→fG (bare h0) cs ys →
  lC (bare h0) xs vs.toList→Calls P g (#[v0]++vs) w fun en w'=>∃v,en=.returned v∧w.grownBy w' (dF v0) ∧
   match r with
   | .uniq e' sT n' Dg=>∃zs,nF w' 0 e' sT v n' zs∧fG (bare h0) Dg zs∧∀b,dF v=some b→dF v0=some b∨w.heap.size≤b
   | .eE [.uniq e' sT n' Dg]=>v=.tuple #[]∧∃zs,nF w' 0 e' sT v0 n' zs∧fG (bare h0) Dg zs
   | _=>False
def Hf (P:Program) (g:Nat) (xs:List AV) (r:AV):Prop :=
 match xs with
 | .uniq e sz n cs :: rest=>UB P g e sz n cs rest r
 | xs=>GQ P g xs r
def Hh (P : Program) (g : Nat) : Prop := ∃ fn, P.funcs[g]? = some fn ∧ (fn.name == "runtime.NumGoroutine") = false ∧ fn.body.isSome = true
def qK (P:Program) (call:Nat→List AV→Option AV):Prop:=∀g xs r,call g xs=some r→Hh P g∧Hf P g xs r
theorem GU {f:Nat→AV→AV × List mV}:∀(xs:List AV) (c:Nat),(∀x∈xs,∀c,f c x=(x,[]))→pU f c xs=(xs,[])
 | [],c,_=>rfl
 | x :: xs,c,h=>by
   simp only[pU,h x (by simp),List.length_nil,Nat.add_zero,GU xs c fun y hy=>h y (by simp[hy]),List.nil_append]
theorem Ja {x:AV} (h:Flat x) (d c:Nat):xY d c x=(x,[]):=by cases h<;>rfl
theorem EG {x:AV} (h:Flat x) (d c:Nat):Tj d c x=(x,[]):=by
 cases h with
 | agg cs h=>simp only[Tj,GU (f:=xY d) cs c fun x hx c=>Ja (h x hx) d c]
 | _=>rfl
theorem Hi {x:AV} (h:Flat x) (d c:Nat):WV d c x=(x,[]):=by
 cases h with
 | eE cs h=>simp only[WV,GU (f:=Tj d) cs c fun x hx c=>EG (h x hx) d c]
 | agg cs h=>exact EG (.agg cs h) d c
 | _=>rfl
theorem EH {h0:Nat→Obj→Prop} {w w':World} {r:AV} {v:Value} (hf:Flat r) (h:cM (bare (newHs h0 w w' [])) r v):ND h0 w w' r v :=
 ⟨[],by simp,by simp,by simp,fun d c=>by rw[Hi hf];rfl,fun D d c hD _=>by
  rw[Hi hf];exact⟨h.flat hf hD,by simp⟩⟩
theorem mP.base {C:Ctx} {w:World} {b b':Nat} {v:Value} {e:mV} (h:mP C w b v e) (hb:b'≤b):mP C w b' v e:=by
 cases e with
 | cells cs=>obtain⟨k,arr,T,h1,h2,h3⟩:=h;exact⟨k,arr,T,h1,Nat.le_trans hb h2,h3⟩
 | row e sz n cs=>obtain⟨xs,ho,hc⟩:=h;exact⟨xs,yB ho hb,hc⟩
 | map es=>obtain⟨k,arr,T,h1,h2,h3⟩:=h;exact⟨k,arr,T,h1,Nat.le_trans hb h2,h3⟩
theorem Od {w:World} {b b' e sz n:Nat} {v:Value} {xs:List Value} (h:nF w b e sz v n xs) (hb:∀k,dF v=some k→b'≤k):nF w b' e sz v n xs:=by
 refine⟨h.1, ?_⟩
 rcases h.2 with h|⟨g,cap,cur,rfl,h1,h2,h3,h4,h5,h6,hc⟩
 ·exact .inl h
 ·exact .inr ⟨g,cap,cur,rfl,hb g (jW hc),h2,h3,h4,h5,h6,hc⟩
theorem jD {α:Type}:∀(l:List (Option α)) (r:List α),bY l=some r→l=r.map some
 | [],r,h=>by simp[bY] at h;subst h;rfl
 | none :: l,r,h=>by simp[bY] at h
 | some x :: l,r,h=>by
   simp only[bY,Option.map_eq_some_iff] at h;obtain⟨r',h',rfl⟩:=h
   rw[jD l r' h'];rfl
section
variable {P:Program} {h0:Nat→Obj→Prop} {w0:World} {F:Gj} {nt:Nat} {ρ:Nat→Nat→Value} {st:St} {a:Act} {w:World}
def Cr (h0:Nat→Obj→Prop) (w0 w:World):Nat→Obj→Prop:=fun b o=>w.heap[b]? = some o∧(b<w0.heap.size→h0 b o)
theorem Ek {D:Ctx} {base e sz n:Nat} {v:Value} {xs:List Value} {cs:List AV} (hD:∀b o,dF v=some b→base≤b→w.heap[b]? = some o→D.h b o) (h:nF w base e sz v n xs) (hc:fG D cs xs):cM D (.sl n cs) v:=by
 rcases h.2 with ⟨p,rfl,hn⟩|⟨g,cap,cur,rfl,hb,hg,Tr,_,AS,ht,oM⟩
 ·subst hn;have:xs.length=0:=by rw[h.1];simp
  have:=hc.len
  have hnil:=List.length_eq_zero_iff.1 (show cs.length=0 by omega)
  subst hnil;exact .FB 0 0 p (by omega)
 ·have hl:=hc.len
  have hx:=h.1
  have hle:n * sz≤cap * sz:=Nat.mul_le_mul_right _ Tr
  refine .sl n cs g 0 cap cur e (0,0) Tr (hD g _ (jW oM) hb hg) (by omega) (fun i x y Iv hy=>?_) (fun i y hi hy=>?_)
  ·have hi:i<cs.length:=(List.getElem?_eq_some_iff.1 Iv).1
   refine hc.rel i x y Iv ?_
   rw[← ht,List.getElem?_take,if_pos (by omega)]
   simpa using hy
  ·refine hc.one i y ?_
   rw[← ht,List.getElem?_take,if_pos (by omega)]
   simpa using hy
theorem fG.flat {C D:Ctx} {cs:List AV} {ys:List Value} (h:fG C cs ys) (hf:∀c∈cs,Flat c) (hh:∀b o,C.h b o→D.h b o):fG D cs ys :=
 ⟨h.len,fun i x y hx hy=>(h.rel i x y hx hy).flat (hf x (List.mem_of_getElem? hx)) hh,h.one⟩
theorem Cs (b:Nat) (o:Obj) (h:(ctx h0 w0 ρ st w).h b o):(bare (Cr h0 w0 w)).h b o:=⟨h.1,h.2.1⟩
theorem aEG (S:kE F h0 w0 nt ρ st a w) {s g o n e sz N:Nat} {cs:List AV} {v:Value} (he:st.heap s g=some (.row e sz N cs)) (hf:∀c∈cs,Flat c) (hle:o+n * sz≤cs.length) (hu:cM (ctx h0 w0 ρ st w) (.vw s g o n) v):cM (bare (Cr h0 w0 w)) (.sl n ((cs.drop o).take (n * sz))) v:=by
 obtain⟨_,ho1,xs,ho,hc⟩:=S.rT s g _ he
 cases hu with
 | vw _ _ _ _ b cap hg hb mG _ =>
   change dF (ρ s g)=some b at hb
   rcases ho.2 with ⟨p,kK,hn⟩|⟨b',AE,cur,kK,wG,hh,_,_,_,ht,oM⟩
   ·exfalso
    rw[kK] at hb;cases p<;>cases hb
   ·rw[kK,jW oM] at hb;simp only[Option.some.injEq] at hb;subst hb;have hc':=hc.flat (D:=bare (Cr h0 w0 w)) hf Cs
    have hl:=hc.len
    have hxl:xs.length≤cur.size:=by rw[← ht];simp;omega
    have Xe:∀i,i<n * sz→cur[o+i]? = xs[o+i]?:=fun i hi=>by
     rw[← ht,List.getElem?_take,if_pos (by rw[← ho.1];omega)]
     simp
    refine .sl _ _ b' o cap cur e (0,0) mG ⟨hh,fun aZ=>by omega⟩ (by simp;omega) (fun i x y hx hy=>?_) (fun i y hi hy=>?_)
    ·rw[List.getElem?_take] at hx;split at hx
     ·rename_i hi;rw[List.getElem?_drop] at hx;rw[Xe i hi] at hy;exact hc'.rel _ x y hx hy
     ·cases hx
    ·simp only[List.length_take,List.length_drop] at hi;rw[Xe i (by omega)] at hy
     exact hc.one _ y hy
theorem NF (S:kE F h0 w0 nt ρ st a w) {x y:AV} {v:Value} (hu:cM (ctx h0 w0 ρ st w) x v) (h:wV st x=some y):cM (bare (Cr h0 w0 w)) y v:=by
 unfold wV at h;split at h
 ·rename_i hf;simp only[Option.some.injEq] at h;subst h;exact hu.flat hf Cs
 ·split at h
  ·split at h
   ·rename_i e sz n cs he;split at h
    ·rename_i hf;simp only[Option.some.injEq] at h;subst h;obtain⟨_,ho1,xs,ho,hc⟩:=S.rT _ _ _ he
     cases hu with
     | own s g hg h1=>exact Ek (fun b o _ hb NG=>⟨NG,fun aZ=>by omega⟩) ho (hc.flat hf Cs)
    ·cases h
   ·cases h
  ·rename_i s g o n _;split at h
   ·rename_i e sz N cs he;split at h
    ·rename_i hf;obtain⟨hf,hle⟩:=hf
     simp only[Option.some.injEq] at h;subst h;exact aEG S he hf hle hu
    ·cases h
   ·cases h
  ·cases h
theorem UC {x y:AV} (h:wV st x=some y):Flat y:=by
 unfold wV at h;split at h
 ·rename_i hf;simp only[Option.some.injEq] at h;subst h;exact hf
 ·split at h
  ·split at h
   ·split at h
    ·rename_i hf;simp only[Option.some.injEq] at h;subst h;exact .sl _ _ hf
    ·cases h
   ·cases h
  ·split at h
   ·split at h
    ·rename_i hf;simp only[Option.some.injEq] at h;subst h;exact .sl _ _ fun c hc=>hf.1 c (List.mem_of_mem_drop (List.mem_of_mem_take hc))
    ·cases h
   ·cases h
  ·cases h
theorem wA (S:kE F h0 w0 nt ρ st a w) {x y:AV} {v:Value} (hu:cM (ctx h0 w0 ρ st w) x v) (h:dA st x=some y):cM (bare (Cr h0 w0 w)) y v∧(v.oneCell'=true∨y=x):=by
 unfold dA at h;split at h
 ·rename_i hf;simp only[Option.some.injEq] at h;subst h;exact⟨hu.flat hf Cs,.inr rfl⟩
 ·split at h
  ·rename_i s g _;split at h
   ·rename_i e sz n cs he;split at h
    ·rename_i hf;simp only[Option.some.injEq] at h;subst h;obtain⟨_,ho1,xs,ho,hc⟩:=S.rT s g _ he
     cases hu with
     | own s g hg h1=>exact⟨Ek (fun b o _ hb NG=>⟨NG,fun aZ=>by omega⟩) ho (hc.flat hf Cs),.inl h1⟩
    ·cases h
   ·cases h
  ·rename_i s g o n _;split at h
   ·rename_i e sz N cs he;split at h
    ·rename_i hf;obtain⟨hf,hle⟩:=hf
     simp only[Option.some.injEq] at h;subst h;cases hu with
     | vw _ _ _ _ b cap hg hb mG yA=>exact⟨aEG S he hf hle (.vw s g o n b cap hg hb mG yA),.inl rfl⟩
    ·cases h
   ·cases h
  ·rename_i s g off _;split at h
   ·rename_i cs he;simp only[Option.map_eq_some_iff] at h;obtain⟨ds,Qx,rfl⟩:=h
    have hm:=jD _ _ Qx
    have hlen:ds.length=cs.length:=by have:=congrArg List.length hm;simpa using this.symm
    obtain⟨_,_,b',arr,T,kK,nA,hh,hc⟩:=S.rT s g _ he
    cases hu with
    | ptr s g off b hg hb =>
      have wG:b'=b:=by
       have h2:dF (ρ s g)=some b:=hb
       rw[kK] at h2;simpa [dF] using h2
      subst wG;have hl:=hc.len
      simp only[Array.length_toList] at hl;have:=cM.ip (C:=bare (Cr h0 w0 w)) ds off b' 0 arr T (0,0) ⟨hh,fun aZ=>by omega⟩ (by omega) (fun i x y hx hy=>by
       have hi:i<cs.length:=by have:=(List.getElem?_eq_some_iff.1 hx).1;omega
       have Iv:wV st cs[i]=some x:=by
        have:=congrArg (·[i]?) hm
        simp only[List.getElem?_map,hx,List.getElem?_eq_getElem hi,Option.map_some,Option.some.injEq] at this;exact this
       exact NF S (hc.rel i cs[i] y (by simp[hi]) (by simpa using hy)) Iv) (fun i y hi hy=>hc.one i y (by simpa using hy))
      rw[Nat.zero_add] at this;exact⟨this,.inl rfl⟩
   ·cases h
  ·cases h
theorem Ll (S:kE F h0 w0 nt ρ st a w) {x y:AV} {v:Value} (hu:cM (ctx h0 w0 ρ st w) x v) (h:fV st x=some y):cM (bare (Cr h0 w0 w)) y v:=by
 unfold fV at h;split at h
 ·rename_i hf;simp only[Option.some.injEq] at h;subst h;exact hu.flat hf Cs
 ·split at h
  ·rename_i cs _;simp only[Option.map_eq_some_iff] at h;obtain⟨ds,Qx,rfl⟩:=h
   have hm:=jD _ _ Qx
   cases hu with
   | agg cs ar hl hr h1 =>
     have hlen:ds.length=cs.length:=by have:=congrArg List.length hm;simpa using this.symm
     refine .agg ds ar (by omega) (fun i x y hx hy=>?_) h1
     have hi:i<cs.length:=by have:=(List.getElem?_eq_some_iff.1 hx).1;omega
     have Iv:dA st cs[i]=some x:=by
      have:=congrArg (·[i]?) hm
      simp only[List.getElem?_map,hx,List.getElem?_eq_getElem hi,Option.map_some,Option.some.injEq] at this;exact this
     exact (wA S (hr i cs[i] y (by simp[hi]) hy) Iv).1
  ·rename_i f oK _;simp only[Option.map_eq_some_iff] at h;obtain⟨ds,Qx,rfl⟩:=h
   have hm:=jD _ _ Qx
   cases hu with
   | Fp f cs ar hl hr =>
     have hlen:ds.length=oK.length:=by have:=congrArg List.length hm;simpa using this.symm
     refine .Fp f ds ar (by omega) (fun i x y hx hy=>?_)
     have hi:i<oK.length:=by have:=(List.getElem?_eq_some_iff.1 hx).1;omega
     have Iv:dA st oK[i]=some x:=by
      have:=congrArg (·[i]?) hm
      simp only[List.getElem?_map,hx,List.getElem?_eq_getElem hi,Option.map_some,Option.some.injEq] at this;exact this
     exact (wA S (hr i oK[i] y (by simp[hi]) hy) Iv).1
  ·exact (wA S hu h).1
theorem oX {α β:Type} {p:β→Prop} {f:α→Option β} (hp:∀a b,f a=some b→p b):∀(l:List α) (r:List β),bY (l.map f)=some r→∀b∈r,p b
 | [],r,h=>by simp[bY] at h;subst h;simp
 | a :: l,r,h=>by
   simp only[List.map_cons] at h;cases ha:f a with
   | none=>simp[ha,bY] at h
   | some b =>
     simp only[ha,bY,Option.map_eq_some_iff] at h;obtain⟨r',h',rfl⟩:=h
     intro c hc;rcases List.mem_cons.1 hc with rfl|hc
     ·exact hp _ _ ha
     ·exact oX hp l r' h' c hc
theorem yZ {x y:AV} (h:dA st x=some y):Flat y:=by
 unfold dA at h;split at h
 ·rename_i hf;simp only[Option.some.injEq] at h;subst h;exact hf
 ·split at h
  ·split at h
   ·split at h
    ·rename_i hf;simp only[Option.some.injEq] at h;subst h;exact .sl _ _ hf
    ·cases h
   ·cases h
  ·split at h
   ·split at h
    ·rename_i hf;simp only[Option.some.injEq] at h;subst h;exact .sl _ _ fun c hc=>hf.1 c (List.mem_of_mem_drop (List.mem_of_mem_take hc))
    ·cases h
   ·cases h
  ·split at h
   ·simp only[Option.map_eq_some_iff] at h;obtain⟨ds,Qx,rfl⟩:=h
    exact .ip _ _ (oX (fun a b h=>UC h) _ _ Qx)
   ·cases h
  ·cases h
theorem Je {x y:AV} (h:fV st x=some y):Flat y:=by
 unfold fV at h;split at h
 ·rename_i hf;simp only[Option.some.injEq] at h;subst h;exact hf
 ·split at h
  ·simp only[Option.map_eq_some_iff] at h;obtain⟨ds,Qx,rfl⟩:=h
   exact .agg _ (oX (fun a b h=>yZ h) _ _ Qx)
  ·simp only[Option.map_eq_some_iff] at h;obtain⟨ds,Qx,rfl⟩:=h
   exact .Fp _ _ (oX (fun a b h=>yZ h) _ _ Qx)
  ·exact yZ h
theorem Sw (S:kE F h0 w0 nt ρ st a w) {x y:AV} {v:Value} (hu:cM (ctx h0 w0 ρ st w) x v) (h:Bw st x=some y):cM (bare (Cr h0 w0 w)) y v:=by
 unfold Bw at h;split at h
 ·rename_i s g;split at h
  ·rename_i e sz n cs he;simp only[Option.map_eq_some_iff] at h;obtain⟨ds,Qx,rfl⟩:=h
   have hm:=jD _ _ Qx
   obtain⟨_,ho1,xs,ho,hc⟩:=S.rT s g _ he
   cases hu with
   | own s g hg h1 =>
     have hlen:ds.length=cs.length:=by have:=congrArg List.length hm;simpa using this.symm
     refine Ek (fun b o _ hb NG=>⟨NG,fun aZ=>by omega⟩) ho ⟨by rw[hlen];exact hc.len,fun i x y hx hy=>?_,hc.one⟩
     have hi:i<cs.length:=by have:=(List.getElem?_eq_some_iff.1 hx).1;omega
     have Iv:dA st cs[i]=some x:=by
      have:=congrArg (·[i]?) hm
      simp only[List.getElem?_map,hx,List.getElem?_eq_getElem hi,Option.map_some,Option.some.injEq] at this;exact this
     exact (wA S (hc.rel i cs[i] y (by simp[hi]) hy) Iv).1
  ·cases h
 ·exact (wA S hu h).1
theorem NH (S:kE F h0 w0 nt ρ st a w) {x y:AV} {v:Value} (hu:cM (ctx h0 w0 ρ st w) x v) (h:Mh st x=some y):cM (bare (Cr h0 w0 w)) y v:=by
 unfold Mh at h;split at h
 ·rename_i cs;simp only[Option.map_eq_some_iff] at h;obtain⟨ds,Qx,rfl⟩:=h
  have hm:=jD _ _ Qx
  cases hu with
  | agg cs ar hl hr h1 =>
    have hlen:ds.length=cs.length:=by have:=congrArg List.length hm;simpa using this.symm
    refine .agg ds ar (by omega) (fun i x y hx hy=>?_) h1
    have hi:i<cs.length:=by have:=(List.getElem?_eq_some_iff.1 hx).1;omega
    have Iv:Bw st cs[i]=some x:=by
     have:=congrArg (·[i]?) hm
     simp only[List.getElem?_map,hx,List.getElem?_eq_getElem hi,Option.map_some,Option.some.injEq] at this;exact this
    exact Sw S (hr i cs[i] y (by simp[hi]) hy) Iv
 ·exact Sw S hu h
theorem NI (S:kE F h0 w0 nt ρ st a w) {x y:AV} {v:Value} (hu:cM (ctx h0 w0 ρ st w) x v) (h:Bx st x=some y):cM (bare (Cr h0 w0 w)) y v:=by
 unfold Bx at h;split at h
 ·rename_i z hz;simp only[Option.some.injEq] at h;subst h;exact Ll S hu hz
 ·exact NH S hu h
theorem Xh {x y:AV} (h:Bw st x=some y):Flat y:=by
 unfold Bw at h;split at h
 ·split at h
  ·simp only[Option.map_eq_some_iff] at h;obtain⟨ds,Qx,rfl⟩:=h
   exact .sl _ _ (oX (fun a b h=>yZ h) _ _ Qx)
  ·cases h
 ·exact yZ h
theorem UD {x y:AV} (h:Bx st x=some y):Flat y:=by
 unfold Bx at h;split at h
 ·rename_i z hz;simp only[Option.some.injEq] at h;subst h;exact Je hz
 ·unfold Mh at h;split at h
  ·simp only[Option.map_eq_some_iff] at h;obtain⟨ds,Qx,rfl⟩:=h
   exact .agg _ (oX (fun a b h=>Xh h) _ _ Qx)
  ·exact Xh h
theorem Ct {x y:AV} (h:fV st x=some y):Bx st x=some y:=by unfold Bx;rw[h]
theorem UE {x:AV} (h:fV st x=none):Bx st x=Mh st x:=by unfold Bx;rw[h]
end
end Go.Ab
end
section
namespace Go.Ab
open Classical
def Hj (es:List mV):Prop:=∀e∈es,∃a b n cs,e=.row a b n cs∧∀c∈cs,gE c
theorem Xi {x:AV} (h:RJ x) (d c:Nat):Qw (xY d c x).1∧Hj (xY d c x).2:=by
 cases x
 case uniq e sz n cs=>exact⟨.own _ _,fun e he=>by simp[xY] at he;exact⟨_,_,_,_,he,h⟩⟩
 all_goals exact⟨gE.aB6 h,fun e he=>by simp[xY] at he⟩
theorem Lm {f:Nat→AV→AV × List mV}:∀(xs:List AV) (c:Nat),(∀x∈xs,∀c,Qw (f c x).1∧Hj (f c x).2)→(∀y∈(pU f c xs).1,Qw y)∧Hj (pU f c xs).2
 | [],c,_=>⟨by simp[pU],fun e he=>by simp[pU] at he⟩
 | x :: xs,c,h=>by
   obtain⟨h1,h2⟩:=h x (by simp) c
   obtain⟨h3,h4⟩:=Lm xs (c+(f c x).2.length) fun y hy=>h y (by simp[hy])
   simp only[pU];refine⟨fun y hy=>?_,fun e he=>?_⟩
   ·rcases List.mem_cons.1 hy with rfl|hy
    ·exact h1
    ·exact h3 y hy
   ·rcases List.mem_append.1 he with he|he
    ·exact h2 e he
    ·exact h4 e he
theorem Xj {x:AV} (h:RK x) (d c:Nat):Qw (Tj d c x).1∧Hj (Tj d c x).2:=by
 cases x
 case agg cs =>
  obtain⟨h1,h2⟩:=Lm (f:=xY d) cs c fun x hx c=>Xi (h x hx) d c
  exact⟨.agg _ h1,h2⟩
 all_goals
  refine @Xi _ ?_ d c
  exact h
theorem Qy {x:AV} (h:Gh x) (d c:Nat):Qw (WV d c x).1∧Hj (WV d c x).2:=by
 cases x
 case eE cs =>
  obtain⟨h1,h2⟩:=Lm (f:=Tj d) cs c fun x hx c=>Xj (h x hx) d c
  exact⟨.eE _ h1,h2⟩
 all_goals
  refine @Xj _ ?_ d c
  exact h
theorem fG.Oc {C D:Ctx} {cs:List AV} {ys:List Value} (h:fG C cs ys) (hm:∀c∈cs,gE c):fG D cs ys :=
 ⟨h.len,fun i x y hx hy=>(h.rel i x y hx hy).Oc (hm x (List.mem_of_getElem? hx)),h.one⟩
theorem mP.free {C D:Ctx} {w:World} {b:Nat} {v:Value} {e:mV} (h:mP C w b v e) (hf:∃a s n cs,e=.row a s n cs∧∀c∈cs,gE c):mP D w b v e:=by
 obtain⟨a,s,n,cs,rfl,hm⟩:=hf
 obtain⟨xs,ho,hc⟩:=h
 exact⟨xs,ho,hc.Oc hm⟩
section
variable {P:Program} {h0:Nat→Obj→Prop} {w0:World} {F:Gj} {nt:Nat} {ρ:Nat→Nat→Value} {st:St} {a:Act} {w:World} {K:Act→World→Prop} {Q:Exit→Act→World→Prop}
theorem EI {C D:Ctx} {xs:List AV} {vs:List Value} (h:lC C xs vs) (hf:∀x∈xs,Flat x) (hh:∀b o,C.h b o→D.h b o):lC D xs vs :=
 ⟨h.len,fun i x y hx hy=>(h.rel i x y hx hy).flat (hf x (List.mem_of_getElem? hx)) hh⟩
theorem xH (S:kE F h0 w0 nt ρ st a w) {H:Nat→Obj→Prop} {w':World} {r:AV} {v:Value} {dst:Option Nat} {e:qW} (hr:ND H w w' r v) (hg:w.grownBy w' none)
 (hH:(∀b o,H b o→(ctx h0 w0 ρ st w).h b o)∨Gh r) (h:iP r st dst=some e) (hd:∀d,dst=some d→d<nt)
 (hK:∀nD a' w',kE F h0 w0 nt nD (e.apply st) a' w'→K a' w'):K (a.put dst v) w':=by
 obtain⟨vs,v1,v2,v3,v4,v5⟩:=hr
 unfold iP at h;split at h
 ·rename_i hf;simp only[Option.some.injEq] at h;subst h;have hl:=v4 0 0
  rw[Hi hf] at hl;have hvs:vs=[]:=List.length_eq_zero_iff.1 hl.symm
  subst hvs;obtain⟨S',k⟩:=S.grow hg
  refine hK ρ _ _ (S'.put dst hd ?_)
  rcases hH with hH|hH
  ·have:=(v5 (ctx h0 w0 ρ st w') 0 0 (fun b o hb=>by
    by_cases aZ:b<w.heap.size
    ·exact k.h _ _ (hH _ _ (hb.2.1 aZ))
    ·exact⟨hb.1,fun h=>by have:=S.ext.size;omega,fun s g e he=>jO S he (by omega)⟩) (by simp)).1
   rw[Hi hf] at this;exact this
  ·have:=(v5 ⟨newHs H w w' [],ρ,st.aQ⟩ 0 0 (fun b o hb=>hb) (by simp)).1
   have hn:=(Qy hH 0 0).1
   rw[Hi hf] at this hn;exact this.aB6 hn (fun _=>Nat.le_refl _) (fun _ _ _=>rfl)
 ·cases dst with
  | none=>cases h
  | some d =>
    simp only[Option.some.injEq] at h;subst h;obtain⟨S',k,hh,oL⟩:=S.news hg d (WV d (st.aQ d) r).2 vs (v4 _ _) v1 v3 v2 (fun C kC hC kK i e x hi hx=>by
     rcases hH with hH|hH
     ·exact ((v5 C d (st.aQ d) (fun b o hb=>by
       by_cases aZ:b<w.heap.size
       ·exact kC.h _ _ (hH _ _ (hb.2.1 aZ))
       ·exact hC b o (by omega) hb.1 hb.2.2) kK).2 i e x hi hx).base S.ext.size
     ·have:=((v5 ⟨newHs H w w' vs,C.ρ,C.aQ⟩ d (st.aQ d) (fun b o hb=>hb) kK).2 i e x hi hx).base S.ext.size
      exact this.free ((Qy hH d (st.aQ d)).2 e (List.mem_of_getElem? hi)))
    refine hK _ _ _ (S'.put (some d) hd ?_)
    rcases hH with hH|hH
    ·exact (v5 (ctx h0 w0 (Ey ρ d (st.aQ d) vs) (st.news d (WV d (st.aQ d) r).2) w') d (st.aQ d) (fun b o hb=>by
      by_cases aZ:b<w.heap.size
      ·exact k.h _ _ (hH _ _ (hb.2.1 aZ))
      ·exact hh b o (by omega) hb.1 hb.2.2) oL).1
    ·have:=(v5 ⟨newHs H w w' vs,Ey ρ d (st.aQ d) vs,(st.news d (WV d (st.aQ d) r).2).aQ⟩ d (st.aQ d) (fun b o hb=>hb) oL).1
     exact this.aB6 (Qy hH d (st.aQ d)).1 (fun _=>Nat.le_refl _) (fun _ _ _=>rfl)
theorem Xk {P:Program} {g:Nat} {args:List AV} {r:AV} (h:Hf P g args r) (hn:∀x∈args,Flat x):GQ P g args r:=by
 unfold Hf at h;split at h
 ·rename_i e sz n cs rest;have:=hn _ (List.mem_cons_self ..)
  cases this
 ·exact h
theorem El (S:kE F h0 w0 nt ρ st a w) {call:Nat→List AV→Option AV} (jY:qK P call) {g:Nat} {args:List AV} {vs:Array Value} {dst:Option Nat} {e:qW}
 (h:aN call g args st dst=some e) (fU:lC (ctx h0 w0 ρ st w) args vs.toList) (hd:∀d,dst=some d→d<nt)
 (hK:∀nD a' w',kE F h0 w0 nt nD (e.apply st) a' w'→K a' w') :
 Hh P g∧Calls P g vs w fun en w'=>∃v,en=.returned v∧K (a.put dst v) w':=by
 unfold aN at h;split at h
 ·rename_i hf;cases hc:call g args with
  | none=>simp[hc,cH] at h
  | some r =>
    obtain⟨R4,hs⟩:=jY g args r hc
    refine⟨R4, ?_⟩
    simp only[hc,cH] at h;refine ((Xk hs hf) w (ctx h0 w0 ρ st w).h vs (fun b o hb=>hb.1) (EI fU hf fun b o hb=>hb)).mono ?_
    rintro en w' ⟨v,rfl,hr,hg⟩
    exact⟨v,rfl,xH S hr hg (.inl fun b o hb=>hb) h hd hK⟩
 ·split at h
  ·rename_i xs GV;cases hc:call g xs with
   | none=>simp[hc,cH] at h
   | some r =>
     obtain⟨R4,hs⟩:=jY g xs r hc
     refine⟨R4, ?_⟩
     simp only[hc,cH] at h;split at h
     ·rename_i hm;have hmm:=jD _ _ GV
      have RC:∀x∈xs,Flat x:=oX (fun a b h=>Je h) _ _ GV
      have hlen:xs.length=args.length:=by have:=congrArg List.length hmm;simpa using this.symm
      have Oe:lC (bare (Cr h0 w0 w)) xs vs.toList:=⟨by rw[hlen];exact fU.len,fun i x y hx hy=>by
       have hi:i<args.length:=by have:=(List.getElem?_eq_some_iff.1 hx).1;omega
       have Iv:fV st args[i]=some x:=by
        have:=congrArg (·[i]?) hmm
        simp only[List.getElem?_map,hx,List.getElem?_eq_getElem hi,Option.map_some,Option.some.injEq] at this;exact this
       exact Ll S (fU.rel i args[i] y (by simp[hi]) hy) Iv⟩
      refine ((Xk hs RC) w (Cr h0 w0 w) vs (fun b o hb=>hb.1) Oe).mono ?_
      rintro en w' ⟨v,rfl,hr,hg⟩
      exact⟨v,rfl,xH S hr hg (.inr hm) h hd hK⟩
     ·cases h
  ·cases h
theorem kE.drop (S:kE F h0 w0 nt ρ st a w) (s k:Nat):kE F h0 w0 nt ρ (st.jV s k none) a w∧(ctx h0 w0 ρ st w).Le (ctx h0 w0 ρ (st.jV s k none) w):=by
 have hs:∀s' g' e,(st.jV s k none).heap s' g'=some e→st.heap s' g'=some e:=fun s' g' e h=>by
  simp only[St.jV] at h;split at h
  ·cases h
  ·exact h
 have kk:(ctx h0 w0 ρ st w).Le (ctx h0 w0 ρ (st.jV s k none) w):=⟨fun b o hb=>⟨hb.1,hb.2.1,fun s' g' e he=>hb.2.2 s' g' e (hs s' g' e he)⟩,fun _=>Nat.le_refl _,fun _ _ _=>rfl⟩
 exact⟨⟨fun t=>(S.env t).le kk,fun s' g' e he=>⟨(S.rT s' g' e (hs s' g' e he)).1,(S.rT s' g' e (hs s' g' e he)).2.1,mP.world (r:=none) (S.rT s' g' e (hs s' g' e he)).2.2 kk ⟨rfl,rfl,rfl,Nat.le_refl _,fun _ _ _=>rfl⟩ (by cases dF (ρ s' g')<;>simp)⟩,
  fun s1 g1 s2 g2 e1 e2 b h1 h2=>S.inj s1 g1 s2 g2 e1 e2 b (hs _ _ _ h1) (hs _ _ _ h2),S.ext,S.size,S.defers,⟨fun x v h=>(S.Me.1 x v h).le kk,fun b o h=>kk.h b o (S.Me.2.1 b o h),S.Me.2.2⟩⟩,kk⟩
theorem aLU (S:kE F h0 w0 nt ρ st a w) {s k:Nat} {c y:AV} {v:Value} (hc:Flat c∨c=.own s k) (hu:cM (ctx h0 w0 ρ st w) c v) (h:dA st c=some y):cM (bare (ctx h0 w0 ρ (st.jV s k none) w).h) y v∧(v.oneCell'=true∨y=c):=by
 have kk:=(S.drop s k).2
 rcases hc with hf|rfl
 ·unfold dA at h;rw[if_pos hf] at h;simp only[Option.some.injEq] at h;subst h;exact⟨hu.flat hf kk.h,.inr rfl⟩
 ·unfold dA at h;rw[if_neg (by intro h;cases h)] at h
  simp only at h
  split at h
  ·rename_i e sz n cs he;split at h
   ·rename_i hf;simp only[Option.some.injEq] at h;subst h;obtain⟨_,ho1,xs,ho,hc⟩:=S.rT s k _ he
    cases hu with
    | own s g hg h1 =>
      refine⟨Ek (fun b o hv hb NG=>⟨NG,fun aZ=>by omega,fun s' g' e' zM wG=>?_⟩) ho (hc.flat hf kk.h),.inl h1⟩
      simp only[St.jV] at zM
      split at zM
      ·cases zM
      ·rename_i gR;have:=S.inj s' g' s k e' _ b zM he wG hv
       exact gR this
   ·cases h
  ·cases h
theorem R5 (S:kE F h0 w0 nt ρ st a w) {s k:Nat} {x y:AV} {v:Value} (hx:JY x) (hk:∀p∈iQ x,p=(s,k)) (hu:cM (ctx h0 w0 ρ st w) x v) (h:fV st x=some y):cM (bare (ctx h0 w0 ρ (st.jV s k none) w).h) y v:=by
 have kk:=(S.drop s k).2
 by_cases hf:Flat x
 ·unfold fV at h;rw[if_pos hf] at h;simp only[Option.some.injEq] at h;subst h;exact hu.flat hf kk.h
 ·rcases hx with hx|⟨s',k',rfl⟩|⟨cs,rfl,AS⟩
  ·exact absurd hx hf
  ·have:=hk (s',k') (by simp[iQ,gK])
   simp only[Prod.mk.injEq] at this;obtain⟨rfl,rfl⟩:=this
   unfold fV at h;rw[if_neg hf] at h;exact (aLU S (.inr rfl) hu h).1
  ·have hc:∀c∈cs,Flat c∨c=.own s k:=fun c hc=>by
    rcases AS c hc with h|⟨s',k',rfl⟩
    ·exact .inl h
    ·have:=hk (s',k') (by simp only[iQ];exact List.mem_flatMap.2 ⟨_,hc,by simp[gK]⟩)
     simp only[Prod.mk.injEq] at this;obtain⟨rfl,rfl⟩:=this
     exact .inr rfl
   unfold fV at h;rw[if_neg hf] at h;simp only[Option.map_eq_some_iff] at h;obtain⟨ys,Ts,rfl⟩:=h
   have hmm:=jD _ _ Ts
   have hlen:ys.length=cs.length:=by have:=congrArg List.length hmm;simpa using this.symm
   cases hu with
   | agg _ arr hl hr h1 =>
     refine .agg ys arr (by omega) (fun i y z hy hz=>?_) h1
     have hi:i<cs.length:=by have:=(List.getElem?_eq_some_iff.1 hy).1;omega
     have Iv:dA st cs[i]=some y:=by
      have:=congrArg (·[i]?) hmm
      simp only[List.getElem?_map,hy,List.getElem?_eq_getElem hi,Option.map_some,Option.some.injEq] at this;exact this
     exact (aLU S (hc _ (List.getElem_mem hi)) (hr i cs[i] z (by simp[hi]) hz) Iv).1
theorem Of {r:AV} {dst:Option Nat} {s k:Nat} {e:qW} (h:Dj r st dst s k=some e) :
 (Flat r∧e={ dst:=dst,val:=r,dP:=some (s,k,none)}) ∨
 (¬Flat r∧∃e1 sz n cs d,r=.uniq e1 sz n cs∧dst=some d∧(∀c∈cs,gE c)∧e={ dst:=some d,val:=.own d (st.aQ d),dP:=some (s,k,none),new:=some (d,[.row e1 sz n cs])}):=by
 unfold Dj at h;split at h
 ·rename_i hf;simp only[Option.some.injEq] at h;exact .inl ⟨hf,h.symm⟩
 ·rename_i hf;split at h
  ·rename_i e1 sz n cs d;split at h
   ·rename_i hc;simp only[Option.some.injEq] at h;exact .inr ⟨hf,e1,sz,n,cs,d,rfl,rfl,hc,h.symm⟩
   ·cases h
  ·cases h
theorem AU (S:kE F h0 w0 nt ρ st a w) {call:Nat→List AV→Option AV} (jY:qK P call) {g:Nat} {args:List AV} {vs:Array Value} {dst:Option Nat} {e:qW}
 (h:eQ call g args st dst=some e) (fU:lC (ctx h0 w0 ρ st w) args vs.toList) (hd:∀d,dst=some d→d<nt)
 (hK:∀nD a' w',kE F h0 w0 nt nD (e.apply st) a' w'→K a' w') :
 Hh P g∧Calls P g vs w fun en w'=>∃v,en=.returned v∧K (a.put dst v) w':=by
 unfold eQ at h;split at h
 ·rename_i s k Nz;split at h
  ·rename_i rE;split at h
   ·rename_i xs GV;cases hc:call g xs with
    | none=>simp[hc,cH] at h
    | some r =>
      obtain⟨R4,hs⟩:=jY g xs r hc
      refine⟨R4, ?_⟩
      simp only[hc,cH] at h;have h:=Of h
      have hmm:=jD _ _ GV
      have RC:∀x∈xs,Flat x:=oX (fun a b h=>Je h) _ _ GV
      have hlen:xs.length=args.length:=by have:=congrArg List.length hmm;simpa using this.symm
      obtain⟨S1,kk⟩:=S.drop s k
      have Oe:lC (bare (ctx h0 w0 ρ (st.jV s k none) w).h) xs vs.toList:=⟨by rw[hlen];exact fU.len,fun i x y hx hy=>by
       have hi:i<args.length:=by have:=(List.getElem?_eq_some_iff.1 hx).1;omega
       have Iv:fV st args[i]=some x:=by
        have:=congrArg (·[i]?) hmm
        simp only[List.getElem?_map,hx,List.getElem?_eq_getElem hi,Option.map_some,Option.some.injEq] at this;exact this
       refine R5 S (rE _ (List.getElem_mem hi)) (fun p hp=>?_) (fU.rel i args[i] y (by simp[hi]) hy) Iv
       have:p∈args.flatMap iQ:=List.mem_flatMap.2 ⟨_,List.getElem_mem hi,hp⟩
       rw[Nz] at this;simpa using this⟩
      refine ((Xk hs RC) w (ctx h0 w0 ρ (st.jV s k none) w).h vs (fun b o hb=>hb.1) Oe).mono ?_
      rintro en w' ⟨v,rfl,hr,hg⟩
      rcases h with ⟨XG,rfl⟩|⟨XG,e1,sz,n,cs,d,rfl,rfl,AS,rfl⟩
      ·refine⟨v,rfl,xH (e:={ dst:=dst,val:=r }) S1 hr hg (.inl fun b o hb=>hb) ?_ hd (fun nD a' w2 hS=>hK nD a' w2 hS)⟩
       unfold iP;rw[if_pos XG]
      ·refine⟨v,rfl,xH (e:={ dst:=some d,val:=.own d (st.aQ d),new:=some (d,[.row e1 sz n cs])}) S1 hr hg (.inr AS) ?_ hd (fun nD a' w2 hS=>hK nD a' w2 hS)⟩
       unfold iP;rw[if_neg XG];rfl
   ·cases h
  ·cases h
 ·exact El S jY h fU hd hK
theorem GW (S:kE F h0 w0 nt ρ st a w) {call:Nat→List AV→Option AV} (jY:qK P call) {g:Nat} {args:List AV} {vs:Array Value} {dst:Option Nat} {e:qW}
 (h:lA call g args st dst=some e) (fU:lC (ctx h0 w0 ρ st w) args vs.toList) (hd:∀d,dst=some d→d<nt)
 (hK:∀nD a' w',kE F h0 w0 nt nD (e.apply st) a' w'→K a' w') :
 Hh P g∧Calls P g vs w fun en w'=>∃v,en=.returned v∧K (a.put dst v) w':=by
 unfold lA at h;split at h
 ·rename_i s k rest;split at h
  ·rename_i e0 sz n cs he;split at h
   ·rename_i AS;obtain⟨AS,XG⟩:=AS
    have hvs:∃v0 vr,vs=#[v0]++vr∧cM (ctx h0 w0 ρ st w) (.own s k) v0∧lC (ctx h0 w0 ρ st w) rest vr.toList:=by
     have hl:=fU.len
     cases hv:vs.toList with
     | nil=>rw[hv] at hl;simp at hl
     | cons v0 vr =>
       rw[hv] at fU;refine⟨v0,vr.toArray, ?_,fU.head,by simpa using fU.tail⟩
       apply Array.ext'
       rw[hv];simp
    obtain⟨v0,vr,rfl,hv0,hrest⟩:=hvs
    have hv0':v0=ρ s k:=by cases hv0;rfl
    subst hv0'
    obtain⟨hk1,hk2,ys,ho,mH⟩:=S.rT s k _ he
    have run:∀r,call g (.uniq e0 sz n cs :: rest)=some r→Hh P g ∧
     Calls P g (#[ρ s k]++vr) w fun en w'=>∃v,en=.returned v∧w.grownBy w' (dF (ρ s k)) ∧
      match r with
      | .uniq e' sT n' Dg=>∃zs,nF w' 0 e' sT v n' zs∧fG (bare (ctx h0 w0 ρ st w).h) Dg zs∧∀b,dF v=some b→dF (ρ s k)=some b∨w.heap.size≤b
      | .eE [.uniq e' sT n' Dg]=>v=.tuple #[]∧∃zs,nF w' 0 e' sT (ρ s k) n' zs∧fG (bare (ctx h0 w0 ρ st w).h) Dg zs
      | _=>False:=by
     intro r hr;obtain⟨R4,hs⟩:=jY _ _ _ hr
     refine⟨R4, ?_⟩
     have hs:UB P g e0 sz n cs rest r:=hs
     exact hs w (ctx h0 w0 ρ st w).h (ρ s k) ys vr (fun b o hb=>hb.1) (fun b o hb=>hb.2.2 s k _ he) (yB ho (Nat.zero_le _)) (mH.flat AS fun b o hb=>hb) (EI hrest XG fun b o hb=>hb)
    have bareLe:∀C:Ctx,(ctx h0 w0 ρ st w).Le C→(bare (ctx h0 w0 ρ st w).h).Le C:=fun C kC=>⟨kC.h,fun _=>Nat.zero_le _,fun _ _ h=>absurd h (by simp[bare])⟩
    have vZ:∀b,dF (ρ s k)=some b→w0.heap.size≤b:=fun b hb=>(Bz ho b hb).1
    split at h
    ·rename_i e' sT n' Dg hr
     obtain⟨R4,hc⟩:=run _ hr
     refine⟨R4,hc.mono ?_⟩
     rintro en w' ⟨v,rfl,hg,zs,hz,R6,hzb⟩
     cases dst with
     | none=>cases h
     | some d =>
       simp only[Option.some.injEq] at h;subst h;refine⟨v,rfl, ?_⟩
       obtain⟨S',kk,oL⟩:=S.I0 he hg d (.row e' sT n' Dg) v (sK hz) hzb (fun C kC=>⟨zs,Od hz (fun b hb=>by
        rcases hzb b hb with h|h
        ·exact vZ b h
        ·have:=S.ext.size;omega),R6.le (bareLe C kC)⟩)
       have happ:qW.apply { dst:=some d,val:=.own d (st.aQ d),dP:=some (s,k,none),new:=some (d,[.row e' sT n' Dg])} st=((st.jV s k none).new d (.row e' sT n' Dg)).put (some d) (.own d (st.aQ d)):=by
        simp only[qW.apply,Vj]
       have aZ:st.aQ d<(ctx h0 w0 (tC ρ d (st.aQ d) v) ((st.jV s k none).new d (.row e' sT n' Dg)) w').aQ d:=by simp[ctx,St.new,St.jV]
       have kK:(ctx h0 w0 (tC ρ d (st.aQ d) v) ((st.jV s k none).new d (.row e' sT n' Dg)) w').ρ d (st.aQ d)=v:=oL
       have:=cM.own (C:=ctx h0 w0 (tC ρ d (st.aQ d) v) ((st.jV s k none).new d (.row e' sT n' Dg)) w') d (st.aQ d) aZ (by rw[kK];exact sK hz)
       rw[kK] at this;have hS:=S'.put (some d) hd this
       rw[← happ] at hS;exact hK _ _ _ hS
    ·rename_i e' sT n' Dg hr
     obtain⟨R4,hc⟩:=run _ hr
     refine⟨R4,hc.mono ?_⟩
     rintro en w' ⟨v,rfl,hg,rfl,zs,hz,R6⟩
     simp only[Option.some.injEq] at h;subst h;have S':=S.H9 (e':=.row e' sT n' Dg) he hg (fun C kC=>⟨zs,Od hz vZ,R6.le (bareLe C kC)⟩)
     exact⟨_,rfl,hK ρ _ _ (S'.put dst hd (.eE [] #[] rfl (by simp)))⟩
    ·cases h
   ·cases h
  ·cases h
 ·split at h
  ·exact El S jY h fU hd hK
  ·cases h
end
end Go.Ab
end
section
namespace Go.Ab
open Classical
section
variable {P:Program} {h0:Nat→Obj→Prop} {w0:World} {F:Gj} {nt:Nat} {ρ:Nat→Nat→Value} {st:St} {a:Act} {w:World} {K:Act→World→Prop} {Q:Exit→Act→World→Prop}
theorem upon_value {o:Oper} {v:Value} {w':World} (h:(execOp a.eval o).run P w=.ok (.value v) w') (hk:K (a.put o.dst v) w'):o.wp P a w K Q:=by
 unfold Oper.wp;rw[h];exact hk
theorem kE.newVar (S:kE F h0 w0 nt ρ st a w) (d:Nat) (hd:d<nt) (cs:List AV) (arr:Array Value) (T:Nat) (hc:fG (ctx h0 w0 ρ st w) cs arr.toList) :
 ∃nD,kE F h0 w0 nt nD ((st.new d (.cells cs)).put (some d) (.ptr d (st.aQ d) 0)) (a.put (some d) (.pointer (some ⟨w.heap.size,0,none⟩))) (w.alloc (.cells arr T)):=by
 obtain⟨S',k,oL⟩:=S.new (World.grownBy_alloc w (.cells arr T) none) d (.cells cs) (.pointer (some ⟨w.heap.size,0,none⟩)) rfl (fun b hb=>by simp[dF] at hb;omega)
  (fun C k _=>⟨w.heap.size,arr,T,rfl,S.ext.size,heap_alloc_new w _,hc.le k⟩)
 exact⟨_,S'.put (some d) (fun t ht=>by cases ht;exact hd) (.ptr d (st.aQ d) 0 w.heap.size (by simp[ctx,St.new]) (by show dF (tC _ _ _ _ _ _)=_;rw[oL];rfl))⟩
theorem kE.newRow (S:kE F h0 w0 nt ρ st a w) (d:Nat) (hd:d<nt) {w':World} (hg:w.grownBy w' none) (e sz n:Nat) (cs:List AV) (xs:List Value) (v:Value) (ho:nF w' w.heap.size e sz v n xs) (hc:fG (ctx h0 w0 ρ st w) cs xs) :
 ∃nD,kE F h0 w0 nt nD ((st.new d (.row e sz n cs)).put (some d) (.own d (st.aQ d))) (a.put (some d) v) w':=by
 obtain⟨S',k,oL⟩:=S.new hg d (.row e sz n cs) v (sK ho) (fun b hb=>(Bz ho b hb).1) (fun C k _=>⟨xs,yB ho S.ext.size,hc.le k⟩)
 refine⟨_,S'.put (some d) (fun t ht=>by cases ht;exact hd) ?_⟩
 have aZ:st.aQ d<(ctx h0 w0 (tC ρ d (st.aQ d) v) (st.new d (.row e sz n cs)) w').aQ d:=by simp[ctx,St.new]
 have kK:(ctx h0 w0 (tC ρ d (st.aQ d) v) (st.new d (.row e sz n cs)) w').ρ d (st.aQ d)=v:=oL
 have:=cM.own (C:=ctx h0 w0 (tC ρ d (st.aQ d) v) (st.new d (.row e sz n cs)) w') d (st.aQ d) aZ (by rw[kK];exact sK ho)
 rw[kK] at this;exact this
theorem Hk (z:Array Value) (n:Nat):((Array.range (n * z.size)).map (z[· % z.size]!)).toList=(List.range n).flatMap fun _=>z.toList:=by
 rw[Array.toList_map];have:(Array.range (n * z.size)).toList=List.range (n * z.size):=by simp
 rw[this];clear this
 induction n with
 | zero=>simp
 | succ n ih =>
   rw[Nat.succ_mul,List.range_add,List.map_append,ih,List.range_succ,List.flatMap_append];congr 1
   simp only[List.flatMap_cons,List.flatMap_nil,List.append_nil,List.map_map];apply List.ext_getElem?
   intro i;by_cases hi:i<z.size
   ·simp[hi,Nat.mod_eq_of_lt hi,Nat.mul_comm n z.size]
   ·simp[hi]
theorem Jf {C:Ctx} {z:List Value} (h1:∀y∈z,y.oneCell'=true) (n:Nat):fG C ((List.range n).flatMap fun _=>z.map .v) ((List.range n).flatMap fun _=>z):=by
 generalize List.range n=l
 induction l with
 | nil=>exact .nil C
 | cons x l ih=>simp only[List.flatMap_cons];exact (fG.vs C z h1).app ih
theorem Qz (S:kE F h0 w0 nt ρ st a w) {T n e sz by_:Nat} {parts:Array (Nat × Operand)} {z:List Value} {cs:List AV} (hs:dQ P T=some (e,sz,by_)) (hz:eF P e=some z)
 (hn:0<n∨parts=#[]) (hlim:n * sz≤2 ^ 24) (rH:(parts.toList.all fun p=>(st.ev p.2).jI)=true)
 (hf:gJ (fun i=>some (i * sz,sz)) ((List.range n).flatMap fun _=>z.map .v) (parts.toList.map fun p=>(p.1,st.ev p.2))=some cs) :
 ∃v w' xs,(Instr.buildSlice T n (parts.map fun (i,x)=>(i,a.eval x))).run P w=.ok v w'∧w.grownBy w' none∧nF w' w.heap.size e sz v n xs∧fG (ctx h0 w0 ρ st w) cs xs:=by
 obtain⟨ei,ez,hT,Be,AF,rfl,AA,rfl,wJ⟩:=jT hs
 obtain⟨i',zv,Aa,KE,rfl,I2⟩:=yD hz
 rw[Be] at Aa
 cases Aa
 rw[AF] at KE;cases KE
 rcases Nat.eq_zero_or_pos n with h0'|hn
 ·subst h0'
  have hp:parts=#[]:=by
   rcases hn with h|h
   ·omega
   ·exact h
  subst hp;simp[gJ] at hf
  subst hf;refine⟨.slice (some ⟨w.heap.size,0,none⟩) 0 0,w.alloc (.cells #[] e),[], ?_,World.grownBy_alloc w _ none,⟨by simp,.inl ⟨_,rfl,rfl⟩⟩,.nil _⟩
  simp[Instr.buildSlice,run_underlying hT,sizeOf,typeInfo,zeroValue,Be,Instr.fill,newRow]
  rw[show Array.map (fun x=>(default:Value)) (Array.range 0)=#[] from by simp[Array.range]]
 have fU:lC (ctx h0 w0 ρ st w) ((parts.toList.map fun p=>(p.1,st.ev p.2)).map (·.2)) ((parts.toList.map fun p=>(p.1,a.eval p.2)).map (·.2)):=by
  simp only[List.map_map];exact lC.map _ _ _ fun p _=>S.ev p.2
 have hnz:¬n * ei.size=0:=by
  have:=Nat.mul_pos hn wJ
  omega
 have UF:((Array.range (n * ei.size)).map (ez.cells[· % ez.cells.size]!)).toList=(List.range n).flatMap fun _=>ez.cells.toList:=by
  rw[← AA];exact Hk ez.cells n
 obtain⟨cells,KF,mH⟩:=Kn (place:=fun i=>some (i * ei.size,ei.size)) (parts.toList.map fun p=>(p.1,st.ev p.2)) (parts.toList.map fun p=>(p.1,a.eval p.2)) _ ((Array.range (n * ei.size)).map (ez.cells[· % ez.cells.size]!)) cs (by simp) fU
  (fun p QZ=>by
   obtain⟨q,hq,rfl⟩:=List.mem_map.1 QZ
   exact List.all_eq_true.1 rH q hq) (by rw[UF];exact Jf I2 n) hf
 have hr:=run_buildSlice (P:=P) w T e n (parts.map fun (i,x)=>(i,a.eval x)) cells ei ez hT Be AF (by omega) hnz (by simpa using KF)
 have YG:cells.size=n * ei.size:=by
  have hlen:∀(place:Nat→Option (Nat × Nat)) (ps:List (Nat × AV)) (c out:List AV),gJ place c ps=some out→out.length=c.length:=by
   intro place ps;induction ps with
   | nil=>intro c out h;simp[gJ] at h;rw[h]
   | cons p ps ih =>
     intro c out h;obtain⟨i,x⟩:=p
     unfold gJ at h;split at h
     ·cases h
     ·split at h
      ·rename_i hc;have:=ih _ _ h
       rw[this];simp
       omega
      ·cases h
  have h1:=hlen _ _ _ _ hf
  have h2:=mH.len
  have h3:=(Jf (C:=ctx h0 w0 ρ st w) I2 n).len
  rw[← UF] at h3;simp only[Array.length_toList,Array.size_map,Array.size_range] at h2 h3;omega
 refine⟨_,_,cells.toList,hr,World.grownBy_alloc w _ none,Gi ?_,mH⟩
 refine⟨by simp[YG],.inr ⟨w.heap.size,n,cells,rfl,Nat.le_refl _,heap_alloc_new w _,Nat.le_refl _, ?_,YG, ?_⟩⟩
 ·have:n≤n * ei.size:=Nat.le_mul_of_pos_right n wJ
  simp only[maxLen];omega
 ·rw[← YG,← Array.length_toList,List.take_length]
theorem Tt (C:Ctx) {T e sz by_:Nat} {z:List Value} {n:Nat} (hs:dQ P T=some (e,sz,by_)) (hz:eF P e=some z)
 (hb:n * by_≤140737488355328) (hm:n≤maxLen) :
 ∃v w' xs,(Instr.makeSlice T (.int .i64 n) (.int .i64 n)).run P w=.ok v w'∧w.grownBy w' none∧nF w' w.heap.size e sz v n xs∧fG C ((List.range n).flatMap fun _=>z.map .v) xs:=by
 obtain⟨ei,ez,hT,Be,AF,rfl,AA,rfl,wJ⟩:=jT hs
 obtain⟨i',zv,Aa,KE,rfl,I2⟩:=yD hz
 rw[Be] at Aa
 cases Aa
 rw[AF] at KE;cases KE
 obtain⟨w',hr,ho,hg⟩:=run_make_full (P:=P) w w.heap.size T e ei ez ei.size hT Be AF rfl .i64 .i64 n (by rw[Nat.mul_comm];omega) hm (Nat.le_refl _)
 have UF:(madeCells ez.cells (n * ei.size)).toList=(List.range n).flatMap fun _=>ez.cells.toList:=by
  unfold madeCells;rw[← AA];exact Hk ez.cells n
 exact⟨_,w',_,hr,hg,Gi ho,by rw[UF];exact Jf I2 n⟩
theorem NJ (S:kE F h0 w0 nt ρ st a w) {T:Nat} {x y:AV} {s g:Nat} {e:mV} {u v:Value} (h:pK P st T x y=some (s,g,e)) (hu:cM (ctx h0 w0 ρ st w) x u) (hv:cM (ctx h0 w0 ρ st w) y v) :
 ∃w',(Instr.storeAt T u v).run P w=.ok () w'∧kE F h0 w0 nt ρ (st.jV s g (some e)) a w':=by
 unfold pK at h;split at h
 ·rename_i s' g' off
  split at h
  ·rename_i ba k hld;split at h
   ·rename_i hc;obtain⟨c1,c2⟩:=hc
    obtain⟨i,d,hi,hd,kF,rfl⟩:=zZ hld
    have GX:=hv.cells c2
    have hlen:=GX.len
    simp only[Array.length_toList] at hlen;cases hu with
    | ptr _ _ _ b hg hb =>
      have nA:dF (ρ s' g')=some b:=hb
      have main:∀(arr:Array Value) (B:Nat),w.heap[b]? = some (.cells arr B (0,0))→off+i.size≤arr.size →
       (Instr.storeAt T (.pointer (some ⟨b,off,none⟩)) v).run P w=.ok () (w.setRow b (arr.toList.take off++v.cells.toList++arr.toList.drop (off+i.size)).toArray):=by
       intro arr B hh hle;have rH:=run_storeCells_at P b off B v.cells.toList 0 arr w hh (by simp;omega) (fun y hy=>by
        obtain⟨j,hj,rfl⟩:=List.getElem_of_mem hy
        exact GX.one j _ (by simp))
       simp only[Nat.add_zero,Array.length_toList] at rH;simp only[Instr.storeAt,Instr.sureAddr];rw[dI (Sem.run_pure P w _)];simp only[storeVar,dI (run_sizeOf w hi)];rw[if_neg (by omega),show off+i.size=off+v.cells.size by omega]
       exact rH
      have grown:∀(cs:Array Value),w.grownBy (w.setRow b cs) (some b):=fun cs=>⟨rfl,rfl,rfl,by simp,fun k _ hk=>setRow_other w b k cs (fun e=>hk (by rw[e]))⟩
      cases he:st.heap s' g' with
      | none=>simp[he] at h
      | some e' =>
        obtain⟨_,_,her⟩:=S.rT s' g' _ he
        cases e' with
        | cells cs =>
          simp only[he] at h;split at h
          ·rename_i hle;simp only[Option.some.injEq,Prod.mk.injEq] at h;obtain⟨rfl,rfl,rfl⟩:=h
           obtain⟨b',arr,B,kK,vZ,hh,hc⟩:=her
           have wG:b'=b:=by rw[kK] at nA;simpa [dF] using nA
           subst wG;have hl:=hc.len
           simp only[Array.length_toList] at hl;refine⟨_,main arr B hh (by omega),S.store he nA (grown _) fun C k=>⟨b',_,B,kK,vZ,setRow_heap w b' arr _ B (0,0) hh, ?_⟩⟩
           exact (((hc.take off).app GX).app (hc.drop _)).le k
          ·cases h
        | row e2 sz n cs =>
          simp only[he] at h;split at h
          ·rename_i hle;simp only[Option.some.injEq,Prod.mk.injEq] at h;obtain⟨rfl,rfl,rfl⟩:=h
           obtain⟨xs,ho,hc⟩:=her
           have ho':=ho
           rcases ho.2 with ⟨p,kK,_⟩|⟨b',cap,cur,kK,vZ,hh,Tr,y8,AS,ht,oM⟩
           ·rw[kK,pH] at nA;cases nA
           ·have wG:b'=b:=by rw[kK,jW oM] at nA;simpa using nA
            subst wG;have hl:=hc.len
            have hx:=ho.1
            have hle2:n * sz≤cap * sz:=Nat.mul_le_mul_right _ Tr
            refine⟨_,main cur e2 hh (by omega),S.store he nA (grown _) fun C k=>⟨xs.take off++v.cells.toList++xs.drop (off+i.size), ?_,(((hc.take off).app GX).app (hc.drop _)).le k⟩⟩
            refine⟨by simp;omega,.inr ⟨b',cap,_,kK,vZ,setRow_heap w b' cur _ e2 (0,0) hh,Tr,y8,by simp;omega, ?_,oM⟩⟩
            simp only
            rw[← ht];have Bf:cur.toList.length=cur.size:=rfl
            have hvl:v.cells.toList.length=v.cells.size:=rfl
            have l1:(cur.toList.take off++v.cells.toList).length=off+i.size:=by simp;omega
            rw[List.take_append,l1,List.take_of_length_le (by omega),List.drop_take,List.take_take,Nat.min_eq_left (by omega)]
          ·cases h
        | map es=>simp[he] at h
   ·cases h
  ·cases h
 ·cases h
end
end Go.Ab
end
