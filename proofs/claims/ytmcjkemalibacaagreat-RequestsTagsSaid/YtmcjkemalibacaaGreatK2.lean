/-
  Part 2 of the proof: an evaluator of programs, its soundness, and what functions of this program compute.
-/
import Derived.Test.YtmcjkemalibacaaGreatK1
import Derived.MapKept
set_option linter.all false
set_option maxRecDepth 20000
set_option maxHeartbeats 40000000
section
namespace Go.Ab
open Classical
section
variable {P:Program}
noncomputable def wT (x:Value):List MapEntry→Nat→Option (Nat × Value)
 | [],_=>none
 | e :: r,i=>if x=e.key then some (i,e.val) else wT x r (i+1)
theorem mk_inj {agg:Bool} {l:List Bool} {us vs:List Value} (h:fS l us vs) (ha:agg=false→l.length=1):mk agg us=mk agg vs↔us=vs:=by
 cases agg with
 | true=>simp[mk]
 | false =>
   have h1:=ha rfl
   obtain⟨e1,e2⟩:=kY _ _ _ h
   obtain⟨a,rfl⟩:=List.length_eq_one_iff.1 (e1.trans h1)
   obtain⟨b,rfl⟩:=List.length_eq_one_iff.1 (e2.trans h1)
   simp[mk]
theorem Tc (w:World) {k:Nat} {l:List Bool} {us vs:List Value} (hl:eI P 20 k=some l) (h:fS l us vs) :
 (Op.equal k (mk (cZ P k) us) (mk (cZ P k) vs)).run P w=.ok (decide (mk (cZ P k) us=mk (cZ P k) vs)) w:=by
 have:=Ax (P:=P) 20 10000 (by omega) w k l hl us vs h
 unfold Op.equal Op.maxDepth;rw[this];congr 1
 rw[Bool.eq_iff_iff];simp[mk_inj h (nF 20 k l hl)]
def P2 (P:Program) (k:Nat) (l:List Bool) (us:List Value) (es:List MapEntry):Prop:=∀e∈es,∃vs,e.key=mk (cZ P k) vs∧fS l us vs
theorem Gy (w:World) {k:Nat} {l:List Bool} {us:List Value} (hl:eI P 20 k=some l):∀(es:List MapEntry) (i:Nat),P2 P k l us es →
 (Instr.findAsking k (mk (cZ P k) us) es i).run P w=.ok (wT (mk (cZ P k) us) es i) w
 | [],i,_=>by simp[Instr.findAsking,wT]
 | e :: es,i,h=>by
   obtain⟨vs,hk,hv⟩:=h e (by simp)
   have ih:=Gy w hl es (i+1) (fun x hx=>h x (by simp[hx]))
   have he:=Tc w hl hv
   simp only[Instr.findAsking,hk,Sem.run_bind,he,Result.andThen_ok,wT];by_cases hq:mk (cZ P k) us=mk (cZ P k) vs
   ·simp[hq]
   ·simp[hq,ih]
theorem Sg {q k0:IntKind} {a:Int}:∀(es:List MapEntry) (i:Nat),(∀e∈es,∃b,e.key=.int k0 b)→Instr.findNow (.int q) (.int k0 a) es i=some (wT (.int k0 a) es i)
 | [],i,_=>rfl
 | e :: es,i,h=>by
   obtain⟨b,hk⟩:=h e (by simp)
   have ih:=Sg (q:=q) (a:=a) es (i+1) (fun x hx=>h x (by simp[hx]))
   simp only[Instr.findNow,Instr.sameNow,hk,if_true,wT];by_cases hq:a=b
   ·subst hq;simp
   ·have:(a == b)=false:=by simp[hq]
    simp[this,ih,hq]
theorem Nk {a:Bool}:∀(es:List MapEntry) (i:Nat),(∀e∈es,∃b,e.key=.bool b)→Instr.findNow .bool (.bool a) es i=some (wT (.bool a) es i)
 | [],i,_=>rfl
 | e :: es,i,h=>by
   obtain⟨b,hk⟩:=h e (by simp)
   have ih:=Nk (a:=a) es (i+1) (fun x hx=>h x (by simp[hx]))
   simp only[Instr.findNow,Instr.sameNow,hk,wT];by_cases hq:a=b
   ·subst hq;simp
   ·have:(a == b)=false:=by simp[hq]
    simp[this,ih,hq]
theorem Jq {l:List Bool} {k:Nat} (h:Br P l k=true):(∃q,P.underlying k=some (.int q))∨P.underlying k=some .bool ∨
 ∃n e q i,P.underlying k=some (.array n e)∧P.underlying e=some (.int q)∧P.info? e=some i∧i.size=1∧l.length=n:=by
 unfold Br at h;split at h
 ·rename_i q hq;exact .inl ⟨q,hq⟩
 ·rename_i hq;exact .inr (.inl hq)
 ·rename_i n e hu;split at h
  ·rename_i q hq;simp only[Bool.and_eq_true,decide_eq_true_eq] at h;obtain⟨⟨⟨h1,h2⟩,h3⟩,_⟩:=h
   obtain⟨i,hi⟩:=Option.isSome_iff_exists.1 h3
   exact .inr (.inr ⟨n,e,q,i,hu,hq,hi,by rw[← qS hi];exact h1,h2⟩)
  ·cases h
 ·cases h
theorem Nl (w:World) {k:Nat} {l:List Bool} {us:List Value} (hl:eI P 20 k=some l) (hm:Br P l k=true) (hu:fS l us us) {es:List MapEntry} (h:P2 P k l us es) :
 (Instr.findKey k (mk (cZ P k) us) es).run P w=.ok (wT (mk (cZ P k) us) es 0) w:=by
 rcases Jq hm with ⟨q,hk⟩|hk|⟨n,e,q,i,hk,_⟩
 ·have kD:cZ P k=false:=by simp[cZ,hk]
  have Df:l=[true]:=by simpa [eI,hk] using hl.symm
  subst Df
  have hus:∀vs,fS [true] us vs→∃k0 a b,us=[.int k0 a]∧vs=[.int k0 b]:=fun vs h=>by
   cases us with
   | nil=>simp[fS] at h
   | cons u us=>cases vs with
     | nil=>cases u<;>simp[fS] at h
     | cons v vs =>
       cases u<;>cases v<;>simp[fS] at h
       cases us<;>cases vs<;>simp[fS] at h
       subst h;exact⟨_,_,_,rfl,rfl⟩
  obtain⟨k0,a,_,e1,_⟩:=hus us hu
  have Nm:∀e∈es,∃b,e.key=.int k0 b:=fun e he=>by
   obtain⟨vs,h1,h2⟩:=h e he
   obtain⟨k1,a1,b1,e2,e3⟩:=hus vs h2
   rw[e1] at e2;simp at e2
   exact⟨b1,by rw[h1,kD,e3];simp[mk,e2.1]⟩
  have hx:mk (cZ P k) us=.int k0 a:=by rw[kD,e1];rfl
  rw[hx];simp only[Instr.findKey,Sem.run_bind,aX hk,Result.andThen_ok,Sg es 0 Nm];rfl
 ·have kD:cZ P k=false:=by simp[cZ,hk]
  have Df:l=[false]:=by simpa [eI,hk] using hl.symm
  subst Df
  have hus:∀vs,fS [false] us vs→∃a b,us=[.bool a]∧vs=[.bool b]:=fun vs h=>by
   cases us with
   | nil=>simp[fS] at h
   | cons u us=>cases vs with
     | nil=>cases u<;>simp[fS] at h
     | cons v vs =>
       cases u<;>cases v<;>simp[fS] at h
       cases us<;>cases vs<;>simp[fS] at h
       exact⟨_,_,rfl,rfl⟩
  obtain⟨a,_,e1,_⟩:=hus us hu
  have Nm:∀e∈es,∃b,e.key=.bool b:=fun e he=>by
   obtain⟨vs,h1,h2⟩:=h e he
   obtain⟨a1,b1,e2,e3⟩:=hus vs h2
   exact⟨b1,by rw[h1,kD,e3];rfl⟩
  have hx:mk (cZ P k) us=.bool a:=by rw[kD,e1];rfl
  rw[hx];simp only[Instr.findKey,Sem.run_bind,aX hk,Result.andThen_ok,Nk es 0 Nm];rfl
 ·have kD:cZ P k=true:=by simp[cZ,hk]
  cases es with
  | nil =>
    simp[Instr.findKey,aX hk,Instr.findNow,wT]
  | cons m es =>
    have hn:Instr.findNow (.array n e) (mk (cZ P k) us) (m :: es) 0=none:=by
     simp[Instr.findNow,Instr.sameNow]
    simp only[Instr.findKey,Sem.run_bind,aX hk,Result.andThen_ok,hn];exact Gy w hl (m :: es) 0 h
theorem Jr (w:World) {k:Nat} {l:List Bool} {us:List Value} (hl:eI P 20 k=some l) (hm:Br P l k=true) (hu:fS l us us) (em:Bool) :
 (Instr.checkKey em 10000 k (mk (cZ P k) us)).run P w=.ok () w:=by
 have plain:∀(n t:Nat) (q:IntKind) (x:Value),P.underlying t=some (.int q)→(Instr.checkKey em (n+1) t x).run P w=.ok () w:=fun n t q x ht=>by
  simp[Instr.checkKey,aX ht]
 rcases Jq hm with ⟨q,hk⟩|hk|⟨n,e,q,i,hk,he,hi,hs,hn⟩
 ·exact plain 9999 k q _ hk
 ·have plainB:∀(n t:Nat) (x:Value),P.underlying t=some .bool→(Instr.checkKey em (n+1) t x).run P w=.ok () w:=fun n t x ht=>by
   simp[Instr.checkKey,aX ht]
  exact plainB 9999 k _ hk
 ·have kD:cZ P k=true:=by simp[cZ,hk]
  have hea:cZ P e=false:=by simp[cZ,he]
  have hlen:=(kY _ _ _ hu).1
  rw[kD];simp only[mk,if_true];rw[show (10000:Nat)=9999+1 from rfl,Instr.checkKey];simp only[Sem.run_bind,aX hk,Result.andThen_ok];simp only[Std.Legacy.Range.forIn_eq_forIn_range',Std.Legacy.Range.size,Nat.sub_zero,Nat.add_one_sub_one,Nat.div_one];have each:∀j∈List.range' 0 n,j<us.length:=fun j hj=>by
   have:=List.mem_range'_1.1 hj
   omega
  generalize List.range' 0 n=is at each
  induction is with
  | nil=>simp
  | cons j is ih =>
    have hj:=each j (by simp)
    have p1:=Ga w he hi us j (fun _=>hs) (by omega)
    simp only[List.forIn_cons,Sem.run_bind,run_sizeOf w hi,hs,Nat.mul_one,Result.andThen_ok,p1,plain 9998 e q _ he,Sem.run_pure];exact ih fun y hy=>each y (by simp[hy])
theorem vI:∀(l:List Bool) (us:List Value),fS l us us→∀x∈us,∀n,Instr.sameBits n x x=true
 | [],[],_,x,hx,n=>by simp at hx
 | true :: l,.int k a :: us,h,x,hx,n=>by
   rcases List.mem_cons.1 hx with rfl|hx
   ·cases n<;>simp[Instr.sameBits]
   ·exact vI l us h.2 x hx n
 | false :: l,.bool a :: us,h,x,hx,n=>by
   rcases List.mem_cons.1 hx with rfl|hx
   ·cases n<;>simp[Instr.sameBits]
   ·exact vI l us h x hx n
theorem r7 (w:World) {agg:Bool} {l:List Bool} {us:List Value} (hu:fS l us us) (ha:agg=false→l.length=1):(Instr.keyThatStays (mk agg us) (mk agg us)).run P w=.ok (mk agg us) w:=by
 have hs:Instr.sameBits 10000 (mk agg us) (mk agg us)=true:=by
  cases agg with
  | true =>
    simp only[mk,if_true];show Instr.sameBits (9999+1) _ _=true
    simp only[Instr.sameBits,beq_self_eq_true,Bool.true_and];have Kf:∀x∈us,Instr.sameBits 9999 x x=true:=fun x hx=>vI l us hu x hx 9999
    clear hu
    induction us with
    | nil=>rfl
    | cons x us ih =>
      simp only[List.zip_cons_cons,List.all_cons,Bool.and_eq_true];exact⟨Kf x (by simp),ih fun y hy=>Kf y (by simp[hy])⟩
  | false =>
    obtain⟨a,rfl⟩:=List.length_eq_one_iff.1 ((kY _ _ _ hu).1.trans (ha rfl))
    exact vI l [a] hu a (by simp) 10000
 simp[Instr.keyThatStays,hs]
theorem Nn {k:Nat} {x y:AV} {C:Ctx} {u v:Value} (h:Dj P k x y) (hu:cS C x u) (hv:cS C y v) :
 ∃l us vs,eI P 20 k=some l∧fS l us vs∧u=mk (cZ P k) us∧v=mk (cZ P k) vs∧(x=y↔u=v):=by
 unfold Dj at h;cases hl:eI P 20 k with
 | none=>simp[hl] at h
 | some l =>
   simp only[hl] at h;obtain⟨h1,h2,h3⟩:=h
   cases kD:cZ P k with
   | true =>
     obtain⟨⟨cs,rfl⟩,ds,rfl⟩:=h2 kD
     obtain⟨us,vs,e1,e2,e3⟩:=Bw _ _ _ h1
     simp only[AV.cells] at e1 e2;subst e1;subst e2;have eu:=zU hu
     have ev:=zU hv
     refine⟨l,us,vs,rfl,e3,by rw[eu];rfl,by rw[ev];rfl, ?_⟩
     rw[eu,ev];simp[CJ]
   | false =>
     obtain⟨⟨a,rfl⟩,b,rfl⟩:=h3 kD
     obtain⟨us,vs,e1,e2,e3⟩:=Bw _ _ _ h1
     have eu:=iE hu
     have ev:=iE hv
     subst eu;subst ev;have f1:us=[u]:=by
      cases us with
      | nil=>simp[AV.cells] at e1
      | cons c us=>simp[AV.cells] at e1;simp[e1.1,← e1.2]
     have f2:vs=[v]:=by
      cases vs with
      | nil=>simp[AV.cells] at e2
      | cons c vs=>simp[AV.cells] at e2;simp[e2.1,← e2.2]
     subst f1;subst f2;exact⟨l,_,_,rfl,e3,rfl,rfl,by simp⟩
theorem Xe {k:Nat} {x:AV} {C:Ctx} {u:Value} {l:List Bool} {us:List Value} (hl:eI P 20 k=some l) (hu:cS C x u) (he:u=mk (cZ P k) us) (hx:fS l us us):∀ {es:List (AV × AV)} {ms:List MapEntry},
 (∀p∈es,Dj P k x p.1)→Ux C es ms→P2 P k l us ms
 | [],[],_,_=>fun e h=>by simp at h
 | p :: es,m :: ms,hk,h=>by
   have ih:=Xe hl hu he hx (es:=es) (ms:=ms) (fun q hq=>hk q (by simp[hq])) h.2.2
   intro e hem;rcases List.mem_cons.1 hem with rfl|hem
   ·obtain⟨l',us',vs,e1,e2,e3,e4,_⟩:=Nn (hk p (by simp)) hu h.1
    rw[hl] at e1;cases e1
    refine⟨vs,e4, ?_⟩
    have:us'=us:=by
     rw[he] at e3;have hlen1:=(kY _ _ _ hx).1
     have hlen2:=(kY _ _ _ e2).1
     cases kD:cZ P k with
     | true=>rw[kD] at e3;simpa [mk] using e3.symm
     | false =>
       have h1:=nF 20 k l hl kD
       obtain⟨a,rfl⟩:=List.length_eq_one_iff.1 (hlen1.trans h1)
       obtain⟨b,rfl⟩:=List.length_eq_one_iff.1 (hlen2.trans h1)
       rw[kD] at e3;simpa [mk] using e3.symm
    rw[← this];exact e2
   ·exact ih e hem
 | [],_ :: _,_,h=>h.elim
 | _ :: _,[],_,h=>h.elim
theorem DS {k:Nat} {x:AV} {C:Ctx} {u:Value} (hu:cS C x u):∀ {es:List (AV × AV)} {ms:List MapEntry} (i:Nat),(∀p∈es,Dj P k x p.1)→Ux C es ms →
 (F7 es x=none∧wT u ms i=none)∨∃v y j,F7 es x=some v∧wT u ms i=some (i+j,y)∧cS C v y∧j<ms.length
 | [],[],i,_,_=>.inl ⟨rfl,rfl⟩
 | p :: es,m :: ms,i,hk,h=>by
   obtain⟨l',us',vs,e1,e2,e3,e4,e5⟩:=Nn (hk p (by simp)) hu h.1
   simp only[F7,wT];by_cases hq:x=p.1
   ·rw[if_pos hq.symm,if_pos (e5.1 hq)];exact .inr ⟨_,_,0,rfl,rfl,h.2.1,by simp⟩
   ·rw[if_neg (Ne.symm hq),if_neg (fun h'=>hq (e5.2 h'))]
    rcases DS hu (es:=es) (ms:=ms) (i+1) (fun q hq=>hk q (by simp[hq])) h.2.2 with ⟨h1,h2⟩|⟨v,y,j,h1,h2,h3,h4⟩
    ·exact .inl ⟨h1,h2⟩
    ·exact .inr ⟨v,y,j+1,h1,by rw[h2];congr 2;omega,h3,by simp;omega⟩
 | [],_ :: _,_,_,h=>h.elim
 | _ :: _,[],_,_,h=>h.elim
theorem DT {k:Nat} {x z:AV} {C:Ctx} {u y:Value} (hu:cS C x u) (hz:cS C z y):∀ {es:List (AV × AV)} {ms:List MapEntry} (i:Nat),(∀p∈es,Dj P k x p.1)→Ux C es ms →
 (wT u ms i=none∧∀c,Ux C (F9 es x z) (ms++[{ key:=u,val:=y,born:=c }])) ∨
 ∃v j,wT u ms i=some (i+j,v)∧(∃m,ms[j]? = some m∧m.key=u)∧Ux C (F9 es x z) (ms.modify j fun e=>{ e with key:=u,val:=y })
 | [],[],i,_,_=>.inl ⟨rfl,fun c=>⟨hu,hz,trivial⟩⟩
 | p :: es,m :: ms,i,hk,h=>by
   obtain⟨l',us',vs,e1,e2,e3,e4,e5⟩:=Nn (hk p (by simp)) hu h.1
   simp only[F9,wT];by_cases hq:x=p.1
   ·rw[if_pos hq.symm,if_pos (e5.1 hq)];exact .inr ⟨_,0,rfl,⟨m,rfl,(e5.1 hq).symm⟩,by simp[List.modify];exact⟨hu,hz,h.2.2⟩⟩
   ·rw[if_neg (Ne.symm hq),if_neg (fun h'=>hq (e5.2 h'))]
    rcases DT hu hz (es:=es) (ms:=ms) (i+1) (fun q hq=>hk q (by simp[hq])) h.2.2 with ⟨h1,h2⟩|⟨v,j,h1,h2,h3⟩
    ·exact .inl ⟨h1,fun c=>⟨h.1,h.2.1,h2 c⟩⟩
    ·exact .inr ⟨v,j+1,by rw[h1];congr 2;omega,by simpa using h2,by simp[List.modify_succ_cons];exact⟨h.1,h.2.1,h3⟩⟩
 | [],_ :: _,_,_,h=>h.elim
 | _ :: _,[],_,_,h=>h.elim
theorem Np {T k:Nat} {z:AV} (h:Ty P T=some (k,z)):∃e l zv,P.underlying T=some (.map k e)∧eI P 20 k=some l∧Br P l k=true ∧
 (∀w,(zeroValue e).run P w=.ok zv w)∧∀C:Ctx,cS C z zv:=by
 unfold Ty at h;split at h
 ·rename_i k' e hT
  split at h
  ·rename_i l z' hl hz
   split at h
   ·rename_i hm;simp only[Option.some.injEq,Prod.mk.injEq] at h;obtain⟨rfl,rfl⟩:=h
    unfold aDv at hz;split at hz
    ·rename_i i hi;split at hz
     ·rename_i cs JT;split at hz
      ·rename_i Kf;simp only[Option.some.injEq] at hz;subst hz;refine⟨e,l,_,hT,hl,hm,fun w=>Aw w hi JT,fun C=>?_⟩
       have hc:=fR.vs C cs.toList (List.all_eq_true.1 Kf)
       exact .agg _ _ (by simp) (fun j x y hx hy=>hc.rel j x y hx (by simpa using hy)) (fun j y hy=>hc.one j y (by simpa using hy))
      ·cases hz
     ·rename_i y hy JT;split at hz
      ·simp only[Option.some.injEq] at hz;subst hz;exact⟨e,l,_,hT,hl,hm,fun w=>Aw w hi JT,fun C=>.v _⟩
      ·cases hz
     ·cases hz
    ·cases hz
   ·cases h
  ·cases h
 ·cases h
end
section
variable {P:Program} {h0:Nat→Obj→Prop} {w0:World} {F:Fz} {nt:Nat} {ρ:Nat→Nat→Value} {st:St} {a:Act} {w:World}
theorem TH (S:kA F h0 w0 nt ρ st a w) {T:Nat} {m x z:AV} {ok:Bool} {mv xv:Value} (h:Rt P st T m x ok=some z) (hm:cS (ctx h0 w0 ρ st w) m mv) (hx:cS (ctx h0 w0 ρ st w) x xv) :
 ∃r,(Instr.lookup T mv xv ok).run P w=.ok r w∧cS (ctx h0 w0 ρ st w) z r:=by
 unfold Rt at h;split at h
 ·rename_i s g;split at h
  ·rename_i es k zd he hi;split at h
   ·rename_i hk;obtain⟨e,l,zv,hT,hl,hmk,hz,hzr⟩:=Np hi
    obtain⟨_,_,b,arr,clock,kK,_,hh,hml⟩:=S.rZ s g _ he
    obtain⟨l',us,vs,e1,e2,e3,e4,_⟩:=Nn hk.1 hx hx
    rw[hl] at e1;cases e1
    have hvs:vs=us:=by
     rw[e3] at e4;have hlen:=kY _ _ _ e2
     cases kD:cZ P k with
     | true=>rw[kD] at e4;simpa [mk] using e4.symm
     | false =>
       have h1:=nF 20 k l hl kD
       obtain⟨p,rfl⟩:=List.length_eq_one_iff.1 (hlen.1.trans h1)
       obtain⟨q,rfl⟩:=List.length_eq_one_iff.1 (hlen.2.trans h1)
       rw[kD] at e4;simpa [mk] using e4.symm
    subst hvs;have Nm:=Xe hl hx e3 e2 hk.2 hml
    cases hm with
    | mp _ _ hg ho =>
      show ∃r,(Instr.lookup T (ρ s g) xv ok).run P w=.ok r w∧_
      rw[kK,e3];have hck:=Jr w hl hmk e2 arr.isEmpty
      have hfk:=Nl w hl hmk e2 Nm
      rcases DS hx 0 hk.2 hml with ⟨h1,h2⟩|⟨v,y,j,h1,h2,h3,_⟩
      ·rw[h1] at h;simp only[Option.some.injEq] at h;subst h;rw[e3] at h2;rw[h2] at hfk;refine⟨if ok=true then .tuple #[zv,.bool false] else zv,by
        simp[Instr.lookup,aX hT,MapKept.run_getObj_map hh,hck,hfk,hz w], ?_⟩
       cases ok
       ·exact hzr _
       ·exact .eB _ _ rfl fun i x y hx hy=>by
         match i with
         | 0=>simp at hx hy;subst hx;subst hy;exact hzr _
         | 1=>simp at hx hy;subst hx;subst hy;exact .v _
         | i+2=>simp at hx
      ·rw[h1] at h;simp only[Option.some.injEq] at h;subst h;rw[e3] at h2;rw[h2] at hfk;refine⟨if ok=true then .tuple #[y,.bool true] else y,by
        simp[Instr.lookup,aX hT,MapKept.run_getObj_map hh,hck,hfk], ?_⟩
       cases ok
       ·exact h3
       ·exact .eB _ _ rfl fun i x y hx hy=>by
         match i with
         | 0=>simp at hx hy;subst hx;subst hy;exact h3
         | 1=>simp at hx hy;subst hx;subst hy;exact .v _
         | i+2=>simp at hx
   ·cases h
  ·cases h
 ·cases h
theorem GF (S:kA F h0 w0 nt ρ st a w) {T s g:Nat} {m x y:AV} {e:mI} {mv xv yv:Value} (h:tC P st T m x y=some (s,g,e))
 (hm:cS (ctx h0 w0 ρ st w) m mv) (hx:cS (ctx h0 w0 ρ st w) x xv) (hy:cS (ctx h0 w0 ρ st w) y yv) :
 ∃w',(Instr.mapUpdate T mv xv yv).run P w=.ok () w'∧kA F h0 w0 nt ρ (st.jE s g (some e)) a w':=by
 unfold tC at h;split at h
 ·rename_i s' g'
  split at h
  ·rename_i es k zd he hi;split at h
   ·rename_i hk;obtain⟨hk,tX⟩:=hk
    simp only[Option.some.injEq,Prod.mk.injEq] at h;obtain⟨rfl,rfl,rfl⟩:=h
    obtain⟨e,l,zv,hT,hl,hmk,hz,hzr⟩:=Np hi
    obtain⟨_,_,b,arr,clock,kK,vW,hh,hml⟩:=S.rZ s' g' _ he
    obtain⟨l',us,vs,e1,e2,e3,e4,_⟩:=Nn hk.1 hx hx
    rw[hl] at e1;cases e1
    have hvs:vs=us:=by
     rw[e3] at e4;have hlen:=kY _ _ _ e2
     cases kD:cZ P k with
     | true=>rw[kD] at e4;simpa [mk] using e4.symm
     | false =>
       have h1:=nF 20 k l hl kD
       obtain⟨p,rfl⟩:=List.length_eq_one_iff.1 (hlen.1.trans h1)
       obtain⟨q,rfl⟩:=List.length_eq_one_iff.1 (hlen.2.trans h1)
       rw[kD] at e4;simpa [mk] using e4.symm
    subst hvs;have Nm:=Xe hl hx e3 e2 hk.2 hml
    clear e4
    subst e3;have mZ:dB (ρ s' g')=some b:=by rw[kK];rfl
    have grown:∀o,w.grownBy { w with heap:=w.heap.setIfInBounds b o } (some b):=fun o=>⟨rfl,rfl,rfl,by simp,fun k _ hk=>by
     have gN:b≠k:=fun e=>hk (by rw[e])
     simp[gN]⟩
    cases hm with
    | mp _ _ hg ho =>
      show ∃w',(Instr.mapUpdate T (ρ s' g') _ yv).run P w=.ok () w'∧_
      have hck:=Jr w hl hmk e2 false
      have hfk:=Nl w hl hmk e2 Nm
      have bA:b<w.heap.size:=(Array.getElem?_eq_some_iff.1 hh).1
      rcases DT (z:=y) hx hy 0 hk.2 hml with ⟨h1,h2⟩|⟨v,j,h1,⟨m0,hm0,hmk0⟩,h3⟩
      ·rw[h1] at hfk;refine⟨_,by
        rw[kK];simp only[Instr.mapUpdate,Sem.run_bind,aX hT,MapKept.run_getObj_map hh,Result.andThen_ok,hck,hfk,MapKept.run_setObj_map _ hh];rfl,S.store he mZ (grown _) fun C kk=>?_⟩
       refine⟨b,arr.push { key:=mk (cZ P k) vs,val:=yv,born:=clock },clock+1,kK,vW,by simp[bA], ?_⟩
       have:=(h2 clock).le kk
       simpa using this
      ·rw[h1] at hfk;have tX:=r7 (P:=P) w (agg:=cZ P k) e2 (nF 20 k l hl)
       have hm0':arr[j]? = some m0:=by simpa using hm0
       have hkey:((arr[0+j]?).map (·.key)).getD (mk (cZ P k) vs)=mk (cZ P k) vs:=by
        rw[Nat.zero_add,hm0'];simp[hmk0]
       refine⟨_,by
        rw[kK];simp only[Instr.mapUpdate,Sem.run_bind,aX hT,MapKept.run_getObj_map hh,Result.andThen_ok,hck,hfk,hkey,tX,MapKept.run_setObj_map _ hh];rfl,S.store he mZ (grown _) fun C kk=>?_⟩
       refine⟨b,arr.modify (0+j) fun e=>{ e with key:=mk (cZ P k) vs,val:=yv },clock,kK,vW,by simp[bA], ?_⟩
       have:=h3.le kk
       simpa [Array.toList_modify] using this
   ·cases h
  ·cases h
 ·cases h
end
end Go.Ab
end
section
namespace Go.Ab
open Classical
section
variable {P:Program} {h0:Nat→Obj→Prop} {w0:World} {F:Fz} {nt:Nat} {ρ:Nat→Nat→Value} {st:St} {a:Act} {w:World}
theorem MM (S:kA F h0 w0 nt ρ st a w) {T:Nat} {x z:AV} {lo hi:Option Operand} {u:Value} (h:cU P st T x lo hi=some z) (hu:cS (ctx h0 w0 ρ st w) x u) :
 ∃r,(Instr.sliceAt T u (lo.map a.eval) (hi.map a.eval) none).run P w=.ok r w∧cS (ctx h0 w0 ρ st w) z r:=by
 unfold cU at h;cases hs:dK P T with
 | none =>
   simp only[hs] at h;split at h
   ·rename_i n sz s g o ha;obtain⟨e,ei,hT,hi,rfl,gN⟩:=Mh ha
    cases he:st.heap s g with
    | none=>simp[he] at h
    | some en =>
      cases en with
      | cells es =>
        simp only[he,Option.some.injEq] at h;subst h;obtain⟨_,_,b1,arr,T1,kK,_⟩:=S.rZ s g _ he
        cases hu with
        | ptr _ _ _ b hg hb =>
          refine⟨.slice (some ⟨b,o,none⟩) n n, ?_,.vw s g o n b n hg hb (Nat.le_refl _) (fun ho p n0 c0 hc=>by
           have h2:ρ s g=.slice p n0 c0:=hc
           rw[kK] at h2;cases h2)⟩
          simp[Instr.sliceAt,aX hT,Instr.sureAddr,Instr.sliceBounds,run_sizeOf w hi,lA]
      | _=>simp[he] at h
   ·cases h
 | some t =>
   obtain⟨e,sz,by_⟩:=t
   simp only[hs] at h;obtain⟨ei,ez,hT,Ay,Zz,rfl,Rx,rfl,zJ⟩:=jP hs
   have hiv:∀(o:Option Operand) (n:Int) (k:IntKind) (i:Int),(match o with|some h=>st.ev h|none=>AV.v (.int .i64 n))=.v (.int k i) →
    (match o with|some h=>a.eval h|none=>Value.int .i64 n)=.int k i:=fun o n k i ho=>by
    cases o with
    | none=>simp only at ho ⊢;cases ho;rfl
    | some p =>
      simp only at ho ⊢
      have:=S.ev p
      rw[ho] at this;exact iE this
   have pN:∀(p:Option Addr) (n cap:Nat) (kh kl:IntKind) (H L:Int),n≤cap→(match hi with|some h=>a.eval h|none=>Value.int .i64 n)=.int kh H→(match lo with|some l=>a.eval l|none=>Value.int .i64 0)=.int kl L →
    0≤L→L≤H→H≤n →
    (Instr.sliceAt T (.slice p n cap) (lo.map a.eval) (hi.map a.eval) none).run P w=.ok (.slice (if cap=L.toNat then p else p.map (·.add (L.toNat * ei.size))) (H.toNat-L.toNat) (cap-L.toNat)) w:=by
    intro p n cap kh kl H L mJ hh hl l0 l1 l2;have b1:H≤(cap:Int):=by omega
    have b2:L≤((H.toNat:Nat):Int):=by omega
    have b3:0≤H:=by omega
    have b6:max H 0=H:=by omega
    cases hi with
    | none =>
      simp only[Value.int.injEq] at hh;obtain⟨rfl,rfl⟩:=hh
      cases lo with
      | none =>
        simp only[Value.int.injEq] at hl;obtain⟨rfl,rfl⟩:=hl
        simp[Instr.sliceAt,Instr.slice,Instr.sliceBounds,aX hT,run_sizeOf w Ay]
      | some l =>
        simp only at hl
        simp[Instr.sliceAt,Instr.slice,Instr.sliceBounds,Instr.sliceBound,asIntOf,aX hT,run_sizeOf w Ay,hl,l0,l1]
    | some h =>
      simp only at hh
      cases lo with
      | none =>
        simp only[Value.int.injEq] at hl;obtain⟨rfl,rfl⟩:=hl
        simp[Instr.sliceAt,Instr.slice,Instr.sliceBounds,Instr.sliceBound,asIntOf,aX hT,run_sizeOf w Ay,hh,b3,b1]
      | some l =>
        simp only at hl
        simp[Instr.sliceAt,Instr.slice,Instr.sliceBounds,Instr.sliceBound,asIntOf,aX hT,run_sizeOf w Ay,hh,hl,l0,b3,b1,b6,l1]
   cases x with
   | sl n cs =>
     simp only at h
     split at h
     ·rename_i kh H kl L e1 e2;split at h
      ·rename_i hc;obtain⟨c1,c2,c3,c4⟩:=hc
       simp only[Option.some.injEq] at h;subst h;have P3:=hiv hi n kh H e1
       have e2':=hiv lo 0 kl L e2
       have hHL:(H-L).toNat=H.toNat-L.toNat:=by omega
       cases hu with
       | JP n cap p mJ =>
         refine⟨_,pN p n cap kh kl H L mJ P3 e2' c1 c2 c3, ?_⟩
         rw[hHL];simp only[List.drop_nil,List.take_nil];exact .JP _ _ _ (by omega)
       | sl n cs b off cap arr T' fr mJ hb hle hr h1 =>
         refine⟨_,pN _ n cap kh kl H L mJ P3 e2' c1 c2 c3, ?_⟩
         rw[hHL];by_cases hm:cap=L.toNat
         ·have hz:H.toNat-L.toNat=0:=by omega
          rw[if_pos hm,hz];simp only[Nat.zero_mul,List.take_zero];exact .JP _ _ _ (by omega)
         ·rw[if_neg hm];simp only[Option.map_some,lA];have hbound:L.toNat * ei.size+(H.toNat-L.toNat) * ei.size≤cs.length:=by
           rw[c4,← Nat.add_mul];exact Nat.mul_le_mul_right _ (by omega)
          refine .sl _ _ b (off+L.toNat * ei.size) _ arr T' fr (by omega) hb (by simp;omega) (fun i x y hx hy=>?_) (fun i y Bx hy=>?_)
          ·rw[List.getElem?_take] at hx;split at hx
           ·rw[List.getElem?_drop] at hx;exact hr _ x y hx (by rw[← Nat.add_assoc];exact hy)
           ·cases hx
          ·simp only[List.length_take,List.length_drop] at Bx
           exact h1 (L.toNat * ei.size+i) y (by omega) (by rw[← Nat.add_assoc];exact hy)
      ·cases h
     ·cases h
   | v xv =>
     split at h
     ·rename_i heq;cases heq
     ·rename_i heq;cases heq
      split at h
      ·rename_i kh H kl L e1 e2;split at h
       ·rename_i hc;obtain⟨rfl,rfl⟩:=hc
        simp only[Option.some.injEq] at h;subst h;have:=iE hu
        subst this;have P3:=hiv hi 0 kh 0 e1
        have e2':=hiv lo 0 kl 0 e2
        refine⟨_,pN none 0 0 kh kl 0 0 (Nat.le_refl _) P3 e2' (by omega) (by omega) (by omega), ?_⟩
        simp
        exact .v _
       ·cases h
      ·cases h
     ·rename_i heq;cases heq
     ·rename_i heq;cases heq
     ·cases h
   | own s g =>
     simp only at h
     cases he:st.heap s g with
     | none=>simp[he] at h
     | some en =>
       cases en with
       | row e' sY n es =>
         simp only[he] at h;split at h
         ·rename_i kh H kl L e1 e2;split at h
          ·rename_i hc;obtain⟨c1,c2,c3⟩:=hc
           have P3:=hiv hi n kh H e1
           have e2':=hiv lo 0 kl L e2
           have hHL:(H-L).toNat=H.toNat-L.toNat:=by omega
           obtain⟨bA,_,xs,ho,Az⟩:=S.rZ s g _ he
           cases hu with
           | own _ _ hg h1 =>
             show ∃r,(Instr.sliceAt T (ρ s g) (lo.map a.eval) (hi.map a.eval) none).run P w=.ok r w∧_
             rcases ho.2 with ⟨p,kK,hn⟩|⟨b',cap,cur,kK,_,hh,Td,_,_,ht,pY⟩
             ·rw[kK];subst hn;have hLH:L=H:=by omega
              rw[if_pos ⟨hLH,by omega⟩] at h
              simp only[Option.some.injEq] at h;subst h;have hz:H.toNat-L.toNat=0:=by omega
              refine⟨_,pN p 0 0 kh kl H L (Nat.le_refl _) P3 e2' c1 c2 c3, ?_⟩
              rw[hz];exact .JP _ _ _ (by omega)
             ·rw[kK];refine⟨_,pN _ n cap kh kl H L Td P3 e2' c1 c2 c3, ?_⟩
              split at h
              ·rename_i hLH;simp only[Option.some.injEq] at h;subst h;have hz:H.toNat-L.toNat=0:=by omega
               rw[hz];exact .JP _ _ _ (by omega)
              ·rename_i hLH;simp only[Option.some.injEq] at h;subst h;rw[if_neg (by omega),hHL]
               simp only[Option.map_some,lA,Nat.zero_add];exact .vw s g _ _ b' _ hg (by show dB (ρ s g)=_;rw[kK,jT pY]) (by omega) (fun hz p n0 c0 hc=>by
                have h3:L.toNat=0:=(Nat.mul_eq_zero.1 hz).resolve_right (by omega)
                have h2:ρ s g=.slice p n0 c0:=hc
                rw[kK] at h2;simp only[Value.slice.injEq] at h2;omega)
          ·cases h
         ·cases h
       | _=>simp[he] at h
   | vw s g o k =>
     cases o with
     | succ o=>simp at h
     | zero =>
     simp only at h
     split at h
     ·rename_i e' sY n es ho' Df he
      split at h
      ·rename_i kh H kl L e1 e2;split at h
       ·rename_i hc;obtain⟨c1,c2,c3⟩:=hc
        simp only[Option.some.injEq] at h;subst h;obtain⟨bA,_,xs,ho,Az⟩:=S.rZ s g _ he
        cases hu with
        | vw _ _ _ _ b cap hg hb mJ xX =>
          have mZ:dB (ρ s g)=some b:=hb
          rcases ho.2 with ⟨p,kK,hn⟩|⟨b',Zy,cur,kK,_,hh,Td,_,_,ht,pY⟩
          ·rw[kK,pE] at mZ;cases mZ
          ·have wE:b'=b:=by rw[kK,jT pY] at mZ;simpa using mZ
           subst wE;have hcc:cap=Zy:=xX rfl _ _ _ kK
           subst hcc;have f1:a.eval ho'=.int kh H:=by
            have:=S.ev ho'
            rw[e1] at this;exact iE this
           have f2:a.eval Df=.int kl L:=by
            have:=S.ev Df
            rw[e2] at this;exact iE this
           have b1:H≤(cap:Int):=by omega
           have b2:L≤((H.toNat:Nat):Int):=by omega
           have b3:0≤H:=by omega
           have b6:max H 0=H:=by omega
           have b7:¬cap=L.toNat:=by omega
           refine⟨.slice (some ⟨b',L.toNat * ei.size,none⟩) (H.toNat-L.toNat) (cap-L.toNat), ?_, ?_⟩
           ·simp[Instr.sliceAt,Instr.slice,Instr.sliceBounds,Instr.sliceBound,asIntOf,aX hT,run_sizeOf w Ay,f1,f2,c1,b3,b1,b6,b2,b7,lA,show L≤H by omega]
           ·rw[show (H-L).toNat=H.toNat-L.toNat by omega]
            exact .vw s g _ _ b' _ hg hb (by omega) (fun hz p n0 c0 hc=>by
             have h3:L.toNat=0:=(Nat.mul_eq_zero.1 hz).resolve_right (by omega)
             have h2:ρ s g=.slice p n0 c0:=hc
             rw[kK] at h2;simp only[Value.slice.injEq] at h2;omega)
       ·cases h
      ·cases h
     ·cases h
   | _=>first|(simp at h;done)|(cases h;done)
theorem GG (S:kA F h0 w0 nt ρ st a w) {T:Nat} {x z:AV} {lo:Option Operand} {hi mx:Operand} {u:Value} (h:vE P st T x lo hi mx=some z) (hu:cS (ctx h0 w0 ρ st w) x u) :
 ∃r,(Instr.sliceAt T u (lo.map a.eval) (some (a.eval hi)) (some (a.eval mx))).run P w=.ok r w∧cS (ctx h0 w0 ρ st w) z r:=by
 unfold vE at h;cases hs:dK P T with
 | none=>simp[hs] at h
 | some t =>
   obtain⟨e,sz,by_⟩:=t
   simp only[hs] at h;obtain⟨ei,ez,hT,Ay,Zz,rfl,Rx,rfl,zJ⟩:=jP hs
   have pQ:∀(o:Operand) (k:IntKind) (i:Int),st.ev o=.v (.int k i)→a.eval o=.int k i:=fun o k i ho=>by
    have:=S.ev o
    rw[ho] at this;exact iE this
   split at h
   ·rename_i kh H km M kl L e1 e2 e3;have f1:=pQ _ _ _ e1
    have f2:=pQ _ _ _ e2
    have pN:∀(p:Option Addr) (n cap:Nat),n≤cap→0≤L→L≤H→H=M→H≤n →
     (Instr.sliceAt T (.slice p n cap) (lo.map a.eval) (some (a.eval hi)) (some (a.eval mx))).run P w=.ok (.slice (if H.toNat=L.toNat then p else p.map (·.add (L.toNat * ei.size))) (H.toNat-L.toNat) (H.toNat-L.toNat)) w:=by
     intro p n cap mJ l0 l1 l2 l3;subst l2;have b1:H≤(cap:Int):=by omega
     have b2:L≤((H.toNat:Nat):Int):=by omega
     have b3:0≤H:=by omega
     have b4:H≤((H.toNat:Nat):Int):=by omega
     have b6:max H 0=H:=by omega
     cases lo with
     | none =>
       simp only[AV.v.injEq,Value.int.injEq] at e3;obtain⟨rfl,rfl⟩:=e3
       simp[Instr.sliceAt,Instr.slice,Instr.sliceBounds,Instr.sliceBound,asIntOf,aX hT,run_sizeOf w Ay,f1,f2,b3,b1,b4,b6]
     | some l =>
       simp only at e3
       have f3:=pQ _ _ _ e3
       simp[Instr.sliceAt,Instr.slice,Instr.sliceBounds,Instr.sliceBound,asIntOf,aX hT,run_sizeOf w Ay,f1,f2,f3,l0,l1,b3,b1,b2,b4,b6]
    split at h
    ·rename_i n cs;split at h
     ·rename_i hc;obtain⟨c1,c2,c3,c4,c5⟩:=hc
      simp only[Option.some.injEq] at h;subst h;have hHL:(H-L).toNat=H.toNat-L.toNat:=by omega
      cases hu with
      | JP n cap p mJ =>
        refine⟨_,pN p n cap mJ c1 c2 c3 c4, ?_⟩
        rw[hHL];simp only[List.drop_nil,List.take_nil];exact .cl0 _ _
      | sl n cs b off cap arr T' fr mJ hb hle hr h1 =>
        refine⟨_,pN _ n cap mJ c1 c2 c3 c4, ?_⟩
        rw[hHL];by_cases hm:H.toNat=L.toNat
        ·have hz:H.toNat-L.toNat=0:=by omega
         rw[if_pos hm,hz];simp only[Nat.zero_mul,List.take_zero];exact .cl0 _ _
        ·rw[if_neg hm];simp only[Option.map_some,lA];have hbound:L.toNat * ei.size+(H.toNat-L.toNat) * ei.size≤cs.length:=by
          rw[c5,← Nat.add_mul];exact Nat.mul_le_mul_right _ (by omega)
         refine .cl _ _ b (off+L.toNat * ei.size) arr T' fr hb (by simp;omega) (fun i x y hx hy=>?_) (fun i y Bx hy=>?_)
         ·rw[List.getElem?_take] at hx;split at hx
          ·rw[List.getElem?_drop] at hx;exact hr _ x y hx (by rw[← Nat.add_assoc];exact hy)
          ·cases hx
         ·simp only[List.length_take,List.length_drop] at Bx
          exact h1 (L.toNat * ei.size+i) y (by omega) (by rw[← Nat.add_assoc];exact hy)
     ·cases h
    ·split at h
     ·rename_i hc;obtain⟨c1,c2,c3⟩:=hc
      simp only[Option.some.injEq] at h;subst h;have:=iE hu
      subst this;refine⟨_,pN none 0 0 (Nat.le_refl _) (by omega) (by omega) (by omega) (by omega), ?_⟩
      subst c2;simp
      exact .v _
     ·cases h
    ·rename_i s g;cases he:st.heap s g with
     | none=>simp[he] at h
     | some en =>
       cases en with
       | row e' sY n es =>
         simp only[he] at h;split at h
         ·rename_i hc;obtain⟨c1,c2,c3,c4⟩:=hc
          simp only[Option.some.injEq] at h;subst h;obtain⟨bA,_,xs,ho,Az⟩:=S.rZ s g _ he
          have hrun3:∀(p:Option Addr) (cap:Nat),n≤cap→∃q,(Instr.sliceAt T (.slice p n cap) (lo.map a.eval) (some (a.eval hi)) (some (a.eval mx))).run P w=.ok (.slice q (H.toNat-L.toNat) (M.toNat-L.toNat)) w:=by
           intro p cap mJ;have b1:M≤(cap:Int):=by omega
           have b2:L≤((H.toNat:Nat):Int):=by omega
           have b3:0≤H:=by omega
           have b4:H≤((M.toNat:Nat):Int):=by omega
           have b5:0≤M:=by omega
           have b6:max M 0=M:=by omega
           have b7:max H 0=H:=by omega
           cases lo with
           | none =>
             simp only[AV.v.injEq,Value.int.injEq] at e3;obtain⟨rfl,rfl⟩:=e3
             exact⟨_,by simp[Instr.sliceAt,Instr.slice,Instr.sliceBounds,Instr.sliceBound,asIntOf,aX hT,run_sizeOf w Ay,f1,f2,b3,b1,b4,b5,b6,b7,c3]<;>rfl⟩
           | some l =>
             simp only at e3
             have f3:=pQ _ _ _ e3
             exact⟨_,by simp[Instr.sliceAt,Instr.slice,Instr.sliceBounds,Instr.sliceBound,asIntOf,aX hT,run_sizeOf w Ay,f1,f2,f3,c1,c2,c3,b3,b1,b2,b4,b5,b6,b7]<;>rfl⟩
          cases hu with
          | own _ _ hg h1 =>
            show ∃r,(Instr.sliceAt T (ρ s g) _ _ _).run P w=.ok r w∧_
            have QT:∃p cap,ρ s g=.slice p n cap∧n≤cap:=by
             rcases ho.2 with ⟨p,kK,hn⟩|⟨b',cap,cur,kK,_,hh,Td,_⟩
             ·exact⟨p,0,by rw[kK,hn],by omega⟩
             ·exact⟨_,cap,kK,Td⟩
            obtain⟨p,cap,kK,Td⟩:=QT
            rw[kK];obtain⟨q,hq⟩:=hrun3 p cap Td
            exact⟨_,hq,by rw[show (H-L).toNat=H.toNat-L.toNat by omega];exact .JP _ _ _ (by omega)⟩
         ·cases h
       | _=>simp[he] at h
    ·cases h
   ·cases h
theorem P4 {C:Ctx} {s g off:Nat} {v:Value} (h:cS C (.ptr s g off) v):∃b off,v=.pointer (some ⟨b,off,none⟩):=by
 cases h;exact⟨_,_,rfl⟩
theorem aBM {C:Ctx} {cs:List AV} {o:Nat} {v:Value} (h:cS C (.ip cs o) v):∃b off,v=.pointer (some ⟨b,off,none⟩):=by
 cases h;exact⟨_,_,rfl⟩
theorem P5 {C:Ctx} {vs:List AV} {v:Value} (h:cS C (.eB vs) v):∃ar,v=.tuple ar∧vs.length=ar.size∧∀(i:Nat) (x:AV) (y:Value),vs[i]? = some x→ar[i]? = some y→cS C x y:=by
 cases h with
 | eB cs a hl hr=>exact⟨a,rfl,hl,hr⟩
theorem MN (S:kA F h0 w0 nt ρ st a w) {o:Oper} {x:AV} (h:iP P st o.op=some x) :
 ∃v,(execOp a.eval o).run P w=.ok (.value v) w∧cS (ctx h0 w0 ρ st w) x v:=by
 cases pQ:o.op with
 | move y=>rw[pQ] at h;simp[iP] at h;subst h;exact⟨_,by simp[execOp,pQ],S.ev y⟩
 | assign y=>rw[pQ] at h;simp[iP] at h;subst h;exact⟨_,by simp[execOp,pQ],S.ev y⟩
 | pick c y z =>
   rw[pQ] at h;simp only[iP] at h;split at h
   ·rename_i t hc;simp only[Option.some.injEq] at h;subst h;have:=S.ev c
    rw[hc] at this;have:=iE this
    refine⟨if t=true then a.eval y else a.eval z,by simp[execOp,pQ,this,asBool], ?_⟩
    cases t
    ·exact S.ev z
    ·exact S.ev y
   ·cases h
 | binOp op T y z yT =>
   rw[pQ] at h;simp only[iP] at h;obtain⟨r,hr,fQ⟩:=QZ (w:=w) y z h (S.ev y) (S.ev z)
   exact⟨r,by simp only[execOp,pQ];rw[dF hr];rfl,fQ⟩
 | unOp op T y =>
   rw[pQ] at h;simp only[iP] at h;obtain⟨r,hr,fQ⟩:=YP (P:=P) (w:=w) h (S.ev y)
   exact⟨r,by simp only[execOp,pQ];rw[dF hr];rfl,fQ⟩
 | convert src dst y =>
   rw[pQ] at h;simp only[iP] at h;split at h
   ·rename_i k' n k ks hy hk hks
    simp only[Option.some.injEq] at h;subst h;have:=S.ev y
    rw[hy] at this;have hv:=iE this
    have hu:∀ {t:Nat} {k:IntKind},intKind P t=some k→P.underlying t=some (.int k):=fun {t k} hk=>by
     unfold intKind at hk;split at hk
     ·rename_i hu;cases hk;exact hu
     ·cases hk
    refine⟨_, ?_,.v _⟩
    simp[execOp,pQ,hv,convert,aX (hu hk),aX (hu hks),Conv.intToInt]
   ·cases h
 | nilCheck y =>
   rw[pQ] at h;simp only[iP] at h;split at h
   ·rename_i s g off hy;simp only[Option.some.injEq] at h;subst h;have hr:=S.ev y
    rw[hy] at hr;obtain⟨b,off',hv⟩:=P4 hr
    exact⟨a.eval y,by simp[execOp,pQ,hv],hr⟩
   ·rename_i cs o hy;simp only[Option.some.injEq] at h;subst h;have hr:=S.ev y
    rw[hy] at hr;obtain⟨b,off',hv⟩:=aBM hr
    exact⟨a.eval y,by simp[execOp,pQ,hv],hr⟩
   ·cases h
 | fieldAddr T y f =>
   rw[pQ] at h;simp only[iP] at h;split at h
   ·rename_i k hf;obtain⟨r,hr,fQ⟩:=Sw (w:=w) hf h (S.ev y)
    exact⟨r,by simp only[execOp,pQ];rw[dF hr];rfl,fQ⟩
   ·cases h
 | field T y f =>
   rw[pQ] at h;simp only[iP] at h;unfold Kc at h;split at h
   ·rename_i cs hy;have hr:=S.ev y
    rw[hy] at hr;obtain⟨u,hu⟩:∃u,a.eval y=u:=⟨_,rfl⟩
    rw[hu] at hr;cases hr with
    | agg _ ar hl fQ h1 =>
      have key:∀off b k,fieldInfo P T f=some (off,b,k)→∃fs fd i d,P.underlying T=some (.struct fs)∧fs[f]? = some fd∧fd.offset=off∧P.info? fd.type=some i∧P.underlying fd.type=some d∧cZ P fd.type=b∧i.size=k∧(b=true∨k=1):=fun off b k hf=>by
       unfold fieldInfo at hf;split at hf
       ·rename_i fs hT;split at hf
        ·rename_i fd hfd;split at hf
         ·rename_i b' k' hld
          split at hf
          ·rename_i hc;simp only[Option.some.injEq,Prod.mk.injEq] at hf;obtain⟨rfl,rfl,rfl⟩:=hf
           obtain⟨i,d,hi,hd,kD,hk⟩:=zV hld
           exact⟨fs,fd,i,d,hT,hfd,rfl,hi,hd,kD,hk,hc⟩
          ·cases hf
         ·cases hf
        ·cases hf
       ·cases hf
      split at h
      ·rename_i off k hf;obtain⟨fs,fd,i,d,hT,hfd,rfl,hi,hd,kD,rfl,_⟩:=key _ _ _ hf
       split at h
       ·rename_i hle;simp only[Option.some.injEq] at h;subst h;have hp:=Ga w hd hi ar.toList fd.offset (by rw[kD];simp) (by simp;omega)
        rw[kD] at hp;simp only[mk,if_true,Array.toArray_toList] at hp;refine⟨_,by
         simp only[execOp,pQ,hu];rw[dF (show (Instr.field T (Value.agg ar) f).run P w=.ok _ w by
          simp only[Instr.field,Sem.run_bind,aX hT,Result.andThen_ok,hfd,asAgg,Sem.run_pure];exact hp)]
         rfl,.agg _ _ (by simp[hl]) (fun j x z hx hz=>?_) fun j z hz=>?_⟩
        ·rw[List.getElem?_take] at hx;split at hx
         ·rename_i hj;rw[List.getElem?_drop] at hx;refine fQ _ x z hx ?_
          simpa [hj,List.getElem?_take,List.getElem?_drop] using hz
         ·cases hx
        ·have hz':ar[fd.offset+j]? = some z:=by
          simp only[List.getElem?_toArray,List.getElem?_take,List.getElem?_drop] at hz;split at hz
          ·simpa using hz
          ·cases hz
         exact h1 _ z hz'
       ·cases h
      ·rename_i off k hf;obtain⟨fs,fd,i,d,hT,hfd,rfl,hi,hd,kD,rfl,hk⟩:=key _ _ _ hf
       have hk1:i.size=1:=by simpa using hk
       have bA:fd.offset<cs.length:=(List.getElem?_eq_some_iff.1 h).1
       have hp:=Ga w hd hi ar.toList fd.offset (fun _=>hk1) (by simp;omega)
       rw[kD] at hp;simp only[mk,Bool.false_eq_true,if_false,Array.toArray_toList] at hp;refine⟨_,by
        simp only[execOp,pQ,hu];rw[dF (show (Instr.field T (Value.agg ar) f).run P w=.ok _ w by
         simp only[Instr.field,Sem.run_bind,aX hT,Result.andThen_ok,hfd,asAgg,Sem.run_pure];exact hp)]
        rfl, ?_⟩
       refine fQ fd.offset x _ h ?_
       have:fd.offset<ar.size:=by omega
       rw[hk1,List.take_one];simp[List.head?_drop,this]
      ·cases h
   ·cases h
 | indexAddr T y i =>
   rw[pQ] at h;simp only[iP] at h;obtain⟨r,hr,fQ⟩:=Sx S h (S.ev y) (S.ev i)
   exact⟨r,by simp only[execOp,pQ];rw[dF hr];rfl,fQ⟩
 | load T y =>
   rw[pQ] at h;simp only[iP] at h;cases hra:pX st (st.ev y) with
   | none=>simp[hra,cH] at h
   | some cs =>
     simp only[hra,cH] at h;obtain⟨r,hr,fQ⟩:=Vb S hra h (S.ev y)
     exact⟨r,by simp only[execOp,pQ];rw[dF hr];rfl,fQ⟩
 | extract t i =>
   rw[pQ] at h;simp only[iP] at h;split at h
   ·rename_i vs ht;have hr:=S.ev t
    rw[ht] at hr;obtain⟨ar,hv,hl,fQ⟩:=P5 hr
    have hi:i<vs.length:=(List.getElem?_eq_some_iff.1 h).1
    have Bx:i<ar.size:=by omega
    refine⟨ar[i], ?_,fQ i x ar[i] h (by simp[Bx])⟩
    simp[execOp,pQ,hv,Instr.extract,Bx]
   ·cases h
 | build T parts =>
   rw[pQ] at h;simp only[iP] at h;obtain⟨r,hr,fQ⟩:=JS S h
   exact⟨r,by simp only[execOp,pQ];rw[dF hr];rfl,fQ⟩
 | slice T y lo hi mx =>
   rw[pQ] at h;cases mx with
   | some m =>
     cases hi with
     | none=>simp[iP] at h
     | some hh =>
       simp only[iP] at h;obtain⟨r,hr,fQ⟩:=GG S h (S.ev y)
       exact⟨r,by simp only[execOp,pQ,Option.map_some];rw[dF hr];rfl,fQ⟩
   | none =>
     simp only[iP] at h;obtain⟨r,hr,fQ⟩:=MM S h (S.ev y)
     exact⟨r,by simp only[execOp,pQ,Option.map_none];rw[dF hr];rfl,fQ⟩
 | lookup T y i ok =>
   rw[pQ] at h;simp only[iP] at h;obtain⟨r,hr,fQ⟩:=TH S h (S.ev y) (S.ev i)
   exact⟨r,by simp only[execOp,pQ];rw[dF hr];rfl,fQ⟩
 | makeFunc fn first captured =>
   rw[pQ] at h;cases fn with
   | func f =>
     simp only[iP] at h;split at h
     ·rename_i hf;subst hf;simp only[Option.some.injEq] at h;subst h;have fQ:kX (ctx h0 w0 ρ st w) (captured.toList.map st.ev) (captured.toList.map a.eval):=kX.map _ _ _ fun p _=>S.ev p
      refine⟨.func (.func f) #[] (captured.map a.eval), ?_,.Bp f _ _ (by simp) fun i x y hx hy=>fQ.rel i x y hx (by simpa using hy)⟩
      simp[execOp,pQ,Instr.makeFunc]
     ·cases h
   | _=>simp[iP] at h
 | _=>rw[pQ] at h;simp[iP] at h
end
end Go.Ab
end
section
namespace Go.Ab
open Classical
theorem cS.flat {C D:Ctx} {x:AV} {v:Value} (hf:Flat x) (hr:cS C x v) (hh:∀b o,C.h b o→D.h b o):cS D x v:=by
 induction hr with
 | v x=>exact .v x
 | agg cs a hl _ h1 ih=>cases hf with|agg _ h=>exact .agg cs a hl (fun i x y hx hy=>ih i x y hx hy (h x (List.mem_of_getElem? hx))) h1
 | JP n cap p mJ=>exact .JP n cap p mJ
 | sl n cs b off cap arr T fr mJ hb hle _ h1 ih=>cases hf with|sl _ _ h=>exact .sl n cs b off cap arr T fr mJ (hh _ _ hb) hle (fun i x y hx hy=>ih i x y hx hy (h x (List.mem_of_getElem? hx))) h1
 | cl0 n p=>exact .cl0 n p
 | cl n cs b off arr T fr hb hle _ h1 ih=>cases hf with|cl _ _ h=>exact .cl n cs b off arr T fr (hh _ _ hb) hle (fun i x y hx hy=>ih i x y hx hy (h x (List.mem_of_getElem? hx))) h1
 | ip cs o b off arr T fr hb hle _ h1 ih=>cases hf with|ip _ _ h=>exact .ip cs o b off arr T fr (hh _ _ hb) hle (fun i x y hx hy=>ih i x y hx hy (h x (List.mem_of_getElem? hx))) h1
 | ptr=>cases hf
 | own=>cases hf
 | vw=>cases hf
 | mp=>cases hf
 | Bp f cs a hl _ ih=>cases hf with|Bp _ _ h=>exact .Bp f cs a hl (fun i x y hx hy=>ih i x y hx hy (h x (List.mem_of_getElem? hx)))
 | eB cs a hl _ ih=>cases hf with|eB _ h=>exact .eB cs a hl (fun i x y hx hy=>ih i x y hx hy (h x (List.mem_of_getElem? hx)))
theorem cS.Nq {C D:Ctx} {x:AV} {v:Value} (hf:fF x) (hr:cS C x v):cS D x v:=by
 induction hr with
 | v x=>exact .v x
 | agg cs a hl _ h1 ih=>cases hf with|agg _ h=>exact .agg cs a hl (fun i x y hx hy=>ih i x y hx hy (h x (List.mem_of_getElem? hx))) h1
 | eB cs a hl _ ih=>cases hf with|eB _ h=>exact .eB cs a hl (fun i x y hx hy=>ih i x y hx hy (h x (List.mem_of_getElem? hx)))
 | _=>cases hf
def bare (h:Nat→Obj→Prop):Ctx:=⟨h,fun _ _=>undef,fun _=>0⟩
inductive Qm:AV→Prop
 | v (x:Value):Qm (.v x)
 | agg (cs:List AV) (h:∀x∈cs,Qm x):Qm (.agg cs)
 | eB (cs:List AV) (h:∀x∈cs,Qm x):Qm (.eB cs)
 | own (s g:Nat):Qm (.own s g)
theorem fF.aBN {x:AV} (h:fF x):Qm x:=by
 induction h with
 | v x=>exact .v x
 | agg cs _ ih=>exact .agg cs ih
 | eB cs _ ih=>exact .eB cs ih
theorem cS.aBN {C D:Ctx} {x:AV} {v:Value} (hf:Qm x) (hr:cS C x v) (hc:∀s,C.aO s≤D.aO s) (kK:∀s g,g<C.aO s→D.ρ s g=C.ρ s g):cS D x v:=by
 induction hr with
 | v x=>exact .v x
 | agg cs a hl _ h1 ih=>cases hf with|agg _ h=>exact .agg cs a hl (fun i x y hx hy=>ih i x y hx hy (h x (List.mem_of_getElem? hx))) h1
 | eB cs a hl _ ih=>cases hf with|eB _ h=>exact .eB cs a hl (fun i x y hx hy=>ih i x y hx hy (h x (List.mem_of_getElem? hx)))
 | own s g hg ho=>rw[← kK s g hg];exact .own s g (Nat.lt_of_lt_of_le hg (hc s)) (by rw[kK s g hg];exact ho)
 | _=>cases hf
def newHs (h0:Nat→Obj→Prop) (w w':World) (vs:List Value):Nat→Obj→Prop :=
 fun b o=>w'.heap[b]? = some o∧(b<w.heap.size→h0 b o)∧∀x∈vs,dB x≠some b
def MO (h0:Nat→Obj→Prop) (w w':World) (r:AV) (v:Value):Prop :=
 ∃vs:List Value,(∀x∈vs,x.oneCell'=true)∧(∀(i j:Nat) (x y:Value) (b:Nat),vs[i]? = some x→vs[j]? = some y→dB x=some b→dB y=some b→i=j) ∧
  (∀x∈vs,∀b,dB x=some b→w.heap.size≤b)∧(∀d c,(WC d c r).2.length=vs.length) ∧
  ∀(D:Ctx) (d c:Nat),(∀b o,newHs h0 w w' vs b o→D.h b o)→(∀(i:Nat) (x:Value),vs[i]? = some x→c+i<D.aO d∧D.ρ d (c+i)=x) →
   cS D (WC d c r).1 v∧∀(i:Nat) (e:mI) (x:Value),(WC d c r).2[i]? = some e→vs[i]? = some x→mS D w' w.heap.size x e
def GC (P:Program) (g:Nat) (xs:List AV) (r:AV):Prop :=
 ∀(w:World) (h0:Nat→Obj→Prop) (vs:Array Value),(∀b o,h0 b o→w.heap[b]? = some o)→kX (bare h0) xs vs.toList →
  Calls P g vs w fun e w'=>∃v,e=.returned v∧MO h0 w w' r v∧w.grownBy w' none
def TJ (P:Program) (g e sz n:Nat) (cs xs:List AV) (r:AV):Prop :=
 ∀(w:World) (h0:Nat→Obj→Prop) (v0:Value) (ys:List Value) (vs:Array Value),(∀b o,h0 b o→w.heap[b]? = some o)→(∀b o,h0 b o→dB v0≠some b)→nD w 0 e sz v0 n ys→fR (bare h0) cs ys →
  kX (bare h0) xs vs.toList→Calls P g (#[v0]++vs) w fun en w'=>∃v,en=.returned v∧w.grownBy w' (dB v0) ∧
   match r with
   | .uniq e' sY n' Dd=>∃zs,nD w' 0 e' sY v n' zs∧fR (bare h0) Dd zs∧∀b,dB v=some b→dB v0=some b∨w.heap.size≤b
   | .eB [.uniq e' sY n' Dd]=>v=.tuple #[]∧∃zs,nD w' 0 e' sY v0 n' zs∧fR (bare h0) Dd zs
   | _=>False
def Gx (P:Program) (g:Nat) (xs:List AV) (r:AV):Prop :=
 match xs with
 | .uniq e sz n cs :: rest=>TJ P g e sz n cs rest r
 | xs=>GC P g xs r
def Gz (P : Program) (g : Nat) : Prop := ∃ fn, P.funcs[g]? = some fn ∧ (fn.name == "runtime.NumGoroutine") = false ∧ fn.body.isSome = true
def qP (P:Program) (call:Nat→List AV→Option AV):Prop:=∀g xs r,call g xs=some r→Gz P g∧Gx P g xs r
theorem GH {f:Nat→AV→AV × List mI}:∀(xs:List AV) (c:Nat),(∀x∈xs,∀c,f c x=(x,[]))→pJ f c xs=(xs,[])
 | [],c,_=>rfl
 | x :: xs,c,h=>by
   simp only[pJ,h x (by simp),List.length_nil,Nat.add_zero,GH xs c fun y hy=>h y (by simp[hy]),List.nil_append]
theorem Ir {x:AV} (h:Flat x) (d c:Nat):wY d c x=(x,[]):=by cases h<;>rfl
theorem DU {x:AV} (h:Flat x) (d c:Nat):Su d c x=(x,[]):=by
 cases h with
 | agg cs h=>simp only[Su,GH (f:=wY d) cs c fun x hx c=>Ir (h x hx) d c]
 | _=>rfl
theorem Ha {x:AV} (h:Flat x) (d c:Nat):WC d c x=(x,[]):=by
 cases h with
 | eB cs h=>simp only[WC,GH (f:=Su d) cs c fun x hx c=>DU (h x hx) d c]
 | agg cs h=>exact DU (.agg cs h) d c
 | _=>rfl
theorem DV {h0:Nat→Obj→Prop} {w w':World} {r:AV} {v:Value} (hf:Flat r) (h:cS (bare (newHs h0 w w' [])) r v):MO h0 w w' r v :=
 ⟨[],by simp,by simp,by simp,fun d c=>by rw[Ha hf];rfl,fun D d c hD _=>by
  rw[Ha hf];exact⟨h.flat hf hD,by simp⟩⟩
theorem mS.base {C:Ctx} {w:World} {b b':Nat} {v:Value} {e:mI} (h:mS C w b v e) (hb:b'≤b):mS C w b' v e:=by
 cases e with
 | cells cs=>obtain⟨k,arr,T,h1,h2,h3⟩:=h;exact⟨k,arr,T,h1,Nat.le_trans hb h2,h3⟩
 | row e sz n cs=>obtain⟨xs,ho,hc⟩:=h;exact⟨xs,xY ho hb,hc⟩
 | map es=>obtain⟨k,arr,T,h1,h2,h3⟩:=h;exact⟨k,arr,T,h1,Nat.le_trans hb h2,h3⟩
theorem Nr {w:World} {b b' e sz n:Nat} {v:Value} {xs:List Value} (h:nD w b e sz v n xs) (hb:∀k,dB v=some k→b'≤k):nD w b' e sz v n xs:=by
 refine⟨h.1, ?_⟩
 rcases h.2 with h|⟨g,cap,cur,rfl,h1,h2,h3,h4,h5,h6,hc⟩
 ·exact .inl h
 ·exact .inr ⟨g,cap,cur,rfl,hb g (jT hc),h2,h3,h4,h5,h6,hc⟩
theorem jA {α:Type}:∀(l:List (Option α)) (r:List α),cF l=some r→l=r.map some
 | [],r,h=>by simp[cF] at h;subst h;rfl
 | none :: l,r,h=>by simp[cF] at h
 | some x :: l,r,h=>by
   simp only[cF,Option.map_eq_some_iff] at h;obtain⟨r',h',rfl⟩:=h
   rw[jA l r' h'];rfl
section
variable {P:Program} {h0:Nat→Obj→Prop} {w0:World} {F:Fz} {nt:Nat} {ρ:Nat→Nat→Value} {st:St} {a:Act} {w:World}
def Cn (h0:Nat→Obj→Prop) (w0 w:World):Nat→Obj→Prop:=fun b o=>w.heap[b]? = some o∧(b<w0.heap.size→h0 b o)
theorem Ee {D:Ctx} {base e sz n:Nat} {v:Value} {xs:List Value} {cs:List AV} (hD:∀b o,dB v=some b→base≤b→w.heap[b]? = some o→D.h b o) (h:nD w base e sz v n xs) (hc:fR D cs xs):cS D (.sl n cs) v:=by
 rcases h.2 with ⟨p,rfl,hn⟩|⟨g,cap,cur,rfl,hb,hg,Td,_,GJ,ht,pY⟩
 ·subst hn;have:xs.length=0:=by rw[h.1];simp
  have:=hc.len
  have hnil:=List.length_eq_zero_iff.1 (show cs.length=0 by omega)
  subst hnil;exact .JP 0 0 p (by omega)
 ·have hl:=hc.len
  have hx:=h.1
  have hle:n * sz≤cap * sz:=Nat.mul_le_mul_right _ Td
  refine .sl n cs g 0 cap cur e (0,0) Td (hD g _ (jT pY) hb hg) (by omega) (fun i x y Il hy=>?_) (fun i y hi hy=>?_)
  ·have hi:i<cs.length:=(List.getElem?_eq_some_iff.1 Il).1
   refine hc.rel i x y Il ?_
   rw[← ht,List.getElem?_take,if_pos (by omega)]
   simpa using hy
  ·refine hc.one i y ?_
   rw[← ht,List.getElem?_take,if_pos (by omega)]
   simpa using hy
theorem fR.flat {C D:Ctx} {cs:List AV} {ys:List Value} (h:fR C cs ys) (hf:∀c∈cs,Flat c) (hh:∀b o,C.h b o→D.h b o):fR D cs ys :=
 ⟨h.len,fun i x y hx hy=>(h.rel i x y hx hy).flat (hf x (List.mem_of_getElem? hx)) hh,h.one⟩
theorem Co (b:Nat) (o:Obj) (h:(ctx h0 w0 ρ st w).h b o):(bare (Cn h0 w0 w)).h b o:=⟨h.1,h.2.1⟩
theorem aEe (S:kA F h0 w0 nt ρ st a w) {s g o n e sz N:Nat} {cs:List AV} {v:Value} (he:st.heap s g=some (.row e sz N cs)) (hf:∀c∈cs,Flat c) (hle:o+n * sz≤cs.length) (hu:cS (ctx h0 w0 ρ st w) (.vw s g o n) v):cS (bare (Cn h0 w0 w)) (.sl n ((cs.drop o).take (n * sz))) v:=by
 obtain⟨_,ho1,xs,ho,hc⟩:=S.rZ s g _ he
 cases hu with
 | vw _ _ _ _ b cap hg hb mJ _ =>
   change dB (ρ s g)=some b at hb
   rcases ho.2 with ⟨p,kK,hn⟩|⟨b',Zy,cur,kK,wE,hh,_,_,_,ht,pY⟩
   ·exfalso
    rw[kK] at hb;cases p<;>cases hb
   ·rw[kK,jT pY] at hb;simp only[Option.some.injEq] at hb;subst hb;have hc':=hc.flat (D:=bare (Cn h0 w0 w)) hf Co
    have hl:=hc.len
    have hxl:xs.length≤cur.size:=by rw[← ht];simp;omega
    have r9:∀i,i<n * sz→cur[o+i]? = xs[o+i]?:=fun i hi=>by
     rw[← ht,List.getElem?_take,if_pos (by rw[← ho.1];omega)]
     simp
    refine .sl _ _ b' o cap cur e (0,0) mJ ⟨hh,fun bA=>by omega⟩ (by simp;omega) (fun i x y hx hy=>?_) (fun i y hi hy=>?_)
    ·rw[List.getElem?_take] at hx;split at hx
     ·rename_i hi;rw[List.getElem?_drop] at hx;rw[r9 i hi] at hy;exact hc'.rel _ x y hx hy
     ·cases hx
    ·simp only[List.length_take,List.length_drop] at hi;rw[r9 i (by omega)] at hy
     exact hc.one _ y hy
theorem MP (S:kA F h0 w0 nt ρ st a w) {x y:AV} {v:Value} (hu:cS (ctx h0 w0 ρ st w) x v) (h:wQ st x=some y):cS (bare (Cn h0 w0 w)) y v:=by
 unfold wQ at h;split at h
 ·rename_i hf;simp only[Option.some.injEq] at h;subst h;exact hu.flat hf Co
 ·split at h
  ·split at h
   ·rename_i e sz n cs he;split at h
    ·rename_i hf;simp only[Option.some.injEq] at h;subst h;obtain⟨_,ho1,xs,ho,hc⟩:=S.rZ _ _ _ he
     cases hu with
     | own s g hg h1=>exact Ee (fun b o _ hb MQ=>⟨MQ,fun bA=>by omega⟩) ho (hc.flat hf Co)
    ·cases h
   ·cases h
  ·rename_i s g o n _;split at h
   ·rename_i e sz N cs he;split at h
    ·rename_i hf;obtain⟨hf,hle⟩:=hf
     simp only[Option.some.injEq] at h;subst h;exact aEe S he hf hle hu
    ·cases h
   ·cases h
  ·cases h
theorem TK {x y:AV} (h:wQ st x=some y):Flat y:=by
 unfold wQ at h;split at h
 ·rename_i hf;simp only[Option.some.injEq] at h;subst h;exact hf
 ·split at h
  ·split at h
   ·split at h
    ·rename_i hf;simp only[Option.some.injEq] at h;subst h;exact .sl _ _ hf
    ·cases h
   ·cases h
  ·split at h
   ·split at h
    ·rename_i hf;simp only[Option.some.injEq] at h;subst h;exact .sl _ _ fun c hc=>hf.1 c (List.mem_of_mem_drop (List.mem_of_mem_take hc))
    ·cases h
   ·cases h
  ·cases h
theorem vX (S:kA F h0 w0 nt ρ st a w) {x y:AV} {v:Value} (hu:cS (ctx h0 w0 ρ st w) x v) (h:cI st x=some y):cS (bare (Cn h0 w0 w)) y v∧(v.oneCell'=true∨y=x):=by
 unfold cI at h;split at h
 ·rename_i hf;simp only[Option.some.injEq] at h;subst h;exact⟨hu.flat hf Co,.inr rfl⟩
 ·split at h
  ·rename_i s g _;split at h
   ·rename_i e sz n cs he;split at h
    ·rename_i hf;simp only[Option.some.injEq] at h;subst h;obtain⟨_,ho1,xs,ho,hc⟩:=S.rZ s g _ he
     cases hu with
     | own s g hg h1=>exact⟨Ee (fun b o _ hb MQ=>⟨MQ,fun bA=>by omega⟩) ho (hc.flat hf Co),.inl h1⟩
    ·cases h
   ·cases h
  ·rename_i s g o n _;split at h
   ·rename_i e sz N cs he;split at h
    ·rename_i hf;obtain⟨hf,hle⟩:=hf
     simp only[Option.some.injEq] at h;subst h;cases hu with
     | vw _ _ _ _ b cap hg hb mJ xX=>exact⟨aEe S he hf hle (.vw s g o n b cap hg hb mJ xX),.inl rfl⟩
    ·cases h
   ·cases h
  ·rename_i s g off _;split at h
   ·rename_i cs he;simp only[Option.map_eq_some_iff] at h;obtain⟨ds,Qn,rfl⟩:=h
    have hm:=jA _ _ Qn
    have hlen:ds.length=cs.length:=by have:=congrArg List.length hm;simpa using this.symm
    obtain⟨_,_,b',arr,T,kK,mZ,hh,hc⟩:=S.rZ s g _ he
    cases hu with
    | ptr s g off b hg hb =>
      have wE:b'=b:=by
       have h2:dB (ρ s g)=some b:=hb
       rw[kK] at h2;simpa [dB] using h2
      subst wE;have hl:=hc.len
      simp only[Array.length_toList] at hl;have:=cS.ip (C:=bare (Cn h0 w0 w)) ds off b' 0 arr T (0,0) ⟨hh,fun bA=>by omega⟩ (by omega) (fun i x y hx hy=>by
       have hi:i<cs.length:=by have:=(List.getElem?_eq_some_iff.1 hx).1;omega
       have Il:wQ st cs[i]=some x:=by
        have:=congrArg (·[i]?) hm
        simp only[List.getElem?_map,hx,List.getElem?_eq_getElem hi,Option.map_some,Option.some.injEq] at this;exact this
       exact MP S (hc.rel i cs[i] y (by simp[hi]) (by simpa using hy)) Il) (fun i y hi hy=>hc.one i y (by simpa using hy))
      rw[Nat.zero_add] at this;exact⟨this,.inl rfl⟩
   ·cases h
  ·cases h
theorem Ld (S:kA F h0 w0 nt ρ st a w) {x y:AV} {v:Value} (hu:cS (ctx h0 w0 ρ st w) x v) (h:eT st x=some y):cS (bare (Cn h0 w0 w)) y v:=by
 unfold eT at h;split at h
 ·rename_i hf;simp only[Option.some.injEq] at h;subst h;exact hu.flat hf Co
 ·split at h
  ·rename_i cs _;simp only[Option.map_eq_some_iff] at h;obtain⟨ds,Qn,rfl⟩:=h
   have hm:=jA _ _ Qn
   cases hu with
   | agg cs ar hl hr h1 =>
     have hlen:ds.length=cs.length:=by have:=congrArg List.length hm;simpa using this.symm
     refine .agg ds ar (by omega) (fun i x y hx hy=>?_) h1
     have hi:i<cs.length:=by have:=(List.getElem?_eq_some_iff.1 hx).1;omega
     have Il:cI st cs[i]=some x:=by
      have:=congrArg (·[i]?) hm
      simp only[List.getElem?_map,hx,List.getElem?_eq_getElem hi,Option.map_some,Option.some.injEq] at this;exact this
     exact (vX S (hr i cs[i] y (by simp[hi]) hy) Il).1
  ·rename_i f oI _;simp only[Option.map_eq_some_iff] at h;obtain⟨ds,Qn,rfl⟩:=h
   have hm:=jA _ _ Qn
   cases hu with
   | Bp f cs ar hl hr =>
     have hlen:ds.length=oI.length:=by have:=congrArg List.length hm;simpa using this.symm
     refine .Bp f ds ar (by omega) (fun i x y hx hy=>?_)
     have hi:i<oI.length:=by have:=(List.getElem?_eq_some_iff.1 hx).1;omega
     have Il:cI st oI[i]=some x:=by
      have:=congrArg (·[i]?) hm
      simp only[List.getElem?_map,hx,List.getElem?_eq_getElem hi,Option.map_some,Option.some.injEq] at this;exact this
     exact (vX S (hr i oI[i] y (by simp[hi]) hy) Il).1
  ·exact (vX S hu h).1
theorem oW {α β:Type} {p:β→Prop} {f:α→Option β} (hp:∀a b,f a=some b→p b):∀(l:List α) (r:List β),cF (l.map f)=some r→∀b∈r,p b
 | [],r,h=>by simp[cF] at h;subst h;simp
 | a :: l,r,h=>by
   simp only[List.map_cons] at h;cases ha:f a with
   | none=>simp[ha,cF] at h
   | some b =>
     simp only[ha,cF,Option.map_eq_some_iff] at h;obtain⟨r',h',rfl⟩:=h
     intro c hc;rcases List.mem_cons.1 hc with rfl|hc
     ·exact hp _ _ ha
     ·exact oW hp l r' h' c hc
theorem yS {x y:AV} (h:cI st x=some y):Flat y:=by
 unfold cI at h;split at h
 ·rename_i hf;simp only[Option.some.injEq] at h;subst h;exact hf
 ·split at h
  ·split at h
   ·split at h
    ·rename_i hf;simp only[Option.some.injEq] at h;subst h;exact .sl _ _ hf
    ·cases h
   ·cases h
  ·split at h
   ·split at h
    ·rename_i hf;simp only[Option.some.injEq] at h;subst h;exact .sl _ _ fun c hc=>hf.1 c (List.mem_of_mem_drop (List.mem_of_mem_take hc))
    ·cases h
   ·cases h
  ·split at h
   ·simp only[Option.map_eq_some_iff] at h;obtain⟨ds,Qn,rfl⟩:=h
    exact .ip _ _ (oW (fun a b h=>TK h) _ _ Qn)
   ·cases h
  ·cases h
theorem Is {x y:AV} (h:eT st x=some y):Flat y:=by
 unfold eT at h;split at h
 ·rename_i hf;simp only[Option.some.injEq] at h;subst h;exact hf
 ·split at h
  ·simp only[Option.map_eq_some_iff] at h;obtain⟨ds,Qn,rfl⟩:=h
   exact .agg _ (oW (fun a b h=>yS h) _ _ Qn)
  ·simp only[Option.map_eq_some_iff] at h;obtain⟨ds,Qn,rfl⟩:=h
   exact .Bp _ _ (oW (fun a b h=>yS h) _ _ Qn)
  ·exact yS h
theorem Sh (S:kA F h0 w0 nt ρ st a w) {x y:AV} {v:Value} (hu:cS (ctx h0 w0 ρ st w) x v) (h:Bs st x=some y):cS (bare (Cn h0 w0 w)) y v:=by
 unfold Bs at h;split at h
 ·rename_i s g;split at h
  ·rename_i e sz n cs he;simp only[Option.map_eq_some_iff] at h;obtain⟨ds,Qn,rfl⟩:=h
   have hm:=jA _ _ Qn
   obtain⟨_,ho1,xs,ho,hc⟩:=S.rZ s g _ he
   cases hu with
   | own s g hg h1 =>
     have hlen:ds.length=cs.length:=by have:=congrArg List.length hm;simpa using this.symm
     refine Ee (fun b o _ hb MQ=>⟨MQ,fun bA=>by omega⟩) ho ⟨by rw[hlen];exact hc.len,fun i x y hx hy=>?_,hc.one⟩
     have hi:i<cs.length:=by have:=(List.getElem?_eq_some_iff.1 hx).1;omega
     have Il:cI st cs[i]=some x:=by
      have:=congrArg (·[i]?) hm
      simp only[List.getElem?_map,hx,List.getElem?_eq_getElem hi,Option.map_some,Option.some.injEq] at this;exact this
     exact (vX S (hc.rel i cs[i] y (by simp[hi]) hy) Il).1
  ·cases h
 ·exact (vX S hu h).1
theorem MR (S:kA F h0 w0 nt ρ st a w) {x y:AV} {v:Value} (hu:cS (ctx h0 w0 ρ st w) x v) (h:Mb st x=some y):cS (bare (Cn h0 w0 w)) y v:=by
 unfold Mb at h;split at h
 ·rename_i cs;simp only[Option.map_eq_some_iff] at h;obtain⟨ds,Qn,rfl⟩:=h
  have hm:=jA _ _ Qn
  cases hu with
  | agg cs ar hl hr h1 =>
    have hlen:ds.length=cs.length:=by have:=congrArg List.length hm;simpa using this.symm
    refine .agg ds ar (by omega) (fun i x y hx hy=>?_) h1
    have hi:i<cs.length:=by have:=(List.getElem?_eq_some_iff.1 hx).1;omega
    have Il:Bs st cs[i]=some x:=by
     have:=congrArg (·[i]?) hm
     simp only[List.getElem?_map,hx,List.getElem?_eq_getElem hi,Option.map_some,Option.some.injEq] at this;exact this
    exact Sh S (hr i cs[i] y (by simp[hi]) hy) Il
 ·exact Sh S hu h
theorem MS (S:kA F h0 w0 nt ρ st a w) {x y:AV} {v:Value} (hu:cS (ctx h0 w0 ρ st w) x v) (h:Bt st x=some y):cS (bare (Cn h0 w0 w)) y v:=by
 unfold Bt at h;split at h
 ·rename_i z hz;simp only[Option.some.injEq] at h;subst h;exact Ld S hu hz
 ·exact MR S hu h
theorem Xf {x y:AV} (h:Bs st x=some y):Flat y:=by
 unfold Bs at h;split at h
 ·split at h
  ·simp only[Option.map_eq_some_iff] at h;obtain⟨ds,Qn,rfl⟩:=h
   exact .sl _ _ (oW (fun a b h=>yS h) _ _ Qn)
  ·cases h
 ·exact yS h
theorem TL {x y:AV} (h:Bt st x=some y):Flat y:=by
 unfold Bt at h;split at h
 ·rename_i z hz;simp only[Option.some.injEq] at h;subst h;exact Is hz
 ·unfold Mb at h;split at h
  ·simp only[Option.map_eq_some_iff] at h;obtain⟨ds,Qn,rfl⟩:=h
   exact .agg _ (oW (fun a b h=>Xf h) _ _ Qn)
  ·exact Xf h
theorem Cp {x y:AV} (h:eT st x=some y):Bt st x=some y:=by unfold Bt;rw[h]
theorem TM {x:AV} (h:eT st x=none):Bt st x=Mb st x:=by unfold Bt;rw[h]
end
end Go.Ab
end
section
namespace Go.Ab
open Classical
def Hb (es:List mI):Prop:=∀e∈es,∃a b n cs,e=.row a b n cs∧∀c∈cs,fF c
theorem Xg {x:AV} (h:QV x) (d c:Nat):Qm (wY d c x).1∧Hb (wY d c x).2:=by
 cases x
 case uniq e sz n cs=>exact⟨.own _ _,fun e he=>by simp[wY] at he;exact⟨_,_,_,_,he,h⟩⟩
 all_goals exact⟨fF.aBN h,fun e he=>by simp[wY] at he⟩
theorem Lf {f:Nat→AV→AV × List mI}:∀(xs:List AV) (c:Nat),(∀x∈xs,∀c,Qm (f c x).1∧Hb (f c x).2)→(∀y∈(pJ f c xs).1,Qm y)∧Hb (pJ f c xs).2
 | [],c,_=>⟨by simp[pJ],fun e he=>by simp[pJ] at he⟩
 | x :: xs,c,h=>by
   obtain⟨h1,h2⟩:=h x (by simp) c
   obtain⟨h3,h4⟩:=Lf xs (c+(f c x).2.length) fun y hy=>h y (by simp[hy])
   simp only[pJ];refine⟨fun y hy=>?_,fun e he=>?_⟩
   ·rcases List.mem_cons.1 hy with rfl|hy
    ·exact h1
    ·exact h3 y hy
   ·rcases List.mem_append.1 he with he|he
    ·exact h2 e he
    ·exact h4 e he
theorem Xh {x:AV} (h:QW x) (d c:Nat):Qm (Su d c x).1∧Hb (Su d c x).2:=by
 cases x
 case agg cs =>
  obtain⟨h1,h2⟩:=Lf (f:=wY d) cs c fun x hx c=>Xg (h x hx) d c
  exact⟨.agg _ h1,h2⟩
 all_goals
  refine @Xg _ ?_ d c
  exact h
theorem Qo {x:AV} (h:Us x) (d c:Nat):Qm (WC d c x).1∧Hb (WC d c x).2:=by
 cases x
 case eB cs =>
  obtain⟨h1,h2⟩:=Lf (f:=Su d) cs c fun x hx c=>Xh (h x hx) d c
  exact⟨.eB _ h1,h2⟩
 all_goals
  refine @Xh _ ?_ d c
  exact h
theorem fR.Nq {C D:Ctx} {cs:List AV} {ys:List Value} (h:fR C cs ys) (hm:∀c∈cs,fF c):fR D cs ys :=
 ⟨h.len,fun i x y hx hy=>(h.rel i x y hx hy).Nq (hm x (List.mem_of_getElem? hx)),h.one⟩
theorem mS.free {C D:Ctx} {w:World} {b:Nat} {v:Value} {e:mI} (h:mS C w b v e) (hf:∃a s n cs,e=.row a s n cs∧∀c∈cs,fF c):mS D w b v e:=by
 obtain⟨a,s,n,cs,rfl,hm⟩:=hf
 obtain⟨xs,ho,hc⟩:=h
 exact⟨xs,ho,hc.Nq hm⟩
section
variable {P:Program} {h0:Nat→Obj→Prop} {w0:World} {F:Fz} {nt:Nat} {ρ:Nat→Nat→Value} {st:St} {a:Act} {w:World} {K:Act→World→Prop} {Q:Exit→Act→World→Prop}
theorem DW {C D:Ctx} {xs:List AV} {vs:List Value} (h:kX C xs vs) (hf:∀x∈xs,Flat x) (hh:∀b o,C.h b o→D.h b o):kX D xs vs :=
 ⟨h.len,fun i x y hx hy=>(h.rel i x y hx hy).flat (hf x (List.mem_of_getElem? hx)) hh⟩
theorem xG (S:kA F h0 w0 nt ρ st a w) {H:Nat→Obj→Prop} {w':World} {r:AV} {v:Value} {dst:Option Nat} {e:qR} (hr:MO H w w' r v) (hg:w.grownBy w' none)
 (hH:(∀b o,H b o→(ctx h0 w0 ρ st w).h b o)∨Us r) (h:iR r st dst=some e) (hd:∀d,dst=some d→d<nt)
 (hK:∀nC a' w',kA F h0 w0 nt nC (e.apply st) a' w'→K a' w'):K (a.put dst v) w':=by
 obtain⟨vs,v1,v2,v3,v4,v5⟩:=hr
 unfold iR at h;split at h
 ·rename_i hf;simp only[Option.some.injEq] at h;subst h;have hl:=v4 0 0
  rw[Ha hf] at hl;have hvs:vs=[]:=List.length_eq_zero_iff.1 hl.symm
  subst hvs;obtain⟨S',k⟩:=S.grow hg
  refine hK ρ _ _ (S'.put dst hd ?_)
  rcases hH with hH|hH
  ·have:=(v5 (ctx h0 w0 ρ st w') 0 0 (fun b o hb=>by
    by_cases bA:b<w.heap.size
    ·exact k.h _ _ (hH _ _ (hb.2.1 bA))
    ·exact⟨hb.1,fun h=>by have:=S.ext.size;omega,fun s g e he=>jJ S he (by omega)⟩) (by simp)).1
   rw[Ha hf] at this;exact this
  ·have:=(v5 ⟨newHs H w w' [],ρ,st.aO⟩ 0 0 (fun b o hb=>hb) (by simp)).1
   have hn:=(Qo hH 0 0).1
   rw[Ha hf] at this hn;exact this.aBN hn (fun _=>Nat.le_refl _) (fun _ _ _=>rfl)
 ·cases dst with
  | none=>cases h
  | some d =>
    simp only[Option.some.injEq] at h;subst h;obtain⟨S',k,hh,oJ⟩:=S.news hg d (WC d (st.aO d) r).2 vs (v4 _ _) v1 v3 v2 (fun C kC hC kK i e x hi hx=>by
     rcases hH with hH|hH
     ·exact ((v5 C d (st.aO d) (fun b o hb=>by
       by_cases bA:b<w.heap.size
       ·exact kC.h _ _ (hH _ _ (hb.2.1 bA))
       ·exact hC b o (by omega) hb.1 hb.2.2) kK).2 i e x hi hx).base S.ext.size
     ·have:=((v5 ⟨newHs H w w' vs,C.ρ,C.aO⟩ d (st.aO d) (fun b o hb=>hb) kK).2 i e x hi hx).base S.ext.size
      exact this.free ((Qo hH d (st.aO d)).2 e (List.mem_of_getElem? hi)))
    refine hK _ _ _ (S'.put (some d) hd ?_)
    rcases hH with hH|hH
    ·exact (v5 (ctx h0 w0 (Es ρ d (st.aO d) vs) (st.news d (WC d (st.aO d) r).2) w') d (st.aO d) (fun b o hb=>by
      by_cases bA:b<w.heap.size
      ·exact k.h _ _ (hH _ _ (hb.2.1 bA))
      ·exact hh b o (by omega) hb.1 hb.2.2) oJ).1
    ·have:=(v5 ⟨newHs H w w' vs,Es ρ d (st.aO d) vs,(st.news d (WC d (st.aO d) r).2).aO⟩ d (st.aO d) (fun b o hb=>hb) oJ).1
     exact this.aBN (Qo hH d (st.aO d)).1 (fun _=>Nat.le_refl _) (fun _ _ _=>rfl)
theorem Xi {P:Program} {g:Nat} {args:List AV} {r:AV} (h:Gx P g args r) (hn:∀x∈args,Flat x):GC P g args r:=by
 unfold Gx at h;split at h
 ·rename_i e sz n cs rest;have:=hn _ (List.mem_cons_self ..)
  cases this
 ·exact h
theorem Ef (S:kA F h0 w0 nt ρ st a w) {call:Nat→List AV→Option AV} (jU:qP P call) {g:Nat} {args:List AV} {vs:Array Value} {dst:Option Nat} {e:qR}
 (h:aP call g args st dst=some e) (fQ:kX (ctx h0 w0 ρ st w) args vs.toList) (hd:∀d,dst=some d→d<nt)
 (hK:∀nC a' w',kA F h0 w0 nt nC (e.apply st) a' w'→K a' w') :
 Gz P g∧Calls P g vs w fun en w'=>∃v,en=.returned v∧K (a.put dst v) w':=by
 unfold aP at h;split at h
 ·rename_i hf;cases hc:call g args with
  | none=>simp[hc,cH] at h
  | some r =>
    obtain⟨P6,hs⟩:=jU g args r hc
    refine⟨P6, ?_⟩
    simp only[hc,cH] at h;refine ((Xi hs hf) w (ctx h0 w0 ρ st w).h vs (fun b o hb=>hb.1) (DW fQ hf fun b o hb=>hb)).mono ?_
    rintro en w' ⟨v,rfl,hr,hg⟩
    exact⟨v,rfl,xG S hr hg (.inl fun b o hb=>hb) h hd hK⟩
 ·split at h
  ·rename_i xs GK;cases hc:call g xs with
   | none=>simp[hc,cH] at h
   | some r =>
     obtain⟨P6,hs⟩:=jU g xs r hc
     refine⟨P6, ?_⟩
     simp only[hc,cH] at h;split at h
     ·rename_i hm;have hmm:=jA _ _ GK
      have QO:∀x∈xs,Flat x:=oW (fun a b h=>Is h) _ _ GK
      have hlen:xs.length=args.length:=by have:=congrArg List.length hmm;simpa using this.symm
      have Ns:kX (bare (Cn h0 w0 w)) xs vs.toList:=⟨by rw[hlen];exact fQ.len,fun i x y hx hy=>by
       have hi:i<args.length:=by have:=(List.getElem?_eq_some_iff.1 hx).1;omega
       have Il:eT st args[i]=some x:=by
        have:=congrArg (·[i]?) hmm
        simp only[List.getElem?_map,hx,List.getElem?_eq_getElem hi,Option.map_some,Option.some.injEq] at this;exact this
       exact Ld S (fQ.rel i args[i] y (by simp[hi]) hy) Il⟩
      refine ((Xi hs QO) w (Cn h0 w0 w) vs (fun b o hb=>hb.1) Ns).mono ?_
      rintro en w' ⟨v,rfl,hr,hg⟩
      exact⟨v,rfl,xG S hr hg (.inr hm) h hd hK⟩
     ·cases h
  ·cases h
theorem kA.drop (S:kA F h0 w0 nt ρ st a w) (s k:Nat):kA F h0 w0 nt ρ (st.jE s k none) a w∧(ctx h0 w0 ρ st w).Le (ctx h0 w0 ρ (st.jE s k none) w):=by
 have hs:∀s' g' e,(st.jE s k none).heap s' g'=some e→st.heap s' g'=some e:=fun s' g' e h=>by
  simp only[St.jE] at h;split at h
  ·cases h
  ·exact h
 have kk:(ctx h0 w0 ρ st w).Le (ctx h0 w0 ρ (st.jE s k none) w):=⟨fun b o hb=>⟨hb.1,hb.2.1,fun s' g' e he=>hb.2.2 s' g' e (hs s' g' e he)⟩,fun _=>Nat.le_refl _,fun _ _ _=>rfl⟩
 exact⟨⟨fun t=>(S.env t).le kk,fun s' g' e he=>⟨(S.rZ s' g' e (hs s' g' e he)).1,(S.rZ s' g' e (hs s' g' e he)).2.1,mS.world (r:=none) (S.rZ s' g' e (hs s' g' e he)).2.2 kk ⟨rfl,rfl,rfl,Nat.le_refl _,fun _ _ _=>rfl⟩ (by cases dB (ρ s' g')<;>simp)⟩,
  fun s1 g1 s2 g2 e1 e2 b h1 h2=>S.inj s1 g1 s2 g2 e1 e2 b (hs _ _ _ h1) (hs _ _ _ h2),S.ext,S.size,S.defers,⟨fun x v h=>(S.Lx.1 x v h).le kk,fun b o h=>kk.h b o (S.Lx.2.1 b o h),S.Lx.2.2⟩⟩,kk⟩
theorem aLn (S:kA F h0 w0 nt ρ st a w) {s k:Nat} {c y:AV} {v:Value} (hc:Flat c∨c=.own s k) (hu:cS (ctx h0 w0 ρ st w) c v) (h:cI st c=some y):cS (bare (ctx h0 w0 ρ (st.jE s k none) w).h) y v∧(v.oneCell'=true∨y=c):=by
 have kk:=(S.drop s k).2
 rcases hc with hf|rfl
 ·unfold cI at h;rw[if_pos hf] at h;simp only[Option.some.injEq] at h;subst h;exact⟨hu.flat hf kk.h,.inr rfl⟩
 ·unfold cI at h;rw[if_neg (by intro h;cases h)] at h
  simp only at h
  split at h
  ·rename_i e sz n cs he;split at h
   ·rename_i hf;simp only[Option.some.injEq] at h;subst h;obtain⟨_,ho1,xs,ho,hc⟩:=S.rZ s k _ he
    cases hu with
    | own s g hg h1 =>
      refine⟨Ee (fun b o hv hb MQ=>⟨MQ,fun bA=>by omega,fun s' g' e' zH wE=>?_⟩) ho (hc.flat hf kk.h),.inl h1⟩
      simp only[St.jE] at zH
      split at zH
      ·cases zH
      ·rename_i gN;have:=S.inj s' g' s k e' _ b zH he wE hv
       exact gN this
   ·cases h
  ·cases h
theorem P7 (S:kA F h0 w0 nt ρ st a w) {s k:Nat} {x y:AV} {v:Value} (hx:WD x) (hk:∀p∈iV x,p=(s,k)) (hu:cS (ctx h0 w0 ρ st w) x v) (h:eT st x=some y):cS (bare (ctx h0 w0 ρ (st.jE s k none) w).h) y v:=by
 have kk:=(S.drop s k).2
 by_cases hf:Flat x
 ·unfold eT at h;rw[if_pos hf] at h;simp only[Option.some.injEq] at h;subst h;exact hu.flat hf kk.h
 ·rcases hx with hx|⟨s',k',rfl⟩|⟨cs,rfl,GJ⟩
  ·exact absurd hx hf
  ·have:=hk (s',k') (by simp[iV,gA])
   simp only[Prod.mk.injEq] at this;obtain⟨rfl,rfl⟩:=this
   unfold eT at h;rw[if_neg hf] at h;exact (aLn S (.inr rfl) hu h).1
  ·have hc:∀c∈cs,Flat c∨c=.own s k:=fun c hc=>by
    rcases GJ c hc with h|⟨s',k',rfl⟩
    ·exact .inl h
    ·have:=hk (s',k') (by simp only[iV];exact List.mem_flatMap.2 ⟨_,hc,by simp[gA]⟩)
     simp only[Prod.mk.injEq] at this;obtain⟨rfl,rfl⟩:=this
     exact .inr rfl
   unfold eT at h;rw[if_neg hf] at h;simp only[Option.map_eq_some_iff] at h;obtain⟨ys,Te,rfl⟩:=h
   have hmm:=jA _ _ Te
   have hlen:ys.length=cs.length:=by have:=congrArg List.length hmm;simpa using this.symm
   cases hu with
   | agg _ arr hl hr h1 =>
     refine .agg ys arr (by omega) (fun i y z hy hz=>?_) h1
     have hi:i<cs.length:=by have:=(List.getElem?_eq_some_iff.1 hy).1;omega
     have Il:cI st cs[i]=some y:=by
      have:=congrArg (·[i]?) hmm
      simp only[List.getElem?_map,hy,List.getElem?_eq_getElem hi,Option.map_some,Option.some.injEq] at this;exact this
     exact (aLn S (hc _ (List.getElem_mem hi)) (hr i cs[i] z (by simp[hi]) hz) Il).1
theorem Nt {r:AV} {dst:Option Nat} {s k:Nat} {e:qR} (h:Dk r st dst s k=some e) :
 (Flat r∧e={ dst:=dst,val:=r,dJ:=some (s,k,none)}) ∨
 (¬Flat r∧∃e1 sz n cs d,r=.uniq e1 sz n cs∧dst=some d∧(∀c∈cs,fF c)∧e={ dst:=some d,val:=.own d (st.aO d),dJ:=some (s,k,none),new:=some (d,[.row e1 sz n cs])}):=by
 unfold Dk at h;split at h
 ·rename_i hf;simp only[Option.some.injEq] at h;exact .inl ⟨hf,h.symm⟩
 ·rename_i hf;split at h
  ·rename_i e1 sz n cs d;split at h
   ·rename_i hc;simp only[Option.some.injEq] at h;exact .inr ⟨hf,e1,sz,n,cs,d,rfl,rfl,hc,h.symm⟩
   ·cases h
  ·cases h
theorem AM (S:kA F h0 w0 nt ρ st a w) {call:Nat→List AV→Option AV} (jU:qP P call) {g:Nat} {args:List AV} {vs:Array Value} {dst:Option Nat} {e:qR}
 (h:eE call g args st dst=some e) (fQ:kX (ctx h0 w0 ρ st w) args vs.toList) (hd:∀d,dst=some d→d<nt)
 (hK:∀nC a' w',kA F h0 w0 nt nC (e.apply st) a' w'→K a' w') :
 Gz P g∧Calls P g vs w fun en w'=>∃v,en=.returned v∧K (a.put dst v) w':=by
 unfold eE at h;split at h
 ·rename_i s k Nm;split at h
  ·rename_i rK;split at h
   ·rename_i xs GK;cases hc:call g xs with
    | none=>simp[hc,cH] at h
    | some r =>
      obtain⟨P6,hs⟩:=jU g xs r hc
      refine⟨P6, ?_⟩
      simp only[hc,cH] at h;have h:=Nt h
      have hmm:=jA _ _ GK
      have QO:∀x∈xs,Flat x:=oW (fun a b h=>Is h) _ _ GK
      have hlen:xs.length=args.length:=by have:=congrArg List.length hmm;simpa using this.symm
      obtain⟨S1,kk⟩:=S.drop s k
      have Ns:kX (bare (ctx h0 w0 ρ (st.jE s k none) w).h) xs vs.toList:=⟨by rw[hlen];exact fQ.len,fun i x y hx hy=>by
       have hi:i<args.length:=by have:=(List.getElem?_eq_some_iff.1 hx).1;omega
       have Il:eT st args[i]=some x:=by
        have:=congrArg (·[i]?) hmm
        simp only[List.getElem?_map,hx,List.getElem?_eq_getElem hi,Option.map_some,Option.some.injEq] at this;exact this
       refine P7 S (rK _ (List.getElem_mem hi)) (fun p hp=>?_) (fQ.rel i args[i] y (by simp[hi]) hy) Il
       have:p∈args.flatMap iV:=List.mem_flatMap.2 ⟨_,List.getElem_mem hi,hp⟩
       rw[Nm] at this;simpa using this⟩
      refine ((Xi hs QO) w (ctx h0 w0 ρ (st.jE s k none) w).h vs (fun b o hb=>hb.1) Ns).mono ?_
      rintro en w' ⟨v,rfl,hr,hg⟩
      rcases h with ⟨WQ,rfl⟩|⟨WQ,e1,sz,n,cs,d,rfl,rfl,GJ,rfl⟩
      ·refine⟨v,rfl,xG (e:={ dst:=dst,val:=r }) S1 hr hg (.inl fun b o hb=>hb) ?_ hd (fun nC a' w2 hS=>hK nC a' w2 hS)⟩
       unfold iR;rw[if_pos WQ]
      ·refine⟨v,rfl,xG (e:={ dst:=some d,val:=.own d (st.aO d),new:=some (d,[.row e1 sz n cs])}) S1 hr hg (.inr GJ) ?_ hd (fun nC a' w2 hS=>hK nC a' w2 hS)⟩
       unfold iR;rw[if_neg WQ];rfl
   ·cases h
  ·cases h
 ·exact Ef S jU h fQ hd hK
theorem GL (S:kA F h0 w0 nt ρ st a w) {call:Nat→List AV→Option AV} (jU:qP P call) {g:Nat} {args:List AV} {vs:Array Value} {dst:Option Nat} {e:qR}
 (h:kU call g args st dst=some e) (fQ:kX (ctx h0 w0 ρ st w) args vs.toList) (hd:∀d,dst=some d→d<nt)
 (hK:∀nC a' w',kA F h0 w0 nt nC (e.apply st) a' w'→K a' w') :
 Gz P g∧Calls P g vs w fun en w'=>∃v,en=.returned v∧K (a.put dst v) w':=by
 unfold kU at h;split at h
 ·rename_i s k rest;split at h
  ·rename_i e0 sz n cs he;split at h
   ·rename_i GJ;obtain⟨GJ,WQ⟩:=GJ
    have hvs:∃v0 vr,vs=#[v0]++vr∧cS (ctx h0 w0 ρ st w) (.own s k) v0∧kX (ctx h0 w0 ρ st w) rest vr.toList:=by
     have hl:=fQ.len
     cases hv:vs.toList with
     | nil=>rw[hv] at hl;simp at hl
     | cons v0 vr =>
       rw[hv] at fQ;refine⟨v0,vr.toArray, ?_,fQ.head,by simpa using fQ.tail⟩
       apply Array.ext'
       rw[hv];simp
    obtain⟨v0,vr,rfl,hv0,hrest⟩:=hvs
    have hv0':v0=ρ s k:=by cases hv0;rfl
    subst hv0'
    obtain⟨hk1,hk2,ys,ho,oC⟩:=S.rZ s k _ he
    have run:∀r,call g (.uniq e0 sz n cs :: rest)=some r→Gz P g ∧
     Calls P g (#[ρ s k]++vr) w fun en w'=>∃v,en=.returned v∧w.grownBy w' (dB (ρ s k)) ∧
      match r with
      | .uniq e' sY n' Dd=>∃zs,nD w' 0 e' sY v n' zs∧fR (bare (ctx h0 w0 ρ st w).h) Dd zs∧∀b,dB v=some b→dB (ρ s k)=some b∨w.heap.size≤b
      | .eB [.uniq e' sY n' Dd]=>v=.tuple #[]∧∃zs,nD w' 0 e' sY (ρ s k) n' zs∧fR (bare (ctx h0 w0 ρ st w).h) Dd zs
      | _=>False:=by
     intro r hr;obtain⟨P6,hs⟩:=jU _ _ _ hr
     refine⟨P6, ?_⟩
     have hs:TJ P g e0 sz n cs rest r:=hs
     exact hs w (ctx h0 w0 ρ st w).h (ρ s k) ys vr (fun b o hb=>hb.1) (fun b o hb=>hb.2.2 s k _ he) (xY ho (Nat.zero_le _)) (oC.flat GJ fun b o hb=>hb) (DW hrest WQ fun b o hb=>hb)
    have bareLe:∀C:Ctx,(ctx h0 w0 ρ st w).Le C→(bare (ctx h0 w0 ρ st w).h).Le C:=fun C kC=>⟨kC.h,fun _=>Nat.zero_le _,fun _ _ h=>absurd h (by simp[bare])⟩
    have vW:∀b,dB (ρ s k)=some b→w0.heap.size≤b:=fun b hb=>(Bv ho b hb).1
    split at h
    ·rename_i e' sY n' Dd hr
     obtain⟨P6,hc⟩:=run _ hr
     refine⟨P6,hc.mono ?_⟩
     rintro en w' ⟨v,rfl,hg,zs,hz,P8,hzb⟩
     cases dst with
     | none=>cases h
     | some d =>
       simp only[Option.some.injEq] at h;subst h;refine⟨v,rfl, ?_⟩
       obtain⟨S',kk,oJ⟩:=S.G2 he hg d (.row e' sY n' Dd) v (sO hz) hzb (fun C kC=>⟨zs,Nr hz (fun b hb=>by
        rcases hzb b hb with h|h
        ·exact vW b h
        ·have:=S.ext.size;omega),P8.le (bareLe C kC)⟩)
       have happ:qR.apply { dst:=some d,val:=.own d (st.aO d),dJ:=some (s,k,none),new:=some (d,[.row e' sY n' Dd])} st=((st.jE s k none).new d (.row e' sY n' Dd)).put (some d) (.own d (st.aO d)):=by
        simp only[qR.apply,Uz]
       have bA:st.aO d<(ctx h0 w0 (tG ρ d (st.aO d) v) ((st.jE s k none).new d (.row e' sY n' Dd)) w').aO d:=by simp[ctx,St.new,St.jE]
       have kK:(ctx h0 w0 (tG ρ d (st.aO d) v) ((st.jE s k none).new d (.row e' sY n' Dd)) w').ρ d (st.aO d)=v:=oJ
       have:=cS.own (C:=ctx h0 w0 (tG ρ d (st.aO d) v) ((st.jE s k none).new d (.row e' sY n' Dd)) w') d (st.aO d) bA (by rw[kK];exact sO hz)
       rw[kK] at this;have hS:=S'.put (some d) hd this
       rw[← happ] at hS;exact hK _ _ _ hS
    ·rename_i e' sY n' Dd hr
     obtain⟨P6,hc⟩:=run _ hr
     refine⟨P6,hc.mono ?_⟩
     rintro en w' ⟨v,rfl,hg,rfl,zs,hz,P8⟩
     simp only[Option.some.injEq] at h;subst h;have S':=S.G1 (e':=.row e' sY n' Dd) he hg (fun C kC=>⟨zs,Nr hz vW,P8.le (bareLe C kC)⟩)
     exact⟨_,rfl,hK ρ _ _ (S'.put dst hd (.eB [] #[] rfl (by simp)))⟩
    ·cases h
   ·cases h
  ·cases h
 ·split at h
  ·exact Ef S jU h fQ hd hK
  ·cases h
end
end Go.Ab
end
section
namespace Go.Ab
open Classical
section
variable {P:Program} {h0:Nat→Obj→Prop} {w0:World} {F:Fz} {nt:Nat} {ρ:Nat→Nat→Value} {st:St} {a:Act} {w:World} {K:Act→World→Prop} {Q:Exit→Act→World→Prop}
theorem upon_value {o:Oper} {v:Value} {w':World} (h:(execOp a.eval o).run P w=.ok (.value v) w') (hk:K (a.put o.dst v) w'):o.wp P a w K Q:=by
 unfold Oper.wp;rw[h];exact hk
theorem kA.newVar (S:kA F h0 w0 nt ρ st a w) (d:Nat) (hd:d<nt) (cs:List AV) (arr:Array Value) (T:Nat) (hc:fR (ctx h0 w0 ρ st w) cs arr.toList) :
 ∃nC,kA F h0 w0 nt nC ((st.new d (.cells cs)).put (some d) (.ptr d (st.aO d) 0)) (a.put (some d) (.pointer (some ⟨w.heap.size,0,none⟩))) (w.alloc (.cells arr T)):=by
 obtain⟨S',k,oJ⟩:=S.new (World.grownBy_alloc w (.cells arr T) none) d (.cells cs) (.pointer (some ⟨w.heap.size,0,none⟩)) rfl (fun b hb=>by simp[dB] at hb;omega)
  (fun C k _=>⟨w.heap.size,arr,T,rfl,S.ext.size,heap_alloc_new w _,hc.le k⟩)
 exact⟨_,S'.put (some d) (fun t ht=>by cases ht;exact hd) (.ptr d (st.aO d) 0 w.heap.size (by simp[ctx,St.new]) (by show dB (tG _ _ _ _ _ _)=_;rw[oJ];rfl))⟩
theorem kA.newRow (S:kA F h0 w0 nt ρ st a w) (d:Nat) (hd:d<nt) {w':World} (hg:w.grownBy w' none) (e sz n:Nat) (cs:List AV) (xs:List Value) (v:Value) (ho:nD w' w.heap.size e sz v n xs) (hc:fR (ctx h0 w0 ρ st w) cs xs) :
 ∃nC,kA F h0 w0 nt nC ((st.new d (.row e sz n cs)).put (some d) (.own d (st.aO d))) (a.put (some d) v) w':=by
 obtain⟨S',k,oJ⟩:=S.new hg d (.row e sz n cs) v (sO ho) (fun b hb=>(Bv ho b hb).1) (fun C k _=>⟨xs,xY ho S.ext.size,hc.le k⟩)
 refine⟨_,S'.put (some d) (fun t ht=>by cases ht;exact hd) ?_⟩
 have bA:st.aO d<(ctx h0 w0 (tG ρ d (st.aO d) v) (st.new d (.row e sz n cs)) w').aO d:=by simp[ctx,St.new]
 have kK:(ctx h0 w0 (tG ρ d (st.aO d) v) (st.new d (.row e sz n cs)) w').ρ d (st.aO d)=v:=oJ
 have:=cS.own (C:=ctx h0 w0 (tG ρ d (st.aO d) v) (st.new d (.row e sz n cs)) w') d (st.aO d) bA (by rw[kK];exact sO ho)
 rw[kK] at this;exact this
theorem Hc (z:Array Value) (n:Nat):((Array.range (n * z.size)).map (z[· % z.size]!)).toList=(List.range n).flatMap fun _=>z.toList:=by
 rw[Array.toList_map];have:(Array.range (n * z.size)).toList=List.range (n * z.size):=by simp
 rw[this];clear this
 induction n with
 | zero=>simp
 | succ n ih =>
   rw[Nat.succ_mul,List.range_add,List.map_append,ih,List.range_succ,List.flatMap_append];congr 1
   simp only[List.flatMap_cons,List.flatMap_nil,List.append_nil,List.map_map];apply List.ext_getElem?
   intro i;by_cases hi:i<z.size
   ·simp[hi,Nat.mod_eq_of_lt hi,Nat.mul_comm n z.size]
   ·simp[hi]
theorem It {C:Ctx} {z:List Value} (h1:∀y∈z,y.oneCell'=true) (n:Nat):fR C ((List.range n).flatMap fun _=>z.map .v) ((List.range n).flatMap fun _=>z):=by
 generalize List.range n=l
 induction l with
 | nil=>exact .nil C
 | cons x l ih=>simp only[List.flatMap_cons];exact (fR.vs C z h1).app ih
theorem Qp (S:kA F h0 w0 nt ρ st a w) {T n e sz by_:Nat} {parts:Array (Nat × Operand)} {z:List Value} {cs:List AV} (hs:dK P T=some (e,sz,by_)) (hz:dS P e=some z)
 (hn:0<n∨parts=#[]) (hlim:n * sz≤2 ^ 24) (tX:(parts.toList.all fun p=>(st.ev p.2).jG)=true)
 (hf:gJ (fun i=>some (i * sz,sz)) ((List.range n).flatMap fun _=>z.map .v) (parts.toList.map fun p=>(p.1,st.ev p.2))=some cs) :
 ∃v w' xs,(Instr.buildSlice T n (parts.map fun (i,x)=>(i,a.eval x))).run P w=.ok v w'∧w.grownBy w' none∧nD w' w.heap.size e sz v n xs∧fR (ctx h0 w0 ρ st w) cs xs:=by
 obtain⟨ei,ez,hT,Ay,Zz,rfl,Rx,rfl,zJ⟩:=jP hs
 obtain⟨i',zv,Bx,JT,rfl,G5⟩:=yA hz
 rw[Ay] at Bx
 cases Bx
 rw[Zz] at JT;cases JT
 rcases Nat.eq_zero_or_pos n with h0'|hn
 ·subst h0'
  have hp:parts=#[]:=by
   rcases hn with h|h
   ·omega
   ·exact h
  subst hp;simp[gJ] at hf
  subst hf;refine⟨.slice (some ⟨w.heap.size,0,none⟩) 0 0,w.alloc (.cells #[] e),[], ?_,World.grownBy_alloc w _ none,⟨by simp,.inl ⟨_,rfl,rfl⟩⟩,.nil _⟩
  simp[Instr.buildSlice,run_underlying hT,sizeOf,typeInfo,zeroValue,Ay,Instr.fill,newRow]
  rw[show Array.map (fun x=>(default:Value)) (Array.range 0)=#[] from by simp[Array.range]]
 have fQ:kX (ctx h0 w0 ρ st w) ((parts.toList.map fun p=>(p.1,st.ev p.2)).map (·.2)) ((parts.toList.map fun p=>(p.1,a.eval p.2)).map (·.2)):=by
  simp only[List.map_map];exact kX.map _ _ _ fun p _=>S.ev p.2
 have hnz:¬n * ei.size=0:=by
  have:=Nat.mul_pos hn zJ
  omega
 have TN:((Array.range (n * ei.size)).map (ez.cells[· % ez.cells.size]!)).toList=(List.range n).flatMap fun _=>ez.cells.toList:=by
  rw[← Rx];exact Hc ez.cells n
 obtain⟨cells,JU,oC⟩:=Ke (place:=fun i=>some (i * ei.size,ei.size)) (parts.toList.map fun p=>(p.1,st.ev p.2)) (parts.toList.map fun p=>(p.1,a.eval p.2)) _ ((Array.range (n * ei.size)).map (ez.cells[· % ez.cells.size]!)) cs (by simp) fQ
  (fun p hp'=>by
   obtain⟨q,hq,rfl⟩:=List.mem_map.1 hp'
   exact List.all_eq_true.1 tX q hq) (by rw[TN];exact It G5 n) hf
 have hr:=run_buildSlice (P:=P) w T e n (parts.map fun (i,x)=>(i,a.eval x)) cells ei ez hT Ay Zz (by omega) hnz (by simpa using JU)
 have hsz:cells.size=n * ei.size:=by
  have hlen:∀(place:Nat→Option (Nat × Nat)) (ps:List (Nat × AV)) (c out:List AV),gJ place c ps=some out→out.length=c.length:=by
   intro place ps;induction ps with
   | nil=>intro c out h;simp[gJ] at h;rw[h]
   | cons p ps ih =>
     intro c out h;obtain⟨i,x⟩:=p
     unfold gJ at h;split at h
     ·cases h
     ·split at h
      ·rename_i hc;have:=ih _ _ h
       rw[this];simp
       omega
      ·cases h
  have h1:=hlen _ _ _ _ hf
  have h2:=oC.len
  have h3:=(It (C:=ctx h0 w0 ρ st w) G5 n).len
  rw[← TN] at h3;simp only[Array.length_toList,Array.size_map,Array.size_range] at h2 h3;omega
 refine⟨_,_,cells.toList,hr,World.grownBy_alloc w _ none,Fy ?_,oC⟩
 refine⟨by simp[hsz],.inr ⟨w.heap.size,n,cells,rfl,Nat.le_refl _,heap_alloc_new w _,Nat.le_refl _, ?_,hsz, ?_⟩⟩
 ·have:n≤n * ei.size:=Nat.le_mul_of_pos_right n zJ
  simp only[maxLen];omega
 ·rw[← hsz,← Array.length_toList,List.take_length]
theorem Tf (C:Ctx) {T e sz by_:Nat} {z:List Value} {n:Nat} (hs:dK P T=some (e,sz,by_)) (hz:dS P e=some z)
 (hb:n * by_≤140737488355328) (hm:n≤maxLen) :
 ∃v w' xs,(Instr.makeSlice T (.int .i64 n) (.int .i64 n)).run P w=.ok v w'∧w.grownBy w' none∧nD w' w.heap.size e sz v n xs∧fR C ((List.range n).flatMap fun _=>z.map .v) xs:=by
 obtain⟨ei,ez,hT,Ay,Zz,rfl,Rx,rfl,zJ⟩:=jP hs
 obtain⟨i',zv,Bx,JT,rfl,G5⟩:=yA hz
 rw[Ay] at Bx
 cases Bx
 rw[Zz] at JT;cases JT
 obtain⟨w',hr,ho,hg⟩:=run_make_full (P:=P) w w.heap.size T e ei ez ei.size hT Ay Zz rfl .i64 .i64 n (by rw[Nat.mul_comm];omega) hm (Nat.le_refl _)
 have TN:(madeCells ez.cells (n * ei.size)).toList=(List.range n).flatMap fun _=>ez.cells.toList:=by
  unfold madeCells;rw[← Rx];exact Hc ez.cells n
 exact⟨_,w',_,hr,hg,Fy ho,by rw[TN];exact It G5 n⟩
theorem MT (S:kA F h0 w0 nt ρ st a w) {T:Nat} {x y:AV} {s g:Nat} {e:mI} {u v:Value} (h:pI P st T x y=some (s,g,e)) (hu:cS (ctx h0 w0 ρ st w) x u) (hv:cS (ctx h0 w0 ρ st w) y v) :
 ∃w',(Instr.storeAt T u v).run P w=.ok () w'∧kA F h0 w0 nt ρ (st.jE s g (some e)) a w':=by
 unfold pI at h;split at h
 ·rename_i s' g' off
  split at h
  ·rename_i ba k hld;split at h
   ·rename_i hc;obtain⟨c1,c2⟩:=hc
    obtain⟨i,d,hi,hd,kD,rfl⟩:=zV hld
    have GM:=hv.cells c2
    have hlen:=GM.len
    simp only[Array.length_toList] at hlen;cases hu with
    | ptr _ _ _ b hg hb =>
      have mZ:dB (ρ s' g')=some b:=hb
      have main:∀(arr:Array Value) (B:Nat),w.heap[b]? = some (.cells arr B (0,0))→off+i.size≤arr.size →
       (Instr.storeAt T (.pointer (some ⟨b,off,none⟩)) v).run P w=.ok () (w.setRow b (arr.toList.take off++v.cells.toList++arr.toList.drop (off+i.size)).toArray):=by
       intro arr B hh hle;have tX:=run_storeCells_at P b off B v.cells.toList 0 arr w hh (by simp;omega) (fun y hy=>by
        obtain⟨j,hj,rfl⟩:=List.getElem_of_mem hy
        exact GM.one j _ (by simp))
       simp only[Nat.add_zero,Array.length_toList] at tX;simp only[Instr.storeAt,Instr.sureAddr];rw[dF (Sem.run_pure P w _)];simp only[storeVar,dF (run_sizeOf w hi)];rw[if_neg (by omega),show off+i.size=off+v.cells.size by omega]
       exact tX
      have grown:∀(cs:Array Value),w.grownBy (w.setRow b cs) (some b):=fun cs=>⟨rfl,rfl,rfl,by simp,fun k _ hk=>setRow_other w b k cs (fun e=>hk (by rw[e]))⟩
      cases he:st.heap s' g' with
      | none=>simp[he] at h
      | some e' =>
        obtain⟨_,_,her⟩:=S.rZ s' g' _ he
        cases e' with
        | cells cs =>
          simp only[he] at h;split at h
          ·rename_i hle;simp only[Option.some.injEq,Prod.mk.injEq] at h;obtain⟨rfl,rfl,rfl⟩:=h
           obtain⟨b',arr,B,kK,vW,hh,hc⟩:=her
           have wE:b'=b:=by rw[kK] at mZ;simpa [dB] using mZ
           subst wE;have hl:=hc.len
           simp only[Array.length_toList] at hl;refine⟨_,main arr B hh (by omega),S.store he mZ (grown _) fun C k=>⟨b',_,B,kK,vW,setRow_heap w b' arr _ B (0,0) hh, ?_⟩⟩
           exact (((hc.take off).app GM).app (hc.drop _)).le k
          ·cases h
        | row e2 sz n cs =>
          simp only[he] at h;split at h
          ·rename_i hle;simp only[Option.some.injEq,Prod.mk.injEq] at h;obtain⟨rfl,rfl,rfl⟩:=h
           obtain⟨xs,ho,hc⟩:=her
           have ho':=ho
           rcases ho.2 with ⟨p,kK,_⟩|⟨b',cap,cur,kK,vW,hh,Td,p6,GJ,ht,pY⟩
           ·rw[kK,pE] at mZ;cases mZ
           ·have wE:b'=b:=by rw[kK,jT pY] at mZ;simpa using mZ
            subst wE;have hl:=hc.len
            have hx:=ho.1
            have hle2:n * sz≤cap * sz:=Nat.mul_le_mul_right _ Td
            refine⟨_,main cur e2 hh (by omega),S.store he mZ (grown _) fun C k=>⟨xs.take off++v.cells.toList++xs.drop (off+i.size), ?_,(((hc.take off).app GM).app (hc.drop _)).le k⟩⟩
            refine⟨by simp;omega,.inr ⟨b',cap,_,kK,vW,setRow_heap w b' cur _ e2 (0,0) hh,Td,p6,by simp;omega, ?_,pY⟩⟩
            simp only
            rw[← ht];have Az:cur.toList.length=cur.size:=rfl
            have hvl:v.cells.toList.length=v.cells.size:=rfl
            have l1:(cur.toList.take off++v.cells.toList).length=off+i.size:=by simp;omega
            rw[List.take_append,l1,List.take_of_length_le (by omega),List.drop_take,List.take_take,Nat.min_eq_left (by omega)]
          ·cases h
        | map es=>simp[he] at h
   ·cases h
  ·cases h
 ·cases h
end
end Go.Ab
end
