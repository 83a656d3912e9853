/-
  Part 2 of the proof: an evaluator of programs, its soundness, and what functions of this program compute.
-/
import Derived.Test.YtmcjkemalibacaaGreatK1
import Derived.MapKept
set_option linter.all false
set_option maxRecDepth 20000
set_option maxHeartbeats 40000000
section
namespace Go.Ab
open Classical
section
variable {P:Program}
noncomputable def yM (x:Value):List MapEntry→Nat→Option (Nat × Value)
 | [],_=>none
 | e :: r,i=>if x=e.key then some (i,e.val) else yM x r (i+1)
theorem mk_inj {agg:Bool} {l:List Bool} {us vs:List Value} (h:gF l us vs) (ha:agg=false→l.length=1):mk agg us=mk agg vs↔us=vs:=by
 cases agg with
 | true=>simp[mk]
 | false =>
   have h1:=ha rfl
   obtain⟨e1,e2⟩:=lR _ _ _ h
   obtain⟨a,rfl⟩:=List.length_eq_one_iff.1 (e1.trans h1)
   obtain⟨b,rfl⟩:=List.length_eq_one_iff.1 (e2.trans h1)
   simp[mk]
theorem Wt (w:World) {k:Nat} {l:List Bool} {us vs:List Value} (hl:fC P 20 k=some l) (h:gF l us vs) :
 (Op.equal k (mk (dF P k) us) (mk (dF P k) vs)).run P w=.ok (decide (mk (dF P k) us=mk (dF P k) vs)) w:=by
 have:=Cs (P:=P) 20 10000 (by omega) w k l hl us vs h
 unfold Op.equal Op.maxDepth;rw[this];congr 1
 rw[Bool.eq_iff_iff];simp[mk_inj h (oE 20 k l hl)]
def aAw (P:Program) (k:Nat) (l:List Bool) (us:List Value) (es:List MapEntry):Prop:=∀e∈es,∃vs,e.key=mk (dF P k) vs∧gF l us vs
theorem Je (w:World) {k:Nat} {l:List Bool} {us:List Value} (hl:fC P 20 k=some l):∀(es:List MapEntry) (i:Nat),aAw P k l us es →
 (Instr.findAsking k (mk (dF P k) us) es i).run P w=.ok (yM (mk (dF P k) us) es i) w
 | [],i,_=>by simp[Instr.findAsking,yM]
 | e :: es,i,h=>by
   obtain⟨vs,hk,hv⟩:=h e (by simp)
   have ih:=Je w hl es (i+1) (fun x hx=>h x (by simp[hx]))
   have he:=Wt w hl hv
   simp only[Instr.findAsking,hk,Sem.run_bind,he,Result.andThen_ok,yM];by_cases hq:mk (dF P k) us=mk (dF P k) vs
   ·simp[hq]
   ·simp[hq,ih]
theorem Vw {q k0:IntKind} {a:Int}:∀(es:List MapEntry) (i:Nat),(∀e∈es,∃b,e.key=.int k0 b)→Instr.findNow (.int q) (.int k0 a) es i=some (yM (.int k0 a) es i)
 | [],i,_=>rfl
 | e :: es,i,h=>by
   obtain⟨b,hk⟩:=h e (by simp)
   have ih:=Vw (q:=q) (a:=a) es (i+1) (fun x hx=>h x (by simp[hx]))
   simp only[Instr.findNow,Instr.sameNow,hk,if_true,yM];by_cases hq:a=b
   ·subst hq;simp
   ·have:(a == b)=false:=by simp[hq]
    simp[this,ih,hq]
theorem Qv {a:Bool}:∀(es:List MapEntry) (i:Nat),(∀e∈es,∃b,e.key=.bool b)→Instr.findNow .bool (.bool a) es i=some (yM (.bool a) es i)
 | [],i,_=>rfl
 | e :: es,i,h=>by
   obtain⟨b,hk⟩:=h e (by simp)
   have ih:=Qv (a:=a) es (i+1) (fun x hx=>h x (by simp[hx]))
   simp only[Instr.findNow,Instr.sameNow,hk,yM];by_cases hq:a=b
   ·subst hq;simp
   ·have:(a == b)=false:=by simp[hq]
    simp[this,ih,hq]
theorem Mn {l:List Bool} {k:Nat} (h:Dk P l k=true):(∃q,P.underlying k=some (.int q))∨P.underlying k=some .bool ∨
 ∃n e q i,P.underlying k=some (.array n e)∧P.underlying e=some (.int q)∧P.info? e=some i∧i.size=1∧l.length=n:=by
 unfold Dk at h;split at h
 ·rename_i q hq;exact .inl ⟨q,hq⟩
 ·rename_i hq;exact .inr (.inl hq)
 ·rename_i n e hu;split at h
  ·rename_i q hq;simp only[Bool.and_eq_true,decide_eq_true_eq] at h;obtain⟨⟨⟨h1,h2⟩,h3⟩,_⟩:=h
   obtain⟨i,hi⟩:=Option.isSome_iff_exists.1 h3
   exact .inr (.inr ⟨n,e,q,i,hu,hq,hi,by rw[← rE hi];exact h1,h2⟩)
  ·cases h
 ·cases h
theorem Qw (w:World) {k:Nat} {l:List Bool} {us:List Value} (hl:fC P 20 k=some l) (hm:Dk P l k=true) (hu:gF l us us) {es:List MapEntry} (h:aAw P k l us es) :
 (Instr.findKey k (mk (dF P k) us) es).run P w=.ok (yM (mk (dF P k) us) es 0) w:=by
 rcases Mn hm with ⟨q,hk⟩|hk|⟨n,e,q,i,hk,_⟩
 ·have kZ:dF P k=false:=by simp[dF,hk]
  have Hv:l=[true]:=by simpa [fC,hk] using hl.symm
  subst Hv
  have hus:∀vs,gF [true] us vs→∃k0 a b,us=[.int k0 a]∧vs=[.int k0 b]:=fun vs h=>by
   cases us with
   | nil=>simp[gF] at h
   | cons u us=>cases vs with
     | nil=>cases u<;>simp[gF] at h
     | cons v vs =>
       cases u<;>cases v<;>simp[gF] at h
       cases us<;>cases vs<;>simp[gF] at h
       subst h;exact⟨_,_,_,rfl,rfl⟩
  obtain⟨k0,a,_,e1,_⟩:=hus us hu
  have Qx:∀e∈es,∃b,e.key=.int k0 b:=fun e he=>by
   obtain⟨vs,h1,h2⟩:=h e he
   obtain⟨k1,a1,b1,e2,e3⟩:=hus vs h2
   rw[e1] at e2;simp at e2
   exact⟨b1,by rw[h1,kZ,e3];simp[mk,e2.1]⟩
  have hx:mk (dF P k) us=.int k0 a:=by rw[kZ,e1];rfl
  rw[hx];simp only[Instr.findKey,Sem.run_bind,bC hk,Result.andThen_ok,Vw es 0 Qx];rfl
 ·have kZ:dF P k=false:=by simp[dF,hk]
  have Hv:l=[false]:=by simpa [fC,hk] using hl.symm
  subst Hv
  have hus:∀vs,gF [false] us vs→∃a b,us=[.bool a]∧vs=[.bool b]:=fun vs h=>by
   cases us with
   | nil=>simp[gF] at h
   | cons u us=>cases vs with
     | nil=>cases u<;>simp[gF] at h
     | cons v vs =>
       cases u<;>cases v<;>simp[gF] at h
       cases us<;>cases vs<;>simp[gF] at h
       exact⟨_,_,rfl,rfl⟩
  obtain⟨a,_,e1,_⟩:=hus us hu
  have Qx:∀e∈es,∃b,e.key=.bool b:=fun e he=>by
   obtain⟨vs,h1,h2⟩:=h e he
   obtain⟨a1,b1,e2,e3⟩:=hus vs h2
   exact⟨b1,by rw[h1,kZ,e3];rfl⟩
  have hx:mk (dF P k) us=.bool a:=by rw[kZ,e1];rfl
  rw[hx];simp only[Instr.findKey,Sem.run_bind,bC hk,Result.andThen_ok,Qv es 0 Qx];rfl
 ·have kZ:dF P k=true:=by simp[dF,hk]
  cases es with
  | nil =>
    simp[Instr.findKey,bC hk,Instr.findNow,yM]
  | cons m es =>
    have hn:Instr.findNow (.array n e) (mk (dF P k) us) (m :: es) 0=none:=by
     simp[Instr.findNow,Instr.sameNow]
    simp only[Instr.findKey,Sem.run_bind,bC hk,Result.andThen_ok,hn];exact Je w hl (m :: es) 0 h
theorem Mo (w:World) {k:Nat} {l:List Bool} {us:List Value} (hl:fC P 20 k=some l) (hm:Dk P l k=true) (hu:gF l us us) (em:Bool) :
 (Instr.checkKey em 10000 k (mk (dF P k) us)).run P w=.ok () w:=by
 have plain:∀(n t:Nat) (q:IntKind) (x:Value),P.underlying t=some (.int q)→(Instr.checkKey em (n+1) t x).run P w=.ok () w:=fun n t q x ht=>by
  simp[Instr.checkKey,bC ht]
 rcases Mn hm with ⟨q,hk⟩|hk|⟨n,e,q,i,hk,he,hi,hs,hn⟩
 ·exact plain 9999 k q _ hk
 ·have plainB:∀(n t:Nat) (x:Value),P.underlying t=some .bool→(Instr.checkKey em (n+1) t x).run P w=.ok () w:=fun n t x ht=>by
   simp[Instr.checkKey,bC ht]
  exact plainB 9999 k _ hk
 ·have kZ:dF P k=true:=by simp[dF,hk]
  have hea:dF P e=false:=by simp[dF,he]
  have hlen:=(lR _ _ _ hu).1
  rw[kZ];simp only[mk,if_true];rw[show (10000:Nat)=9999+1 from rfl,Instr.checkKey];simp only[Sem.run_bind,bC hk,Result.andThen_ok];simp only[Std.Legacy.Range.forIn_eq_forIn_range',Std.Legacy.Range.size,Nat.sub_zero,Nat.add_one_sub_one,Nat.div_one];have each:∀j∈List.range' 0 n,j<us.length:=fun j hj=>by
   have:=List.mem_range'_1.1 hj
   omega
  generalize List.range' 0 n=is at each
  induction is with
  | nil=>simp
  | cons j is ih =>
    have hj:=each j (by simp)
    have p1:=Ia w he hi us j (fun _=>hs) (by omega)
    simp only[List.forIn_cons,Sem.run_bind,run_sizeOf w hi,hs,Nat.mul_one,Result.andThen_ok,p1,plain 9998 e q _ he,Sem.run_pure];exact ih fun y hy=>each y (by simp[hy])
theorem wR:∀(l:List Bool) (us:List Value),gF l us us→∀x∈us,∀n,Instr.sameBits n x x=true
 | [],[],_,x,hx,n=>by simp at hx
 | true :: l,.int k a :: us,h,x,hx,n=>by
   rcases List.mem_cons.1 hx with rfl|hx
   ·cases n<;>simp[Instr.sameBits]
   ·exact wR l us h.2 x hx n
 | false :: l,.bool a :: us,h,x,hx,n=>by
   rcases List.mem_cons.1 hx with rfl|hx
   ·cases n<;>simp[Instr.sameBits]
   ·exact wR l us h x hx n
theorem J7 (w:World) {agg:Bool} {l:List Bool} {us:List Value} (hu:gF l us us) (ha:agg=false→l.length=1):(Instr.keyThatStays (mk agg us) (mk agg us)).run P w=.ok (mk agg us) w:=by
 have hs:Instr.sameBits 10000 (mk agg us) (mk agg us)=true:=by
  cases agg with
  | true =>
    simp only[mk,if_true];show Instr.sameBits (9999+1) _ _=true
    simp only[Instr.sameBits,beq_self_eq_true,Bool.true_and];have Nb:∀x∈us,Instr.sameBits 9999 x x=true:=fun x hx=>wR l us hu x hx 9999
    clear hu
    induction us with
    | nil=>rfl
    | cons x us ih =>
      simp only[List.zip_cons_cons,List.all_cons,Bool.and_eq_true];exact⟨Nb x (by simp),ih fun y hy=>Nb y (by simp[hy])⟩
  | false =>
    obtain⟨a,rfl⟩:=List.length_eq_one_iff.1 ((lR _ _ _ hu).1.trans (ha rfl))
    exact wR l [a] hu a (by simp) 10000
 simp[Instr.keyThatStays,hs]
theorem Qy {k:Nat} {x y:AV} {C:Ctx} {u v:Value} (h:Fs P k x y) (hu:cY C x u) (hv:cY C y v) :
 ∃l us vs,fC P 20 k=some l∧gF l us vs∧u=mk (dF P k) us∧v=mk (dF P k) vs∧(x=y↔u=v):=by
 unfold Fs at h;cases hl:fC P 20 k with
 | none=>simp[hl] at h
 | some l =>
   simp only[hl] at h;obtain⟨h1,h2,h3⟩:=h
   cases kZ:dF P k with
   | true =>
     obtain⟨⟨cs,rfl⟩,ds,rfl⟩:=h2 kZ
     obtain⟨us,vs,e1,e2,e3⟩:=Dq _ _ _ h1
     simp only[AV.cells] at e1 e2;subst e1;subst e2;have eu:=Bq hu
     have ev:=Bq hv
     refine⟨l,us,vs,rfl,e3,by rw[eu];rfl,by rw[ev];rfl, ?_⟩
     rw[eu,ev];simp[GH]
   | false =>
     obtain⟨⟨a,rfl⟩,b,rfl⟩:=h3 kZ
     obtain⟨us,vs,e1,e2,e3⟩:=Dq _ _ _ h1
     have eu:=iK hu
     have ev:=iK hv
     subst eu;subst ev;have f1:us=[u]:=by
      cases us with
      | nil=>simp[AV.cells] at e1
      | cons c us=>simp[AV.cells] at e1;simp[e1.1,← e1.2]
     have f2:vs=[v]:=by
      cases vs with
      | nil=>simp[AV.cells] at e2
      | cons c vs=>simp[AV.cells] at e2;simp[e2.1,← e2.2]
     subst f1;subst f2;exact⟨l,_,_,rfl,e3,rfl,rfl,by simp⟩
theorem AT {k:Nat} {x:AV} {C:Ctx} {u:Value} {l:List Bool} {us:List Value} (hl:fC P 20 k=some l) (hu:cY C x u) (he:u=mk (dF P k) us) (hx:gF l us us):∀ {es:List (AV × AV)} {ms:List MapEntry},
 (∀p∈es,Fs P k x p.1)→Yo C es ms→aAw P k l us ms
 | [],[],_,_=>fun e h=>by simp at h
 | p :: es,m :: ms,hk,h=>by
   have ih:=AT hl hu he hx (es:=es) (ms:=ms) (fun q hq=>hk q (by simp[hq])) h.2.2
   intro e hem;rcases List.mem_cons.1 hem with rfl|hem
   ·obtain⟨l',us',vs,e1,e2,e3,e4,_⟩:=Qy (hk p (by simp)) hu h.1
    rw[hl] at e1;cases e1
    refine⟨vs,e4, ?_⟩
    have:us'=us:=by
     rw[he] at e3;have hlen1:=(lR _ _ _ hx).1
     have T3:=(lR _ _ _ e2).1
     cases kZ:dF P k with
     | true=>rw[kZ] at e3;simpa [mk] using e3.symm
     | false =>
       have h1:=oE 20 k l hl kZ
       obtain⟨a,rfl⟩:=List.length_eq_one_iff.1 (hlen1.trans h1)
       obtain⟨b,rfl⟩:=List.length_eq_one_iff.1 (T3.trans h1)
       rw[kZ] at e3;simpa [mk] using e3.symm
    rw[← this];exact e2
   ·exact ih e hem
 | [],_ :: _,_,h=>h.elim
 | _ :: _,[],_,h=>h.elim
theorem HX {k:Nat} {x:AV} {C:Ctx} {u:Value} (hu:cY C x u):∀ {es:List (AV × AV)} {ms:List MapEntry} (i:Nat),(∀p∈es,Fs P k x p.1)→Yo C es ms →
 (R3 es x=none∧yM u ms i=none)∨∃v y j,R3 es x=some v∧yM u ms i=some (i+j,y)∧cY C v y∧j<ms.length
 | [],[],i,_,_=>.inl ⟨rfl,rfl⟩
 | p :: es,m :: ms,i,hk,h=>by
   obtain⟨l',us',vs,e1,e2,e3,e4,e5⟩:=Qy (hk p (by simp)) hu h.1
   simp only[R3,yM];by_cases hq:x=p.1
   ·rw[if_pos hq.symm,if_pos (e5.1 hq)];exact .inr ⟨_,_,0,rfl,rfl,h.2.1,by simp⟩
   ·rw[if_neg (Ne.symm hq),if_neg (fun h'=>hq (e5.2 h'))]
    rcases HX hu (es:=es) (ms:=ms) (i+1) (fun q hq=>hk q (by simp[hq])) h.2.2 with ⟨h1,h2⟩|⟨v,y,j,h1,h2,h3,h4⟩
    ·exact .inl ⟨h1,h2⟩
    ·exact .inr ⟨v,y,j+1,h1,by rw[h2];congr 2;omega,h3,by simp;omega⟩
 | [],_ :: _,_,_,h=>h.elim
 | _ :: _,[],_,_,h=>h.elim
theorem HY {k:Nat} {x z:AV} {C:Ctx} {u y:Value} (hu:cY C x u) (hz:cY C z y):∀ {es:List (AV × AV)} {ms:List MapEntry} (i:Nat),(∀p∈es,Fs P k x p.1)→Yo C es ms →
 (yM u ms i=none∧∀c,Yo C (R4 es x z) (ms++[{ key:=u,val:=y,born:=c }])) ∨
 ∃v j,yM u ms i=some (i+j,v)∧(∃m,ms[j]? = some m∧m.key=u)∧Yo C (R4 es x z) (ms.modify j fun e=>{ e with key:=u,val:=y })
 | [],[],i,_,_=>.inl ⟨rfl,fun c=>⟨hu,hz,trivial⟩⟩
 | p :: es,m :: ms,i,hk,h=>by
   obtain⟨l',us',vs,e1,e2,e3,e4,e5⟩:=Qy (hk p (by simp)) hu h.1
   simp only[R4,yM];by_cases hq:x=p.1
   ·rw[if_pos hq.symm,if_pos (e5.1 hq)];exact .inr ⟨_,0,rfl,⟨m,rfl,(e5.1 hq).symm⟩,by simp[List.modify];exact⟨hu,hz,h.2.2⟩⟩
   ·rw[if_neg (Ne.symm hq),if_neg (fun h'=>hq (e5.2 h'))]
    rcases HY hu hz (es:=es) (ms:=ms) (i+1) (fun q hq=>hk q (by simp[hq])) h.2.2 with ⟨h1,h2⟩|⟨v,j,h1,h2,h3⟩
    ·exact .inl ⟨h1,fun c=>⟨h.1,h.2.1,h2 c⟩⟩
    ·exact .inr ⟨v,j+1,by rw[h1];congr 2;omega,by simpa using h2,by simp[List.modify_succ_cons];exact⟨h.1,h.2.1,h3⟩⟩
 | [],_ :: _,_,_,h=>h.elim
 | _ :: _,[],_,_,h=>h.elim
theorem Qz {T k:Nat} {z:AV} (h:Xo P T=some (k,z)):∃e l zv,P.underlying T=some (.map k e)∧fC P 20 k=some l∧Dk P l k=true ∧
 (∀w,(zeroValue e).run P w=.ok zv w)∧∀C:Ctx,cY C z zv:=by
 unfold Xo at h;split at h
 ·rename_i k' e hT
  split at h
  ·rename_i l z' hl hz
   split at h
   ·rename_i hm;simp only[Option.some.injEq,Prod.mk.injEq] at h;obtain⟨rfl,rfl⟩:=h
    unfold aE0 at hz;split at hz
    ·rename_i i hi;split at hz
     ·rename_i cs NN;split at hz
      ·rename_i Nb;simp only[Option.some.injEq] at hz;subst hz;refine⟨e,l,_,hT,hl,hm,fun w=>Cr w hi NN,fun C=>?_⟩
       have hc:=gD.vs C cs.toList (List.all_eq_true.1 Nb)
       exact .agg _ _ (by simp) (fun j x y hx hy=>hc.rel j x y hx (by simpa using hy)) (fun j y hy=>hc.one j y (by simpa using hy))
      ·cases hz
     ·rename_i y hy NN;split at hz
      ·simp only[Option.some.injEq] at hz;subst hz;exact⟨e,l,_,hT,hl,hm,fun w=>Cr w hi NN,fun C=>.v _⟩
      ·cases hz
     ·cases hz
    ·cases hz
   ·cases h
  ·cases h
 ·cases h
end
section
variable {P:Program} {h0:Nat→Obj→Prop} {w0:World} {F:Gw} {nt:Nat} {ρ:Nat→Nat→Value} {st:St} {a:Act} {w:World}
theorem XO (S:kY F h0 w0 nt ρ st a w) {T:Nat} {m x z:AV} {ok:Bool} {mv xv:Value} (h:Vj P st T m x ok=some z) (hm:cY (ctx h0 w0 ρ st w) m mv) (hx:cY (ctx h0 w0 ρ st w) x xv) :
 ∃r,(Instr.lookup T mv xv ok).run P w=.ok r w∧cY (ctx h0 w0 ρ st w) z r:=by
 unfold Vj at h;split at h
 ·rename_i s g;split at h
  ·rename_i es k zd he hi;split at h
   ·rename_i hk;obtain⟨e,l,zv,hT,hl,hmk,hz,hzr⟩:=Qz hi
    obtain⟨_,_,b,arr,clock,lD,_,hh,hml⟩:=S.sR s g _ he
    obtain⟨l',us,vs,e1,e2,e3,e4,_⟩:=Qy hk.1 hx hx
    rw[hl] at e1;cases e1
    have hvs:vs=us:=by
     rw[e3] at e4;have hlen:=lR _ _ _ e2
     cases kZ:dF P k with
     | true=>rw[kZ] at e4;simpa [mk] using e4.symm
     | false =>
       have h1:=oE 20 k l hl kZ
       obtain⟨p,rfl⟩:=List.length_eq_one_iff.1 (hlen.1.trans h1)
       obtain⟨q,rfl⟩:=List.length_eq_one_iff.1 (hlen.2.trans h1)
       rw[kZ] at e4;simpa [mk] using e4.symm
    subst hvs;have Qx:=AT hl hx e3 e2 hk.2 hml
    cases hm with
    | mp _ _ hg ho =>
      show ∃r,(Instr.lookup T (ρ s g) xv ok).run P w=.ok r w∧_
      rw[lD,e3];have hck:=Mo w hl hmk e2 arr.isEmpty
      have hfk:=Qw w hl hmk e2 Qx
      rcases HX hx 0 hk.2 hml with ⟨h1,h2⟩|⟨v,y,j,h1,h2,h3,_⟩
      ·rw[h1] at h;simp only[Option.some.injEq] at h;subst h;rw[e3] at h2;rw[h2] at hfk;refine⟨if ok=true then .tuple #[zv,.bool false] else zv,by
        simp[Instr.lookup,bC hT,MapKept.run_getObj_map hh,hck,hfk,hz w], ?_⟩
       cases ok
       ·exact hzr _
       ·exact .eG _ _ rfl fun i x y hx hy=>by
         match i with
         | 0=>simp at hx hy;subst hx;subst hy;exact hzr _
         | 1=>simp at hx hy;subst hx;subst hy;exact .v _
         | i+2=>simp at hx
      ·rw[h1] at h;simp only[Option.some.injEq] at h;subst h;rw[e3] at h2;rw[h2] at hfk;refine⟨if ok=true then .tuple #[y,.bool true] else y,by
        simp[Instr.lookup,bC hT,MapKept.run_getObj_map hh,hck,hfk], ?_⟩
       cases ok
       ·exact h3
       ·exact .eG _ _ rfl fun i x y hx hy=>by
         match i with
         | 0=>simp at hx hy;subst hx;subst hy;exact h3
         | 1=>simp at hx hy;subst hx;subst hy;exact .v _
         | i+2=>simp at hx
   ·cases h
  ·cases h
 ·cases h
theorem KB (S:kY F h0 w0 nt ρ st a w) {T s g:Nat} {m x y:AV} {e:nP} {mv xv yv:Value} (h:uA P st T m x y=some (s,g,e))
 (hm:cY (ctx h0 w0 ρ st w) m mv) (hx:cY (ctx h0 w0 ρ st w) x xv) (hy:cY (ctx h0 w0 ρ st w) y yv) :
 ∃w',(Instr.mapUpdate T mv xv yv).run P w=.ok () w'∧kY F h0 w0 nt ρ (st.jC s g (some e)) a w':=by
 unfold uA at h;split at h
 ·rename_i s' g'
  split at h
  ·rename_i es k zd he hi;split at h
   ·rename_i hk;obtain⟨hk,yR⟩:=hk
    simp only[Option.some.injEq,Prod.mk.injEq] at h;obtain⟨rfl,rfl,rfl⟩:=h
    obtain⟨e,l,zv,hT,hl,hmk,hz,hzr⟩:=Qz hi
    obtain⟨_,_,b,arr,clock,lD,xP,hh,hml⟩:=S.sR s' g' _ he
    obtain⟨l',us,vs,e1,e2,e3,e4,_⟩:=Qy hk.1 hx hx
    rw[hl] at e1;cases e1
    have hvs:vs=us:=by
     rw[e3] at e4;have hlen:=lR _ _ _ e2
     cases kZ:dF P k with
     | true=>rw[kZ] at e4;simpa [mk] using e4.symm
     | false =>
       have h1:=oE 20 k l hl kZ
       obtain⟨p,rfl⟩:=List.length_eq_one_iff.1 (hlen.1.trans h1)
       obtain⟨q,rfl⟩:=List.length_eq_one_iff.1 (hlen.2.trans h1)
       rw[kZ] at e4;simpa [mk] using e4.symm
    subst hvs;have Qx:=AT hl hx e3 e2 hk.2 hml
    clear e4
    subst e3;have oB:dI (ρ s' g')=some b:=by rw[lD];rfl
    have grown:∀o,w.grownBy { w with heap:=w.heap.setIfInBounds b o } (some b):=fun o=>⟨rfl,rfl,rfl,by simp,fun k _ hk=>by
     have fQ:b≠k:=fun e=>hk (by rw[e])
     simp[fQ]⟩
    cases hm with
    | mp _ _ hg ho =>
      show ∃w',(Instr.mapUpdate T (ρ s' g') _ yv).run P w=.ok () w'∧_
      have hck:=Mo w hl hmk e2 false
      have hfk:=Qw w hl hmk e2 Qx
      have bA:b<w.heap.size:=(Array.getElem?_eq_some_iff.1 hh).1
      rcases HY (z:=y) hx hy 0 hk.2 hml with ⟨h1,h2⟩|⟨v,j,h1,⟨m0,hm0,hmk0⟩,h3⟩
      ·rw[h1] at hfk;refine⟨_,by
        rw[lD];simp only[Instr.mapUpdate,Sem.run_bind,bC hT,MapKept.run_getObj_map hh,Result.andThen_ok,hck,hfk,MapKept.run_setObj_map _ hh];rfl,S.store he oB (grown _) fun C kk=>?_⟩
       refine⟨b,arr.push { key:=mk (dF P k) vs,val:=yv,born:=clock },clock+1,lD,xP,by simp[bA], ?_⟩
       have:=(h2 clock).le kk
       simpa using this
      ·rw[h1] at hfk;have yR:=J7 (P:=P) w (agg:=dF P k) e2 (oE 20 k l hl)
       have hm0':arr[j]? = some m0:=by simpa using hm0
       have hkey:((arr[0+j]?).map (·.key)).getD (mk (dF P k) vs)=mk (dF P k) vs:=by
        rw[Nat.zero_add,hm0'];simp[hmk0]
       refine⟨_,by
        rw[lD];simp only[Instr.mapUpdate,Sem.run_bind,bC hT,MapKept.run_getObj_map hh,Result.andThen_ok,hck,hfk,hkey,yR,MapKept.run_setObj_map _ hh];rfl,S.store he oB (grown _) fun C kk=>?_⟩
       refine⟨b,arr.modify (0+j) fun e=>{ e with key:=mk (dF P k) vs,val:=yv },clock,lD,xP,by simp[bA], ?_⟩
       have:=h3.le kk
       simpa [Array.toList_modify] using this
   ·cases h
  ·cases h
 ·cases h
end
end Go.Ab
end
section
namespace Go.Ab
open Classical
section
variable {P:Program} {h0:Nat→Obj→Prop} {w0:World} {F:Gw} {nt:Nat} {ρ:Nat→Nat→Value} {st:St} {a:Act} {w:World}
theorem QO (S:kY F h0 w0 nt ρ st a w) {T:Nat} {x z:AV} {lo hi:Option Operand} {u:Value} (h:dB P st T x lo hi=some z) (hu:cY (ctx h0 w0 ρ st w) x u) :
 ∃r,(Instr.sliceAt T u (lo.map a.eval) (hi.map a.eval) none).run P w=.ok r w∧cY (ctx h0 w0 ρ st w) z r:=by
 unfold dB at h;cases hs:dT P T with
 | none =>
   simp only[hs] at h;split at h
   ·rename_i n sz s g o ha;obtain⟨e,ei,hT,hi,rfl,fQ⟩:=Po ha
    cases he:st.heap s g with
    | none=>simp[he] at h
    | some en =>
      cases en with
      | cells es =>
        simp only[he,Option.some.injEq] at h;subst h;obtain⟨_,_,b1,arr,T1,lD,_⟩:=S.sR s g _ he
        cases hu with
        | ptr _ _ _ b hg hb =>
          refine⟨.slice (some ⟨b,o,none⟩) n n, ?_,.vw s g o n b n hg hb (Nat.le_refl _) (fun ho p n0 c0 hc=>by
           have h2:ρ s g=.slice p n0 c0:=hc
           rw[lD] at h2;cases h2)⟩
          simp[Instr.sliceAt,bC hT,Instr.sureAddr,Instr.sliceBounds,run_sizeOf w hi,lU]
      | _=>simp[he] at h
   ·cases h
 | some t =>
   obtain⟨e,sz,by_⟩:=t
   simp only[hs] at h;obtain⟨ei,ez,hT,Ct,DQ,rfl,DK,rfl,Bf⟩:=kF hs
   have hiv:∀(o:Option Operand) (n:Int) (k:IntKind) (i:Int),(match o with|some h=>st.ev h|none=>AV.v (.int .i64 n))=.v (.int k i) →
    (match o with|some h=>a.eval h|none=>Value.int .i64 n)=.int k i:=fun o n k i ho=>by
    cases o with
    | none=>simp only at ho ⊢;cases ho;rfl
    | some p =>
      simp only at ho ⊢
      have:=S.ev p
      rw[ho] at this;exact iK this
   have qE:∀(p:Option Addr) (n cap:Nat) (kh kl:IntKind) (H L:Int),n≤cap→(match hi with|some h=>a.eval h|none=>Value.int .i64 n)=.int kh H→(match lo with|some l=>a.eval l|none=>Value.int .i64 0)=.int kl L →
    0≤L→L≤H→H≤n →
    (Instr.sliceAt T (.slice p n cap) (lo.map a.eval) (hi.map a.eval) none).run P w=.ok (.slice (if cap=L.toNat then p else p.map (·.add (L.toNat * ei.size))) (H.toNat-L.toNat) (cap-L.toNat)) w:=by
    intro p n cap kh kl H L mZ hh hl l0 l1 l2;have b1:H≤(cap:Int):=by omega
    have b2:L≤((H.toNat:Nat):Int):=by omega
    have b3:0≤H:=by omega
    have b6:max H 0=H:=by omega
    cases hi with
    | none =>
      simp only[Value.int.injEq] at hh;obtain⟨rfl,rfl⟩:=hh
      cases lo with
      | none =>
        simp only[Value.int.injEq] at hl;obtain⟨rfl,rfl⟩:=hl
        simp[Instr.sliceAt,Instr.slice,Instr.sliceBounds,bC hT,run_sizeOf w Ct]
      | some l =>
        simp only at hl
        simp[Instr.sliceAt,Instr.slice,Instr.sliceBounds,Instr.sliceBound,asIntOf,bC hT,run_sizeOf w Ct,hl,l0,l1]
    | some h =>
      simp only at hh
      cases lo with
      | none =>
        simp only[Value.int.injEq] at hl;obtain⟨rfl,rfl⟩:=hl
        simp[Instr.sliceAt,Instr.slice,Instr.sliceBounds,Instr.sliceBound,asIntOf,bC hT,run_sizeOf w Ct,hh,b3,b1]
      | some l =>
        simp only at hl
        simp[Instr.sliceAt,Instr.slice,Instr.sliceBounds,Instr.sliceBound,asIntOf,bC hT,run_sizeOf w Ct,hh,hl,l0,b3,b1,b6,l1]
   cases x with
   | sl n cs =>
     simp only at h
     split at h
     ·rename_i kh H kl L e1 e2;split at h
      ·rename_i hc;obtain⟨c1,c2,c3,c4⟩:=hc
       simp only[Option.some.injEq] at h;subst h;have e1':=hiv hi n kh H e1
       have e2':=hiv lo 0 kl L e2
       have hHL:(H-L).toNat=H.toNat-L.toNat:=by omega
       cases hu with
       | IS n cap p mZ =>
         refine⟨_,qE p n cap kh kl H L mZ e1' e2' c1 c2 c3, ?_⟩
         rw[hHL];simp only[List.drop_nil,List.take_nil];exact .IS _ _ _ (by omega)
       | sl n cs b off cap arr T' fr mZ hb hle hr h1 =>
         refine⟨_,qE _ n cap kh kl H L mZ e1' e2' c1 c2 c3, ?_⟩
         rw[hHL];by_cases hm:cap=L.toNat
         ·have hz:H.toNat-L.toNat=0:=by omega
          rw[if_pos hm,hz];simp only[Nat.zero_mul,List.take_zero];exact .IS _ _ _ (by omega)
         ·rw[if_neg hm];simp only[Option.map_some,lU];have hbound:L.toNat * ei.size+(H.toNat-L.toNat) * ei.size≤cs.length:=by
           rw[c4,← Nat.add_mul];exact Nat.mul_le_mul_right _ (by omega)
          refine .sl _ _ b (off+L.toNat * ei.size) _ arr T' fr (by omega) hb (by simp;omega) (fun i x y hx hy=>?_) (fun i y Dr hy=>?_)
          ·rw[List.getElem?_take] at hx;split at hx
           ·rw[List.getElem?_drop] at hx;exact hr _ x y hx (by rw[← Nat.add_assoc];exact hy)
           ·cases hx
          ·simp only[List.length_take,List.length_drop] at Dr
           exact h1 (L.toNat * ei.size+i) y (by omega) (by rw[← Nat.add_assoc];exact hy)
      ·cases h
     ·cases h
   | v xv =>
     split at h
     ·rename_i heq;cases heq
     ·rename_i heq;cases heq
      split at h
      ·rename_i kh H kl L e1 e2;split at h
       ·rename_i hc;obtain⟨rfl,rfl⟩:=hc
        simp only[Option.some.injEq] at h;subst h;have:=iK hu
        subst this;have e1':=hiv hi 0 kh 0 e1
        have e2':=hiv lo 0 kl 0 e2
        refine⟨_,qE none 0 0 kh kl 0 0 (Nat.le_refl _) e1' e2' (by omega) (by omega) (by omega), ?_⟩
        simp
        exact .v _
       ·cases h
      ·cases h
     ·rename_i heq;cases heq
     ·rename_i heq;cases heq
     ·cases h
   | own s g =>
     simp only at h
     cases he:st.heap s g with
     | none=>simp[he] at h
     | some en =>
       cases en with
       | row e' tU n es =>
         simp only[he] at h;split at h
         ·rename_i kh H kl L e1 e2;split at h
          ·rename_i hc;obtain⟨c1,c2,c3⟩:=hc
           have e1':=hiv hi n kh H e1
           have e2':=hiv lo 0 kl L e2
           have hHL:(H-L).toNat=H.toNat-L.toNat:=by omega
           obtain⟨bA,_,xs,ho,Ac⟩:=S.sR s g _ he
           cases hu with
           | own _ _ hg h1 =>
             show ∃r,(Instr.sliceAt T (ρ s g) (lo.map a.eval) (hi.map a.eval) none).run P w=.ok r w∧_
             rcases ho.2 with ⟨p,lD,hn⟩|⟨b',cap,cur,lD,_,hh,Wu,_,_,ht,qP⟩
             ·rw[lD];subst hn;have hLH:L=H:=by omega
              rw[if_pos ⟨hLH,by omega⟩] at h
              simp only[Option.some.injEq] at h;subst h;have hz:H.toNat-L.toNat=0:=by omega
              refine⟨_,qE p 0 0 kh kl H L (Nat.le_refl _) e1' e2' c1 c2 c3, ?_⟩
              rw[hz];exact .IS _ _ _ (by omega)
             ·rw[lD];refine⟨_,qE _ n cap kh kl H L Wu e1' e2' c1 c2 c3, ?_⟩
              split at h
              ·rename_i hLH;simp only[Option.some.injEq] at h;subst h;have hz:H.toNat-L.toNat=0:=by omega
               rw[hz];exact .IS _ _ _ (by omega)
              ·rename_i hLH;simp only[Option.some.injEq] at h;subst h;rw[if_neg (by omega),hHL]
               simp only[Option.map_some,lU,Nat.zero_add];exact .vw s g _ _ b' _ hg (by show dI (ρ s g)=_;rw[lD,kI qP]) (by omega) (fun hz p n0 c0 hc=>by
                have h3:L.toNat=0:=(Nat.mul_eq_zero.1 hz).resolve_right (by omega)
                have h2:ρ s g=.slice p n0 c0:=hc
                rw[lD] at h2;simp only[Value.slice.injEq] at h2;omega)
          ·cases h
         ·cases h
       | _=>simp[he] at h
   | vw s g o k =>
     cases o with
     | succ o=>simp at h
     | zero =>
     simp only at h
     split at h
     ·rename_i e' tU n es ho' Hv he
      split at h
      ·rename_i kh H kl L e1 e2;split at h
       ·rename_i hc;obtain⟨c1,c2,c3⟩:=hc
        simp only[Option.some.injEq] at h;subst h;obtain⟨bA,_,xs,ho,Ac⟩:=S.sR s g _ he
        cases hu with
        | vw _ _ _ _ b cap hg hb mZ zW =>
          have oB:dI (ρ s g)=some b:=hb
          rcases ho.2 with ⟨p,lD,hn⟩|⟨b',DP,cur,lD,_,hh,Wu,_,_,ht,qP⟩
          ·rw[lD,pV] at oB;cases oB
          ·have xX:b'=b:=by rw[lD,kI qP] at oB;simpa using oB
           subst xX;have hcc:cap=DP:=zW rfl _ _ _ lD
           subst hcc;have f1:a.eval ho'=.int kh H:=by
            have:=S.ev ho'
            rw[e1] at this;exact iK this
           have f2:a.eval Hv=.int kl L:=by
            have:=S.ev Hv
            rw[e2] at this;exact iK this
           have b1:H≤(cap:Int):=by omega
           have b2:L≤((H.toNat:Nat):Int):=by omega
           have b3:0≤H:=by omega
           have b6:max H 0=H:=by omega
           have b7:¬cap=L.toNat:=by omega
           refine⟨.slice (some ⟨b',L.toNat * ei.size,none⟩) (H.toNat-L.toNat) (cap-L.toNat), ?_, ?_⟩
           ·simp[Instr.sliceAt,Instr.slice,Instr.sliceBounds,Instr.sliceBound,asIntOf,bC hT,run_sizeOf w Ct,f1,f2,c1,b3,b1,b6,b2,b7,lU,show L≤H by omega]
           ·rw[show (H-L).toNat=H.toNat-L.toNat by omega]
            exact .vw s g _ _ b' _ hg hb (by omega) (fun hz p n0 c0 hc=>by
             have h3:L.toNat=0:=(Nat.mul_eq_zero.1 hz).resolve_right (by omega)
             have h2:ρ s g=.slice p n0 c0:=hc
             rw[lD] at h2;simp only[Value.slice.injEq] at h2;omega)
       ·cases h
      ·cases h
     ·cases h
   | _=>first|(simp at h;done)|(cases h;done)
theorem KC (S:kY F h0 w0 nt ρ st a w) {T:Nat} {x z:AV} {lo:Option Operand} {hi mx:Operand} {u:Value} (h:Bo P st T x lo hi mx=some z) (hu:cY (ctx h0 w0 ρ st w) x u) :
 ∃r,(Instr.sliceAt T u (lo.map a.eval) (some (a.eval hi)) (some (a.eval mx))).run P w=.ok r w∧cY (ctx h0 w0 ρ st w) z r:=by
 unfold Bo at h;cases hs:dT P T with
 | none=>simp[hs] at h
 | some t =>
   obtain⟨e,sz,by_⟩:=t
   simp only[hs] at h;obtain⟨ei,ez,hT,Ct,DQ,rfl,DK,rfl,Bf⟩:=kF hs
   have qH:∀(o:Operand) (k:IntKind) (i:Int),st.ev o=.v (.int k i)→a.eval o=.int k i:=fun o k i ho=>by
    have:=S.ev o
    rw[ho] at this;exact iK this
   split at h
   ·rename_i kh H km M kl L e1 e2 e3;have f1:=qH _ _ _ e1
    have f2:=qH _ _ _ e2
    have qE:∀(p:Option Addr) (n cap:Nat),n≤cap→0≤L→L≤H→H=M→H≤n →
     (Instr.sliceAt T (.slice p n cap) (lo.map a.eval) (some (a.eval hi)) (some (a.eval mx))).run P w=.ok (.slice (if H.toNat=L.toNat then p else p.map (·.add (L.toNat * ei.size))) (H.toNat-L.toNat) (H.toNat-L.toNat)) w:=by
     intro p n cap mZ l0 l1 l2 l3;subst l2;have b1:H≤(cap:Int):=by omega
     have b2:L≤((H.toNat:Nat):Int):=by omega
     have b3:0≤H:=by omega
     have b4:H≤((H.toNat:Nat):Int):=by omega
     have b6:max H 0=H:=by omega
     cases lo with
     | none =>
       simp only[AV.v.injEq,Value.int.injEq] at e3;obtain⟨rfl,rfl⟩:=e3
       simp[Instr.sliceAt,Instr.slice,Instr.sliceBounds,Instr.sliceBound,asIntOf,bC hT,run_sizeOf w Ct,f1,f2,b3,b1,b4,b6]
     | some l =>
       simp only at e3
       have f3:=qH _ _ _ e3
       simp[Instr.sliceAt,Instr.slice,Instr.sliceBounds,Instr.sliceBound,asIntOf,bC hT,run_sizeOf w Ct,f1,f2,f3,l0,l1,b3,b1,b2,b4,b6]
    split at h
    ·rename_i n cs;split at h
     ·rename_i hc;obtain⟨c1,c2,c3,c4,c5⟩:=hc
      simp only[Option.some.injEq] at h;subst h;have hHL:(H-L).toNat=H.toNat-L.toNat:=by omega
      cases hu with
      | IS n cap p mZ =>
        refine⟨_,qE p n cap mZ c1 c2 c3 c4, ?_⟩
        rw[hHL];simp only[List.drop_nil,List.take_nil];exact .cl0 _ _
      | sl n cs b off cap arr T' fr mZ hb hle hr h1 =>
        refine⟨_,qE _ n cap mZ c1 c2 c3 c4, ?_⟩
        rw[hHL];by_cases hm:H.toNat=L.toNat
        ·have hz:H.toNat-L.toNat=0:=by omega
         rw[if_pos hm,hz];simp only[Nat.zero_mul,List.take_zero];exact .cl0 _ _
        ·rw[if_neg hm];simp only[Option.map_some,lU];have hbound:L.toNat * ei.size+(H.toNat-L.toNat) * ei.size≤cs.length:=by
          rw[c5,← Nat.add_mul];exact Nat.mul_le_mul_right _ (by omega)
         refine .cl _ _ b (off+L.toNat * ei.size) arr T' fr hb (by simp;omega) (fun i x y hx hy=>?_) (fun i y Dr hy=>?_)
         ·rw[List.getElem?_take] at hx;split at hx
          ·rw[List.getElem?_drop] at hx;exact hr _ x y hx (by rw[← Nat.add_assoc];exact hy)
          ·cases hx
         ·simp only[List.length_take,List.length_drop] at Dr
          exact h1 (L.toNat * ei.size+i) y (by omega) (by rw[← Nat.add_assoc];exact hy)
     ·cases h
    ·split at h
     ·rename_i hc;obtain⟨c1,c2,c3⟩:=hc
      simp only[Option.some.injEq] at h;subst h;have:=iK hu
      subst this;refine⟨_,qE none 0 0 (Nat.le_refl _) (by omega) (by omega) (by omega) (by omega), ?_⟩
      subst c2;simp
      exact .v _
     ·cases h
    ·rename_i s g;cases he:st.heap s g with
     | none=>simp[he] at h
     | some en =>
       cases en with
       | row e' tU n es =>
         simp only[he] at h;split at h
         ·rename_i hc;obtain⟨c1,c2,c3,c4⟩:=hc
          simp only[Option.some.injEq] at h;subst h;obtain⟨bA,_,xs,ho,Ac⟩:=S.sR s g _ he
          have hrun3:∀(p:Option Addr) (cap:Nat),n≤cap→∃q,(Instr.sliceAt T (.slice p n cap) (lo.map a.eval) (some (a.eval hi)) (some (a.eval mx))).run P w=.ok (.slice q (H.toNat-L.toNat) (M.toNat-L.toNat)) w:=by
           intro p cap mZ;have b1:M≤(cap:Int):=by omega
           have b2:L≤((H.toNat:Nat):Int):=by omega
           have b3:0≤H:=by omega
           have b4:H≤((M.toNat:Nat):Int):=by omega
           have b5:0≤M:=by omega
           have b6:max M 0=M:=by omega
           have b7:max H 0=H:=by omega
           cases lo with
           | none =>
             simp only[AV.v.injEq,Value.int.injEq] at e3;obtain⟨rfl,rfl⟩:=e3
             exact⟨_,by simp[Instr.sliceAt,Instr.slice,Instr.sliceBounds,Instr.sliceBound,asIntOf,bC hT,run_sizeOf w Ct,f1,f2,b3,b1,b4,b5,b6,b7,c3]<;>rfl⟩
           | some l =>
             simp only at e3
             have f3:=qH _ _ _ e3
             exact⟨_,by simp[Instr.sliceAt,Instr.slice,Instr.sliceBounds,Instr.sliceBound,asIntOf,bC hT,run_sizeOf w Ct,f1,f2,f3,c1,c2,c3,b3,b1,b2,b4,b5,b6,b7]<;>rfl⟩
          cases hu with
          | own _ _ hg h1 =>
            show ∃r,(Instr.sliceAt T (ρ s g) _ _ _).run P w=.ok r w∧_
            have VA:∃p cap,ρ s g=.slice p n cap∧n≤cap:=by
             rcases ho.2 with ⟨p,lD,hn⟩|⟨b',cap,cur,lD,_,hh,Wu,_⟩
             ·exact⟨p,0,by rw[lD,hn],by omega⟩
             ·exact⟨_,cap,lD,Wu⟩
            obtain⟨p,cap,lD,Wu⟩:=VA
            rw[lD];obtain⟨q,hq⟩:=hrun3 p cap Wu
            exact⟨_,hq,by rw[show (H-L).toNat=H.toNat-L.toNat by omega];exact .IS _ _ _ (by omega)⟩
         ·cases h
       | _=>simp[he] at h
    ·cases h
   ·cases h
theorem aAy {C:Ctx} {s g off:Nat} {v:Value} (h:cY C (.ptr s g off) v):∃b off,v=.pointer (some ⟨b,off,none⟩):=by
 cases h;exact⟨_,_,rfl⟩
theorem aDx {C:Ctx} {cs:List AV} {o:Nat} {v:Value} (h:cY C (.ip cs o) v):∃b off,v=.pointer (some ⟨b,off,none⟩):=by
 cases h;exact⟨_,_,rfl⟩
theorem aAz {C:Ctx} {vs:List AV} {v:Value} (h:cY C (.eG vs) v):∃ar,v=.tuple ar∧vs.length=ar.size∧∀(i:Nat) (x:AV) (y:Value),vs[i]? = some x→ar[i]? = some y→cY C x y:=by
 cases h with
 | eG cs a hl hr=>exact⟨a,rfl,hl,hr⟩
theorem QP (S:kY F h0 w0 nt ρ st a w) {o:Oper} {x:AV} (h:iX P st o.op=some x) :
 ∃v,(execOp a.eval o).run P w=.ok (.value v) w∧cY (ctx h0 w0 ρ st w) x v:=by
 cases qH:o.op with
 | move y=>rw[qH] at h;simp[iX] at h;subst h;exact⟨_,by simp[execOp,qH],S.ev y⟩
 | assign y=>rw[qH] at h;simp[iX] at h;subst h;exact⟨_,by simp[execOp,qH],S.ev y⟩
 | pick c y z =>
   rw[qH] at h;simp only[iX] at h;split at h
   ·rename_i t hc;simp only[Option.some.injEq] at h;subst h;have:=S.ev c
    rw[hc] at this;have:=iK this
    refine⟨if t=true then a.eval y else a.eval z,by simp[execOp,qH,this,asBool], ?_⟩
    cases t
    ·exact S.ev z
    ·exact S.ev y
   ·cases h
 | binOp op T y z yT =>
   rw[qH] at h;simp only[iX] at h;obtain⟨r,hr,fU⟩:=VH (w:=w) y z h (S.ev y) (S.ev z)
   exact⟨r,by simp only[execOp,qH];rw[dL hr];rfl,fU⟩
 | unOp op T y =>
   rw[qH] at h;simp only[iX] at h;obtain⟨r,hr,fU⟩:=E3 (P:=P) (w:=w) h (S.ev y)
   exact⟨r,by simp only[execOp,qH];rw[dL hr];rfl,fU⟩
 | convert src dst y =>
   rw[qH] at h;simp only[iX] at h;split at h
   ·rename_i k' n k ks hy hk hks
    simp only[Option.some.injEq] at h;subst h;have:=S.ev y
    rw[hy] at this;have hv:=iK this
    have hu:∀ {t:Nat} {k:IntKind},intKind P t=some k→P.underlying t=some (.int k):=fun {t k} hk=>by
     unfold intKind at hk;split at hk
     ·rename_i hu;cases hk;exact hu
     ·cases hk
    refine⟨_, ?_,.v _⟩
    simp[execOp,qH,hv,convert,bC (hu hk),bC (hu hks),Conv.intToInt]
   ·cases h
 | nilCheck y =>
   rw[qH] at h;simp only[iX] at h;split at h
   ·rename_i s g off hy;simp only[Option.some.injEq] at h;subst h;have hr:=S.ev y
    rw[hy] at hr;obtain⟨b,off',hv⟩:=aAy hr
    exact⟨a.eval y,by simp[execOp,qH,hv],hr⟩
   ·rename_i cs o hy;simp only[Option.some.injEq] at h;subst h;have hr:=S.ev y
    rw[hy] at hr;obtain⟨b,off',hv⟩:=aDx hr
    exact⟨a.eval y,by simp[execOp,qH,hv],hr⟩
   ·cases h
 | fieldAddr T y f =>
   rw[qH] at h;simp only[iX] at h;split at h
   ·rename_i k hf;obtain⟨r,hr,fU⟩:=Wm (w:=w) hf h (S.ev y)
    exact⟨r,by simp only[execOp,qH];rw[dL hr];rfl,fU⟩
   ·cases h
 | field T y f =>
   rw[qH] at h;simp only[iX] at h;unfold Cq at h;split at h
   ·rename_i cs hy;have hr:=S.ev y
    rw[hy] at hr;obtain⟨u,hu⟩:∃u,a.eval y=u:=⟨_,rfl⟩
    rw[hu] at hr;cases hr with
    | agg _ ar hl fU h1 =>
      have key:∀off b k,fieldInfo P T f=some (off,b,k)→∃fs fd i d,P.underlying T=some (.struct fs)∧fs[f]? = some fd∧fd.offset=off∧P.info? fd.type=some i∧P.underlying fd.type=some d∧dF P fd.type=b∧i.size=k∧(b=true∨k=1):=fun off b k hf=>by
       unfold fieldInfo at hf;split at hf
       ·rename_i fs hT;split at hf
        ·rename_i fd hfd;split at hf
         ·rename_i b' k' hld
          split at hf
          ·rename_i hc;simp only[Option.some.injEq,Prod.mk.injEq] at hf;obtain⟨rfl,rfl,rfl⟩:=hf
           obtain⟨i,d,hi,hd,kZ,hk⟩:=Br hld
           exact⟨fs,fd,i,d,hT,hfd,rfl,hi,hd,kZ,hk,hc⟩
          ·cases hf
         ·cases hf
        ·cases hf
       ·cases hf
      split at h
      ·rename_i off k hf;obtain⟨fs,fd,i,d,hT,hfd,rfl,hi,hd,kZ,rfl,_⟩:=key _ _ _ hf
       split at h
       ·rename_i hle;simp only[Option.some.injEq] at h;subst h;have hp:=Ia w hd hi ar.toList fd.offset (by rw[kZ];simp) (by simp;omega)
        rw[kZ] at hp;simp only[mk,if_true,Array.toArray_toList] at hp;refine⟨_,by
         simp only[execOp,qH,hu];rw[dL (show (Instr.field T (Value.agg ar) f).run P w=.ok _ w by
          simp only[Instr.field,Sem.run_bind,bC hT,Result.andThen_ok,hfd,asAgg,Sem.run_pure];exact hp)]
         rfl,.agg _ _ (by simp[hl]) (fun j x z hx hz=>?_) fun j z hz=>?_⟩
        ·rw[List.getElem?_take] at hx;split at hx
         ·rename_i hj;rw[List.getElem?_drop] at hx;refine fU _ x z hx ?_
          simpa [hj,List.getElem?_take,List.getElem?_drop] using hz
         ·cases hx
        ·have hz':ar[fd.offset+j]? = some z:=by
          simp only[List.getElem?_toArray,List.getElem?_take,List.getElem?_drop] at hz;split at hz
          ·simpa using hz
          ·cases hz
         exact h1 _ z hz'
       ·cases h
      ·rename_i off k hf;obtain⟨fs,fd,i,d,hT,hfd,rfl,hi,hd,kZ,rfl,hk⟩:=key _ _ _ hf
       have hk1:i.size=1:=by simpa using hk
       have bA:fd.offset<cs.length:=(List.getElem?_eq_some_iff.1 h).1
       have hp:=Ia w hd hi ar.toList fd.offset (fun _=>hk1) (by simp;omega)
       rw[kZ] at hp;simp only[mk,Bool.false_eq_true,if_false,Array.toArray_toList] at hp;refine⟨_,by
        simp only[execOp,qH,hu];rw[dL (show (Instr.field T (Value.agg ar) f).run P w=.ok _ w by
         simp only[Instr.field,Sem.run_bind,bC hT,Result.andThen_ok,hfd,asAgg,Sem.run_pure];exact hp)]
        rfl, ?_⟩
       refine fU fd.offset x _ h ?_
       have:fd.offset<ar.size:=by omega
       rw[hk1,List.take_one];simp[List.head?_drop,this]
      ·cases h
   ·cases h
 | indexAddr T y i =>
   rw[qH] at h;simp only[iX] at h;obtain⟨r,hr,fU⟩:=Wn S h (S.ev y) (S.ev i)
   exact⟨r,by simp only[execOp,qH];rw[dL hr];rfl,fU⟩
 | load T y =>
   rw[qH] at h;simp only[iX] at h;cases hra:qO st (st.ev y) with
   | none=>simp[hra,cT] at h
   | some cs =>
     simp only[hra,cT] at h;obtain⟨r,hr,fU⟩:=Ys S hra h (S.ev y)
     exact⟨r,by simp only[execOp,qH];rw[dL hr];rfl,fU⟩
 | extract t i =>
   rw[qH] at h;simp only[iX] at h;split at h
   ·rename_i vs ht;have hr:=S.ev t
    rw[ht] at hr;obtain⟨ar,hv,hl,fU⟩:=aAz hr
    have hi:i<vs.length:=(List.getElem?_eq_some_iff.1 h).1
    have Dr:i<ar.size:=by omega
    refine⟨ar[i], ?_,fU i x ar[i] h (by simp[Dr])⟩
    simp[execOp,qH,hv,Instr.extract,Dr]
   ·cases h
 | build T parts =>
   rw[qH] at h;simp only[iX] at h;obtain⟨r,hr,fU⟩:=NM S h
   exact⟨r,by simp only[execOp,qH];rw[dL hr];rfl,fU⟩
 | slice T y lo hi mx =>
   rw[qH] at h;cases mx with
   | some m =>
     cases hi with
     | none=>simp[iX] at h
     | some hh =>
       simp only[iX] at h;obtain⟨r,hr,fU⟩:=KC S h (S.ev y)
       exact⟨r,by simp only[execOp,qH,Option.map_some];rw[dL hr];rfl,fU⟩
   | none =>
     simp only[iX] at h;obtain⟨r,hr,fU⟩:=QO S h (S.ev y)
     exact⟨r,by simp only[execOp,qH,Option.map_none];rw[dL hr];rfl,fU⟩
 | lookup T y i ok =>
   rw[qH] at h;simp only[iX] at h;obtain⟨r,hr,fU⟩:=XO S h (S.ev y) (S.ev i)
   exact⟨r,by simp only[execOp,qH];rw[dL hr];rfl,fU⟩
 | makeFunc fn first captured =>
   rw[qH] at h;cases fn with
   | func f =>
     simp only[iX] at h;split at h
     ·rename_i hf;subst hf;simp only[Option.some.injEq] at h;subst h;have fU:lQ (ctx h0 w0 ρ st w) (captured.toList.map st.ev) (captured.toList.map a.eval):=lQ.map _ _ _ fun p _=>S.ev p
      refine⟨.func (.func f) #[] (captured.map a.eval), ?_,.rW f _ _ (by simp) fun i x y hx hy=>fU.rel i x y hx (by simpa using hy)⟩
      simp[execOp,qH,Instr.makeFunc]
     ·cases h
   | _=>simp[iX] at h
 | _=>rw[qH] at h;simp[iX] at h
end
end Go.Ab
end
section
namespace Go.Ab
open Classical
theorem cY.flat {C D:Ctx} {x:AV} {v:Value} (hf:Flat x) (hr:cY C x v) (hh:∀b o,C.h b o→D.h b o):cY D x v:=by
 induction hr with
 | v x=>exact .v x
 | agg cs a hl _ h1 ih=>cases hf with|agg _ h=>exact .agg cs a hl (fun i x y hx hy=>ih i x y hx hy (h x (List.mem_of_getElem? hx))) h1
 | IS n cap p mZ=>exact .IS n cap p mZ
 | sl n cs b off cap arr T fr mZ hb hle _ h1 ih=>cases hf with|sl _ _ h=>exact .sl n cs b off cap arr T fr mZ (hh _ _ hb) hle (fun i x y hx hy=>ih i x y hx hy (h x (List.mem_of_getElem? hx))) h1
 | cl0 n p=>exact .cl0 n p
 | cl n cs b off arr T fr hb hle _ h1 ih=>cases hf with|cl _ _ h=>exact .cl n cs b off arr T fr (hh _ _ hb) hle (fun i x y hx hy=>ih i x y hx hy (h x (List.mem_of_getElem? hx))) h1
 | ip cs o b off arr T fr hb hle _ h1 ih=>cases hf with|ip _ _ h=>exact .ip cs o b off arr T fr (hh _ _ hb) hle (fun i x y hx hy=>ih i x y hx hy (h x (List.mem_of_getElem? hx))) h1
 | ptr=>cases hf
 | own=>cases hf
 | vw=>cases hf
 | mp=>cases hf
 | rW f cs a hl _ ih=>cases hf with|rW _ _ h=>exact .rW f cs a hl (fun i x y hx hy=>ih i x y hx hy (h x (List.mem_of_getElem? hx)))
 | eG cs a hl _ ih=>cases hf with|eG _ h=>exact .eG cs a hl (fun i x y hx hy=>ih i x y hx hy (h x (List.mem_of_getElem? hx)))
theorem cY.Ra {C D:Ctx} {x:AV} {v:Value} (hf:iD x) (hr:cY C x v):cY D x v:=by
 induction hr with
 | v x=>exact .v x
 | agg cs a hl _ h1 ih=>cases hf with|agg _ h=>exact .agg cs a hl (fun i x y hx hy=>ih i x y hx hy (h x (List.mem_of_getElem? hx))) h1
 | eG cs a hl _ ih=>cases hf with|eG _ h=>exact .eG cs a hl (fun i x y hx hy=>ih i x y hx hy (h x (List.mem_of_getElem? hx)))
 | _=>cases hf
def bare (h:Nat→Obj→Prop):Ctx:=⟨h,fun _ _=>undef,fun _=>0⟩
inductive Ty:AV→Prop
 | v (x:Value):Ty (.v x)
 | agg (cs:List AV) (h:∀x∈cs,Ty x):Ty (.agg cs)
 | eG (cs:List AV) (h:∀x∈cs,Ty x):Ty (.eG cs)
 | own (s g:Nat):Ty (.own s g)
theorem iD.aDy {x:AV} (h:iD x):Ty x:=by
 induction h with
 | v x=>exact .v x
 | agg cs _ ih=>exact .agg cs ih
 | eG cs _ ih=>exact .eG cs ih
theorem cY.aDy {C D:Ctx} {x:AV} {v:Value} (hf:Ty x) (hr:cY C x v) (hc:∀s,C.aU s≤D.aU s) (lD:∀s g,g<C.aU s→D.ρ s g=C.ρ s g):cY D x v:=by
 induction hr with
 | v x=>exact .v x
 | agg cs a hl _ h1 ih=>cases hf with|agg _ h=>exact .agg cs a hl (fun i x y hx hy=>ih i x y hx hy (h x (List.mem_of_getElem? hx))) h1
 | eG cs a hl _ ih=>cases hf with|eG _ h=>exact .eG cs a hl (fun i x y hx hy=>ih i x y hx hy (h x (List.mem_of_getElem? hx)))
 | own s g hg ho=>rw[← lD s g hg];exact .own s g (Nat.lt_of_lt_of_le hg (hc s)) (by rw[lD s g hg];exact ho)
 | _=>cases hf
def newHs (h0:Nat→Obj→Prop) (w w':World) (vs:List Value):Nat→Obj→Prop :=
 fun b o=>w'.heap[b]? = some o∧(b<w.heap.size→h0 b o)∧∀x∈vs,dI x≠some b
def KD (h0:Nat→Obj→Prop) (w w':World) (r:AV) (v:Value):Prop :=
 ∃vs:List Value,(∀x∈vs,x.oneCell'=true)∧(∀(i j:Nat) (x y:Value) (b:Nat),vs[i]? = some x→vs[j]? = some y→dI x=some b→dI y=some b→i=j) ∧
  (∀x∈vs,∀b,dI x=some b→w.heap.size≤b)∧(∀d c,(l6 d c r).2.length=vs.length) ∧
  ∀(D:Ctx) (d c:Nat),(∀b o,newHs h0 w w' vs b o→D.h b o)→(∀(i:Nat) (x:Value),vs[i]? = some x→c+i<D.aU d∧D.ρ d (c+i)=x) →
   cY D (l6 d c r).1 v∧∀(i:Nat) (e:nP) (x:Value),(l6 d c r).2[i]? = some e→vs[i]? = some x→nG D w' w.heap.size x e
def Tw (P:Program) (g:Nat) (xs:List AV) (r:AV):Prop :=
 ∀(w:World) (h0:Nat→Obj→Prop) (vs:Array Value),(∀b o,h0 b o→w.heap[b]? = some o)→lQ (bare h0) xs vs.toList →
  Calls P g vs w fun e w'=>∃v,e=.returned v∧KD h0 w w' r v∧w.grownBy w' none
def XP (P:Program) (g e sz n:Nat) (cs xs:List AV) (r:AV):Prop :=
 ∀(w:World) (h0:Nat→Obj→Prop) (v0:Value) (ys:List Value) (vs:Array Value),(∀b o,h0 b o→w.heap[b]? = some o)→(∀b o,h0 b o→dI v0≠some b)→oD w 0 e sz v0 n ys→gD (bare h0) cs ys →
  lQ (bare h0) xs vs.toList→Calls P g (#[v0]++vs) w fun en w'=>∃v,en=.returned v∧w.grownBy w' (dI v0) ∧
   match r with
   | .uniq e' tU n' Fq=>∃zs,oD w' 0 e' tU v n' zs∧gD (bare h0) Fq zs∧∀b,dI v=some b→dI v0=some b∨w.heap.size≤b
   | .eG [.uniq e' tU n' Fq]=>v=.tuple #[]∧∃zs,oD w' 0 e' tU v0 n' zs∧gD (bare h0) Fq zs
   | _=>False
def Jd (P:Program) (g:Nat) (xs:List AV) (r:AV):Prop :=
 match xs with
 | .uniq e sz n cs :: rest=>XP P g e sz n cs rest r
 | xs=>Tw P g xs r
def Dd (P : Program) (g : Nat) : Prop := ∃ fn, P.funcs[g]? = some fn ∧ (fn.name == "runtime.NumGoroutine") = false ∧ fn.body.isSome = true
def rA (P:Program) (call:Nat→List AV→Option AV):Prop:=∀g xs r,call g xs=some r→Dd P g∧Jd P g xs r
theorem KE {f:Nat→AV→AV × List nP}:∀(xs:List AV) (c:Nat),(∀x∈xs,∀c,f c x=(x,[]))→pM f c xs=(xs,[])
 | [],c,_=>rfl
 | x :: xs,c,h=>by
   simp only[pM,h x (by simp),List.length_nil,Nat.add_zero,KE xs c fun y hy=>h y (by simp[hy]),List.nil_append]
theorem Ks {x:AV} (h:Flat x) (d c:Nat):xZ d c x=(x,[]):=by cases h<;>rfl
theorem HZ {x:AV} (h:Flat x) (d c:Nat):Wk d c x=(x,[]):=by
 cases h with
 | agg cs h=>simp only[Wk,KE (f:=xZ d) cs c fun x hx c=>Ks (h x hx) d c]
 | _=>rfl
theorem Jf {x:AV} (h:Flat x) (d c:Nat):l6 d c x=(x,[]):=by
 cases h with
 | eG cs h=>simp only[l6,KE (f:=Wk d) cs c fun x hx c=>HZ (h x hx) d c]
 | agg cs h=>exact HZ (.agg cs h) d c
 | _=>rfl
theorem Tz {h0:Nat→Obj→Prop} {w w':World} {r:AV} {v:Value} (hf:Flat r) (h:cY (bare (newHs h0 w w' [])) r v):KD h0 w w' r v :=
 ⟨[],by simp,by simp,by simp,fun d c=>by rw[Jf hf];rfl,fun D d c hD _=>by
  rw[Jf hf];exact⟨h.flat hf hD,by simp⟩⟩
theorem nG.base {C:Ctx} {w:World} {b b':Nat} {v:Value} {e:nP} (h:nG C w b v e) (hb:b'≤b):nG C w b' v e:=by
 cases e with
 | cells cs=>obtain⟨k,arr,T,h1,h2,h3⟩:=h;exact⟨k,arr,T,h1,Nat.le_trans hb h2,h3⟩
 | row e sz n cs=>obtain⟨xs,ho,hc⟩:=h;exact⟨xs,zX ho hb,hc⟩
 | map es=>obtain⟨k,arr,T,h1,h2,h3⟩:=h;exact⟨k,arr,T,h1,Nat.le_trans hb h2,h3⟩
theorem Rb {w:World} {b b' e sz n:Nat} {v:Value} {xs:List Value} (h:oD w b e sz v n xs) (hb:∀k,dI v=some k→b'≤k):oD w b' e sz v n xs:=by
 refine⟨h.1, ?_⟩
 rcases h.2 with h|⟨g,cap,cur,rfl,h1,h2,h3,h4,h5,h6,hc⟩
 ·exact .inl h
 ·exact .inr ⟨g,cap,cur,rfl,hb g (kI hc),h2,h3,h4,h5,h6,hc⟩
theorem jJ {α:Type}:∀(l:List (Option α)) (r:List α),cM l=some r→l=r.map some
 | [],r,h=>by simp[cM] at h;subst h;rfl
 | none :: l,r,h=>by simp[cM] at h
 | some x :: l,r,h=>by
   simp only[cM,Option.map_eq_some_iff] at h;obtain⟨r',h',rfl⟩:=h
   rw[jJ l r' h'];rfl
section
variable {P:Program} {h0:Nat→Obj→Prop} {w0:World} {F:Gw} {nt:Nat} {ρ:Nat→Nat→Value} {st:St} {a:Act} {w:World}
def Ej (h0:Nat→Obj→Prop) (w0 w:World):Nat→Obj→Prop:=fun b o=>w.heap[b]? = some o∧(b<w0.heap.size→h0 b o)
theorem Gk {D:Ctx} {base e sz n:Nat} {v:Value} {xs:List Value} {cs:List AV} (hD:∀b o,dI v=some b→base≤b→w.heap[b]? = some o→D.h b o) (h:oD w base e sz v n xs) (hc:gD D cs xs):cY D (.sl n cs) v:=by
 rcases h.2 with ⟨p,rfl,hn⟩|⟨g,cap,cur,rfl,hb,hg,Wu,_,KF,ht,qP⟩
 ·subst hn;have:xs.length=0:=by rw[h.1];simp
  have:=hc.len
  have hnil:=List.length_eq_zero_iff.1 (show cs.length=0 by omega)
  subst hnil;exact .IS 0 0 p (by omega)
 ·have hl:=hc.len
  have hx:=h.1
  have hle:n * sz≤cap * sz:=Nat.mul_le_mul_right _ Wu
  refine .sl n cs g 0 cap cur e (0,0) Wu (hD g _ (kI qP) hb hg) (by omega) (fun i x y Kn hy=>?_) (fun i y hi hy=>?_)
  ·have hi:i<cs.length:=(List.getElem?_eq_some_iff.1 Kn).1
   refine hc.rel i x y Kn ?_
   rw[← ht,List.getElem?_take,if_pos (by omega)]
   simpa using hy
  ·refine hc.one i y ?_
   rw[← ht,List.getElem?_take,if_pos (by omega)]
   simpa using hy
theorem gD.flat {C D:Ctx} {cs:List AV} {ys:List Value} (h:gD C cs ys) (hf:∀c∈cs,Flat c) (hh:∀b o,C.h b o→D.h b o):gD D cs ys :=
 ⟨h.len,fun i x y hx hy=>(h.rel i x y hx hy).flat (hf x (List.mem_of_getElem? hx)) hh,h.one⟩
theorem Ek (b:Nat) (o:Obj) (h:(ctx h0 w0 ρ st w).h b o):(bare (Ej h0 w0 w)).h b o:=⟨h.1,h.2.1⟩
theorem aFR (S:kY F h0 w0 nt ρ st a w) {s g o n e sz N:Nat} {cs:List AV} {v:Value} (he:st.heap s g=some (.row e sz N cs)) (hf:∀c∈cs,Flat c) (hle:o+n * sz≤cs.length) (hu:cY (ctx h0 w0 ρ st w) (.vw s g o n) v):cY (bare (Ej h0 w0 w)) (.sl n ((cs.drop o).take (n * sz))) v:=by
 obtain⟨_,ho1,xs,ho,hc⟩:=S.sR s g _ he
 cases hu with
 | vw _ _ _ _ b cap hg hb mZ _ =>
   change dI (ρ s g)=some b at hb
   rcases ho.2 with ⟨p,lD,hn⟩|⟨b',DP,cur,lD,xX,hh,_,_,_,ht,qP⟩
   ·exfalso
    rw[lD] at hb;cases p<;>cases hb
   ·rw[lD,kI qP] at hb;simp only[Option.some.injEq] at hb;subst hb;have hc':=hc.flat (D:=bare (Ej h0 w0 w)) hf Ek
    have hl:=hc.len
    have hxl:xs.length≤cur.size:=by rw[← ht];simp;omega
    have J8:∀i,i<n * sz→cur[o+i]? = xs[o+i]?:=fun i hi=>by
     rw[← ht,List.getElem?_take,if_pos (by rw[← ho.1];omega)]
     simp
    refine .sl _ _ b' o cap cur e (0,0) mZ ⟨hh,fun bA=>by omega⟩ (by simp;omega) (fun i x y hx hy=>?_) (fun i y hi hy=>?_)
    ·rw[List.getElem?_take] at hx;split at hx
     ·rename_i hi;rw[List.getElem?_drop] at hx;rw[J8 i hi] at hy;exact hc'.rel _ x y hx hy
     ·cases hx
    ·simp only[List.length_take,List.length_drop] at hi;rw[J8 i (by omega)] at hy
     exact hc.one _ y hy
theorem QQ (S:kY F h0 w0 nt ρ st a w) {x y:AV} {v:Value} (hu:cY (ctx h0 w0 ρ st w) x v) (h:wW st x=some y):cY (bare (Ej h0 w0 w)) y v:=by
 unfold wW at h;split at h
 ·rename_i hf;simp only[Option.some.injEq] at h;subst h;exact hu.flat hf Ek
 ·split at h
  ·split at h
   ·rename_i e sz n cs he;split at h
    ·rename_i hf;simp only[Option.some.injEq] at h;subst h;obtain⟨_,ho1,xs,ho,hc⟩:=S.sR _ _ _ he
     cases hu with
     | own s g hg h1=>exact Gk (fun b o _ hb DO=>⟨DO,fun bA=>by omega⟩) ho (hc.flat hf Ek)
    ·cases h
   ·cases h
  ·rename_i s g o n _;split at h
   ·rename_i e sz N cs he;split at h
    ·rename_i hf;obtain⟨hf,hle⟩:=hf
     simp only[Option.some.injEq] at h;subst h;exact aFR S he hf hle hu
    ·cases h
   ·cases h
  ·cases h
theorem XQ {x y:AV} (h:wW st x=some y):Flat y:=by
 unfold wW at h;split at h
 ·rename_i hf;simp only[Option.some.injEq] at h;subst h;exact hf
 ·split at h
  ·split at h
   ·split at h
    ·rename_i hf;simp only[Option.some.injEq] at h;subst h;exact .sl _ _ hf
    ·cases h
   ·cases h
  ·split at h
   ·split at h
    ·rename_i hf;simp only[Option.some.injEq] at h;subst h;exact .sl _ _ fun c hc=>hf.1 c (List.mem_of_mem_drop (List.mem_of_mem_take hc))
    ·cases h
   ·cases h
  ·cases h
theorem xQ (S:kY F h0 w0 nt ρ st a w) {x y:AV} {v:Value} (hu:cY (ctx h0 w0 ρ st w) x v) (h:cJ st x=some y):cY (bare (Ej h0 w0 w)) y v∧(v.oneCell'=true∨y=x):=by
 unfold cJ at h;split at h
 ·rename_i hf;simp only[Option.some.injEq] at h;subst h;exact⟨hu.flat hf Ek,.inr rfl⟩
 ·split at h
  ·rename_i s g _;split at h
   ·rename_i e sz n cs he;split at h
    ·rename_i hf;simp only[Option.some.injEq] at h;subst h;obtain⟨_,ho1,xs,ho,hc⟩:=S.sR s g _ he
     cases hu with
     | own s g hg h1=>exact⟨Gk (fun b o _ hb DO=>⟨DO,fun bA=>by omega⟩) ho (hc.flat hf Ek),.inl h1⟩
    ·cases h
   ·cases h
  ·rename_i s g o n _;split at h
   ·rename_i e sz N cs he;split at h
    ·rename_i hf;obtain⟨hf,hle⟩:=hf
     simp only[Option.some.injEq] at h;subst h;cases hu with
     | vw _ _ _ _ b cap hg hb mZ zW=>exact⟨aFR S he hf hle (.vw s g o n b cap hg hb mZ zW),.inl rfl⟩
    ·cases h
   ·cases h
  ·rename_i s g off _;split at h
   ·rename_i cs he;simp only[Option.map_eq_some_iff] at h;obtain⟨ds,Ua,rfl⟩:=h
    have hm:=jJ _ _ Ua
    have hlen:ds.length=cs.length:=by have:=congrArg List.length hm;simpa using this.symm
    obtain⟨_,_,b',arr,T,lD,oB,hh,hc⟩:=S.sR s g _ he
    cases hu with
    | ptr s g off b hg hb =>
      have xX:b'=b:=by
       have h2:dI (ρ s g)=some b:=hb
       rw[lD] at h2;simpa [dI] using h2
      subst xX;have hl:=hc.len
      simp only[Array.length_toList] at hl;have:=cY.ip (C:=bare (Ej h0 w0 w)) ds off b' 0 arr T (0,0) ⟨hh,fun bA=>by omega⟩ (by omega) (fun i x y hx hy=>by
       have hi:i<cs.length:=by have:=(List.getElem?_eq_some_iff.1 hx).1;omega
       have Kn:wW st cs[i]=some x:=by
        have:=congrArg (·[i]?) hm
        simp only[List.getElem?_map,hx,List.getElem?_eq_getElem hi,Option.map_some,Option.some.injEq] at this;exact this
       exact QQ S (hc.rel i cs[i] y (by simp[hi]) (by simpa using hy)) Kn) (fun i y hi hy=>hc.one i y (by simpa using hy))
      rw[Nat.zero_add] at this;exact⟨this,.inl rfl⟩
   ·cases h
  ·cases h
theorem Od (S:kY F h0 w0 nt ρ st a w) {x y:AV} {v:Value} (hu:cY (ctx h0 w0 ρ st w) x v) (h:fP st x=some y):cY (bare (Ej h0 w0 w)) y v:=by
 unfold fP at h;split at h
 ·rename_i hf;simp only[Option.some.injEq] at h;subst h;exact hu.flat hf Ek
 ·split at h
  ·rename_i cs _;simp only[Option.map_eq_some_iff] at h;obtain⟨ds,Ua,rfl⟩:=h
   have hm:=jJ _ _ Ua
   cases hu with
   | agg cs ar hl hr h1 =>
     have hlen:ds.length=cs.length:=by have:=congrArg List.length hm;simpa using this.symm
     refine .agg ds ar (by omega) (fun i x y hx hy=>?_) h1
     have hi:i<cs.length:=by have:=(List.getElem?_eq_some_iff.1 hx).1;omega
     have Kn:cJ st cs[i]=some x:=by
      have:=congrArg (·[i]?) hm
      simp only[List.getElem?_map,hx,List.getElem?_eq_getElem hi,Option.map_some,Option.some.injEq] at this;exact this
     exact (xQ S (hr i cs[i] y (by simp[hi]) hy) Kn).1
  ·rename_i f mJ _;simp only[Option.map_eq_some_iff] at h;obtain⟨ds,Ua,rfl⟩:=h
   have hm:=jJ _ _ Ua
   cases hu with
   | rW f cs ar hl hr =>
     have hlen:ds.length=mJ.length:=by have:=congrArg List.length hm;simpa using this.symm
     refine .rW f ds ar (by omega) (fun i x y hx hy=>?_)
     have hi:i<mJ.length:=by have:=(List.getElem?_eq_some_iff.1 hx).1;omega
     have Kn:cJ st mJ[i]=some x:=by
      have:=congrArg (·[i]?) hm
      simp only[List.getElem?_map,hx,List.getElem?_eq_getElem hi,Option.map_some,Option.some.injEq] at this;exact this
     exact (xQ S (hr i mJ[i] y (by simp[hi]) hy) Kn).1
  ·exact (xQ S hu h).1
theorem pL {α β:Type} {p:β→Prop} {f:α→Option β} (hp:∀a b,f a=some b→p b):∀(l:List α) (r:List β),cM (l.map f)=some r→∀b∈r,p b
 | [],r,h=>by simp[cM] at h;subst h;simp
 | a :: l,r,h=>by
   simp only[List.map_cons] at h;cases ha:f a with
   | none=>simp[ha,cM] at h
   | some b =>
     simp only[ha,cM,Option.map_eq_some_iff] at h;obtain⟨r',h',rfl⟩:=h
     intro c hc;rcases List.mem_cons.1 hc with rfl|hc
     ·exact hp _ _ ha
     ·exact pL hp l r' h' c hc
theorem As {x y:AV} (h:cJ st x=some y):Flat y:=by
 unfold cJ at h;split at h
 ·rename_i hf;simp only[Option.some.injEq] at h;subst h;exact hf
 ·split at h
  ·split at h
   ·split at h
    ·rename_i hf;simp only[Option.some.injEq] at h;subst h;exact .sl _ _ hf
    ·cases h
   ·cases h
  ·split at h
   ·split at h
    ·rename_i hf;simp only[Option.some.injEq] at h;subst h;exact .sl _ _ fun c hc=>hf.1 c (List.mem_of_mem_drop (List.mem_of_mem_take hc))
    ·cases h
   ·cases h
  ·split at h
   ·simp only[Option.map_eq_some_iff] at h;obtain⟨ds,Ua,rfl⟩:=h
    exact .ip _ _ (pL (fun a b h=>XQ h) _ _ Ua)
   ·cases h
  ·cases h
theorem Kt {x y:AV} (h:fP st x=some y):Flat y:=by
 unfold fP at h;split at h
 ·rename_i hf;simp only[Option.some.injEq] at h;subst h;exact hf
 ·split at h
  ·simp only[Option.map_eq_some_iff] at h;obtain⟨ds,Ua,rfl⟩:=h
   exact .agg _ (pL (fun a b h=>As h) _ _ Ua)
  ·simp only[Option.map_eq_some_iff] at h;obtain⟨ds,Ua,rfl⟩:=h
   exact .rW _ _ (pL (fun a b h=>As h) _ _ Ua)
  ·exact As h
theorem Vx (S:kY F h0 w0 nt ρ st a w) {x y:AV} {v:Value} (hu:cY (ctx h0 w0 ρ st w) x v) (h:Dl st x=some y):cY (bare (Ej h0 w0 w)) y v:=by
 unfold Dl at h;split at h
 ·rename_i s g;split at h
  ·rename_i e sz n cs he;simp only[Option.map_eq_some_iff] at h;obtain⟨ds,Ua,rfl⟩:=h
   have hm:=jJ _ _ Ua
   obtain⟨_,ho1,xs,ho,hc⟩:=S.sR s g _ he
   cases hu with
   | own s g hg h1 =>
     have hlen:ds.length=cs.length:=by have:=congrArg List.length hm;simpa using this.symm
     refine Gk (fun b o _ hb DO=>⟨DO,fun bA=>by omega⟩) ho ⟨by rw[hlen];exact hc.len,fun i x y hx hy=>?_,hc.one⟩
     have hi:i<cs.length:=by have:=(List.getElem?_eq_some_iff.1 hx).1;omega
     have Kn:cJ st cs[i]=some x:=by
      have:=congrArg (·[i]?) hm
      simp only[List.getElem?_map,hx,List.getElem?_eq_getElem hi,Option.map_some,Option.some.injEq] at this;exact this
     exact (xQ S (hc.rel i cs[i] y (by simp[hi]) hy) Kn).1
  ·cases h
 ·exact (xQ S hu h).1
theorem QR (S:kY F h0 w0 nt ρ st a w) {x y:AV} {v:Value} (hu:cY (ctx h0 w0 ρ st w) x v) (h:Ph st x=some y):cY (bare (Ej h0 w0 w)) y v:=by
 unfold Ph at h;split at h
 ·rename_i cs;simp only[Option.map_eq_some_iff] at h;obtain⟨ds,Ua,rfl⟩:=h
  have hm:=jJ _ _ Ua
  cases hu with
  | agg cs ar hl hr h1 =>
    have hlen:ds.length=cs.length:=by have:=congrArg List.length hm;simpa using this.symm
    refine .agg ds ar (by omega) (fun i x y hx hy=>?_) h1
    have hi:i<cs.length:=by have:=(List.getElem?_eq_some_iff.1 hx).1;omega
    have Kn:Dl st cs[i]=some x:=by
     have:=congrArg (·[i]?) hm
     simp only[List.getElem?_map,hx,List.getElem?_eq_getElem hi,Option.map_some,Option.some.injEq] at this;exact this
    exact Vx S (hr i cs[i] y (by simp[hi]) hy) Kn
 ·exact Vx S hu h
theorem QS (S:kY F h0 w0 nt ρ st a w) {x y:AV} {v:Value} (hu:cY (ctx h0 w0 ρ st w) x v) (h:Dm st x=some y):cY (bare (Ej h0 w0 w)) y v:=by
 unfold Dm at h;split at h
 ·rename_i z hz;simp only[Option.some.injEq] at h;subst h;exact Od S hu hz
 ·exact QR S hu h
theorem AU {x y:AV} (h:Dl st x=some y):Flat y:=by
 unfold Dl at h;split at h
 ·split at h
  ·simp only[Option.map_eq_some_iff] at h;obtain⟨ds,Ua,rfl⟩:=h
   exact .sl _ _ (pL (fun a b h=>As h) _ _ Ua)
  ·cases h
 ·exact As h
theorem XR {x y:AV} (h:Dm st x=some y):Flat y:=by
 unfold Dm at h;split at h
 ·rename_i z hz;simp only[Option.some.injEq] at h;subst h;exact Kt hz
 ·unfold Ph at h;split at h
  ·simp only[Option.map_eq_some_iff] at h;obtain⟨ds,Ua,rfl⟩:=h
   exact .agg _ (pL (fun a b h=>AU h) _ _ Ua)
  ·exact AU h
theorem El {x y:AV} (h:fP st x=some y):Dm st x=some y:=by unfold Dm;rw[h]
theorem XS {x:AV} (h:fP st x=none):Dm st x=Ph st x:=by unfold Dm;rw[h]
end
end Go.Ab
end
section
namespace Go.Ab
open Classical
def Jg (es:List nP):Prop:=∀e∈es,∃a b n cs,e=.row a b n cs∧∀c∈cs,iD c
theorem AW {x:AV} (h:VC x) (d c:Nat):Ty (xZ d c x).1∧Jg (xZ d c x).2:=by
 cases x
 case uniq e sz n cs=>exact⟨.own _ _,fun e he=>by simp[xZ] at he;exact⟨_,_,_,_,he,h⟩⟩
 all_goals exact⟨iD.aDy h,fun e he=>by simp[xZ] at he⟩
theorem Oe {f:Nat→AV→AV × List nP}:∀(xs:List AV) (c:Nat),(∀x∈xs,∀c,Ty (f c x).1∧Jg (f c x).2)→(∀y∈(pM f c xs).1,Ty y)∧Jg (pM f c xs).2
 | [],c,_=>⟨by simp[pM],fun e he=>by simp[pM] at he⟩
 | x :: xs,c,h=>by
   obtain⟨h1,h2⟩:=h x (by simp) c
   obtain⟨h3,h4⟩:=Oe xs (c+(f c x).2.length) fun y hy=>h y (by simp[hy])
   simp only[pM];refine⟨fun y hy=>?_,fun e he=>?_⟩
   ·rcases List.mem_cons.1 hy with rfl|hy
    ·exact h1
    ·exact h3 y hy
   ·rcases List.mem_append.1 he with he|he
    ·exact h2 e he
    ·exact h4 e he
theorem AX {x:AV} (h:VD x) (d c:Nat):Ty (Wk d c x).1∧Jg (Wk d c x).2:=by
 cases x
 case agg cs =>
  obtain⟨h1,h2⟩:=Oe (f:=xZ d) cs c fun x hx c=>AW (h x hx) d c
  exact⟨.agg _ h1,h2⟩
 all_goals
  refine @AW _ ?_ d c
  exact h
theorem Ub {x:AV} (h:Yj x) (d c:Nat):Ty (l6 d c x).1∧Jg (l6 d c x).2:=by
 cases x
 case eG cs =>
  obtain⟨h1,h2⟩:=Oe (f:=Wk d) cs c fun x hx c=>AX (h x hx) d c
  exact⟨.eG _ h1,h2⟩
 all_goals
  refine @AX _ ?_ d c
  exact h
theorem gD.Ra {C D:Ctx} {cs:List AV} {ys:List Value} (h:gD C cs ys) (hm:∀c∈cs,iD c):gD D cs ys :=
 ⟨h.len,fun i x y hx hy=>(h.rel i x y hx hy).Ra (hm x (List.mem_of_getElem? hx)),h.one⟩
theorem nG.free {C D:Ctx} {w:World} {b:Nat} {v:Value} {e:nP} (h:nG C w b v e) (hf:∃a s n cs,e=.row a s n cs∧∀c∈cs,iD c):nG D w b v e:=by
 obtain⟨a,s,n,cs,rfl,hm⟩:=hf
 obtain⟨xs,ho,hc⟩:=h
 exact⟨xs,ho,hc.Ra hm⟩
section
variable {P:Program} {h0:Nat→Obj→Prop} {w0:World} {F:Gw} {nt:Nat} {ρ:Nat→Nat→Value} {st:St} {a:Act} {w:World} {K:Act→World→Prop} {Q:Exit→Act→World→Prop}
theorem IA {C D:Ctx} {xs:List AV} {vs:List Value} (h:lQ C xs vs) (hf:∀x∈xs,Flat x) (hh:∀b o,C.h b o→D.h b o):lQ D xs vs :=
 ⟨h.len,fun i x y hx hy=>(h.rel i x y hx hy).flat (hf x (List.mem_of_getElem? hx)) hh⟩
theorem yZ (S:kY F h0 w0 nt ρ st a w) {H:Nat→Obj→Prop} {w':World} {r:AV} {v:Value} {dst:Option Nat} {e:rX} (hr:KD H w w' r v) (hg:w.grownBy w' none)
 (hH:(∀b o,H b o→(ctx h0 w0 ρ st w).h b o)∨Yj r) (h:jD r st dst=some e) (hd:∀d,dst=some d→d<nt)
 (hK:∀oC a' w',kY F h0 w0 nt oC (e.apply st) a' w'→K a' w'):K (a.put dst v) w':=by
 obtain⟨vs,v1,v2,v3,v4,v5⟩:=hr
 unfold jD at h;split at h
 ·rename_i hf;simp only[Option.some.injEq] at h;subst h;have hl:=v4 0 0
  rw[Jf hf] at hl;have hvs:vs=[]:=List.length_eq_zero_iff.1 hl.symm
  subst hvs;obtain⟨S',k⟩:=S.grow hg
  refine hK ρ _ _ (S'.put dst hd ?_)
  rcases hH with hH|hH
  ·have:=(v5 (ctx h0 w0 ρ st w') 0 0 (fun b o hb=>by
    by_cases bA:b<w.heap.size
    ·exact k.h _ _ (hH _ _ (hb.2.1 bA))
    ·exact⟨hb.1,fun h=>by have:=S.ext.size;omega,fun s g e he=>jU S he (by omega)⟩) (by simp)).1
   rw[Jf hf] at this;exact this
  ·have:=(v5 ⟨newHs H w w' [],ρ,st.aU⟩ 0 0 (fun b o hb=>hb) (by simp)).1
   have hn:=(Ub hH 0 0).1
   rw[Jf hf] at this hn;exact this.aDy hn (fun _=>Nat.le_refl _) (fun _ _ _=>rfl)
 ·cases dst with
  | none=>cases h
  | some d =>
    simp only[Option.some.injEq] at h;subst h;obtain⟨S',k,hh,pA⟩:=S.news hg d (l6 d (st.aU d) r).2 vs (v4 _ _) v1 v3 v2 (fun C kC hC lD i e x hi hx=>by
     rcases hH with hH|hH
     ·exact ((v5 C d (st.aU d) (fun b o hb=>by
       by_cases bA:b<w.heap.size
       ·exact kC.h _ _ (hH _ _ (hb.2.1 bA))
       ·exact hC b o (by omega) hb.1 hb.2.2) lD).2 i e x hi hx).base S.ext.size
     ·have:=((v5 ⟨newHs H w w' vs,C.ρ,C.aU⟩ d (st.aU d) (fun b o hb=>hb) lD).2 i e x hi hx).base S.ext.size
      exact this.free ((Ub hH d (st.aU d)).2 e (List.mem_of_getElem? hi)))
    refine hK _ _ _ (S'.put (some d) hd ?_)
    rcases hH with hH|hH
    ·exact (v5 (ctx h0 w0 (Gx ρ d (st.aU d) vs) (st.news d (l6 d (st.aU d) r).2) w') d (st.aU d) (fun b o hb=>by
      by_cases bA:b<w.heap.size
      ·exact k.h _ _ (hH _ _ (hb.2.1 bA))
      ·exact hh b o (by omega) hb.1 hb.2.2) pA).1
    ·have:=(v5 ⟨newHs H w w' vs,Gx ρ d (st.aU d) vs,(st.news d (l6 d (st.aU d) r).2).aU⟩ d (st.aU d) (fun b o hb=>hb) pA).1
     exact this.aDy (Ub hH d (st.aU d)).1 (fun _=>Nat.le_refl _) (fun _ _ _=>rfl)
theorem AY {P:Program} {g:Nat} {args:List AV} {r:AV} (h:Jd P g args r) (hn:∀x∈args,Flat x):Tw P g args r:=by
 unfold Jd at h;split at h
 ·rename_i e sz n cs rest;have:=hn _ (List.mem_cons_self ..)
  cases this
 ·exact h
theorem Gl (S:kY F h0 w0 nt ρ st a w) {call:Nat→List AV→Option AV} (kK:rA P call) {g:Nat} {args:List AV} {vs:Array Value} {dst:Option Nat} {e:rX}
 (h:aO call g args st dst=some e) (fU:lQ (ctx h0 w0 ρ st w) args vs.toList) (hd:∀d,dst=some d→d<nt)
 (hK:∀oC a' w',kY F h0 w0 nt oC (e.apply st) a' w'→K a' w') :
 Dd P g∧Calls P g vs w fun en w'=>∃v,en=.returned v∧K (a.put dst v) w':=by
 unfold aO at h;split at h
 ·rename_i hf;cases hc:call g args with
  | none=>simp[hc,cT] at h
  | some r =>
    obtain⟨J9,hs⟩:=kK g args r hc
    refine⟨J9, ?_⟩
    simp only[hc,cT] at h;refine ((AY hs hf) w (ctx h0 w0 ρ st w).h vs (fun b o hb=>hb.1) (IA fU hf fun b o hb=>hb)).mono ?_
    rintro en w' ⟨v,rfl,hr,hg⟩
    exact⟨v,rfl,yZ S hr hg (.inl fun b o hb=>hb) h hd hK⟩
 ·split at h
  ·rename_i xs KG;cases hc:call g xs with
   | none=>simp[hc,cT] at h
   | some r =>
     obtain⟨J9,hs⟩:=kK g xs r hc
     refine⟨J9, ?_⟩
     simp only[hc,cT] at h;split at h
     ·rename_i hm;have hmm:=jJ _ _ KG
      have UU:∀x∈xs,Flat x:=pL (fun a b h=>Kt h) _ _ KG
      have hlen:xs.length=args.length:=by have:=congrArg List.length hmm;simpa using this.symm
      have Rc:lQ (bare (Ej h0 w0 w)) xs vs.toList:=⟨by rw[hlen];exact fU.len,fun i x y hx hy=>by
       have hi:i<args.length:=by have:=(List.getElem?_eq_some_iff.1 hx).1;omega
       have Kn:fP st args[i]=some x:=by
        have:=congrArg (·[i]?) hmm
        simp only[List.getElem?_map,hx,List.getElem?_eq_getElem hi,Option.map_some,Option.some.injEq] at this;exact this
       exact Od S (fU.rel i args[i] y (by simp[hi]) hy) Kn⟩
      refine ((AY hs UU) w (Ej h0 w0 w) vs (fun b o hb=>hb.1) Rc).mono ?_
      rintro en w' ⟨v,rfl,hr,hg⟩
      exact⟨v,rfl,yZ S hr hg (.inr hm) h hd hK⟩
     ·cases h
  ·cases h
theorem kY.drop (S:kY F h0 w0 nt ρ st a w) (s k:Nat):kY F h0 w0 nt ρ (st.jC s k none) a w∧(ctx h0 w0 ρ st w).Le (ctx h0 w0 ρ (st.jC s k none) w):=by
 have hs:∀s' g' e,(st.jC s k none).heap s' g'=some e→st.heap s' g'=some e:=fun s' g' e h=>by
  simp only[St.jC] at h;split at h
  ·cases h
  ·exact h
 have kk:(ctx h0 w0 ρ st w).Le (ctx h0 w0 ρ (st.jC s k none) w):=⟨fun b o hb=>⟨hb.1,hb.2.1,fun s' g' e he=>hb.2.2 s' g' e (hs s' g' e he)⟩,fun _=>Nat.le_refl _,fun _ _ _=>rfl⟩
 exact⟨⟨fun t=>(S.env t).le kk,fun s' g' e he=>⟨(S.sR s' g' e (hs s' g' e he)).1,(S.sR s' g' e (hs s' g' e he)).2.1,nG.world (r:=none) (S.sR s' g' e (hs s' g' e he)).2.2 kk ⟨rfl,rfl,rfl,Nat.le_refl _,fun _ _ _=>rfl⟩ (by cases dI (ρ s' g')<;>simp)⟩,
  fun s1 g1 s2 g2 e1 e2 b h1 h2=>S.inj s1 g1 s2 g2 e1 e2 b (hs _ _ _ h1) (hs _ _ _ h2),S.ext,S.size,S.defers,⟨fun x v h=>(S.Pa.1 x v h).le kk,fun b o h=>kk.h b o (S.Pa.2.1 b o h),S.Pa.2.2⟩⟩,kk⟩
theorem aNz (S:kY F h0 w0 nt ρ st a w) {s k:Nat} {c y:AV} {v:Value} (hc:Flat c∨c=.own s k) (hu:cY (ctx h0 w0 ρ st w) c v) (h:cJ st c=some y):cY (bare (ctx h0 w0 ρ (st.jC s k none) w).h) y v∧(v.oneCell'=true∨y=c):=by
 have kk:=(S.drop s k).2
 rcases hc with hf|rfl
 ·unfold cJ at h;rw[if_pos hf] at h;simp only[Option.some.injEq] at h;subst h;exact⟨hu.flat hf kk.h,.inr rfl⟩
 ·unfold cJ at h;rw[if_neg (by intro h;cases h)] at h
  simp only at h
  split at h
  ·rename_i e sz n cs he;split at h
   ·rename_i hf;simp only[Option.some.injEq] at h;subst h;obtain⟨_,ho1,xs,ho,hc⟩:=S.sR s k _ he
    cases hu with
    | own s g hg h1 =>
      refine⟨Gk (fun b o hv hb DO=>⟨DO,fun bA=>by omega,fun s' g' e' Be xX=>?_⟩) ho (hc.flat hf kk.h),.inl h1⟩
      simp only[St.jC] at Be
      split at Be
      ·cases Be
      ·rename_i fQ;have:=S.inj s' g' s k e' _ b Be he xX hv
       exact fQ this
   ·cases h
  ·cases h
theorem aAA (S:kY F h0 w0 nt ρ st a w) {s k:Nat} {x y:AV} {v:Value} (hx:l7 x) (hk:∀p∈jF x,p=(s,k)) (hu:cY (ctx h0 w0 ρ st w) x v) (h:fP st x=some y):cY (bare (ctx h0 w0 ρ (st.jC s k none) w).h) y v:=by
 have kk:=(S.drop s k).2
 by_cases hf:Flat x
 ·unfold fP at h;rw[if_pos hf] at h;simp only[Option.some.injEq] at h;subst h;exact hu.flat hf kk.h
 ·rcases hx with hx|⟨s',k',rfl⟩|⟨cs,rfl,KF⟩
  ·exact absurd hx hf
  ·have:=hk (s',k') (by simp[jF,gQ])
   simp only[Prod.mk.injEq] at this;obtain⟨rfl,rfl⟩:=this
   unfold fP at h;rw[if_neg hf] at h;exact (aNz S (.inr rfl) hu h).1
  ·have hc:∀c∈cs,Flat c∨c=.own s k:=fun c hc=>by
    rcases KF c hc with h|⟨s',k',rfl⟩
    ·exact .inl h
    ·have:=hk (s',k') (by simp only[jF];exact List.mem_flatMap.2 ⟨_,hc,by simp[gQ]⟩)
     simp only[Prod.mk.injEq] at this;obtain⟨rfl,rfl⟩:=this
     exact .inr rfl
   unfold fP at h;rw[if_neg hf] at h;simp only[Option.map_eq_some_iff] at h;obtain⟨ys,Wv,rfl⟩:=h
   have hmm:=jJ _ _ Wv
   have hlen:ys.length=cs.length:=by have:=congrArg List.length hmm;simpa using this.symm
   cases hu with
   | agg _ arr hl hr h1 =>
     refine .agg ys arr (by omega) (fun i y z hy hz=>?_) h1
     have hi:i<cs.length:=by have:=(List.getElem?_eq_some_iff.1 hy).1;omega
     have Kn:cJ st cs[i]=some y:=by
      have:=congrArg (·[i]?) hmm
      simp only[List.getElem?_map,hy,List.getElem?_eq_getElem hi,Option.map_some,Option.some.injEq] at this;exact this
     exact (aNz S (hc _ (List.getElem_mem hi)) (hr i cs[i] z (by simp[hi]) hz) Kn).1
theorem Rd {r:AV} {dst:Option Nat} {s k:Nat} {e:rX} (h:Ft r st dst s k=some e) :
 (Flat r∧e={ dst:=dst,val:=r,dS:=some (s,k,none)}) ∨
 (¬Flat r∧∃e1 sz n cs d,r=.uniq e1 sz n cs∧dst=some d∧(∀c∈cs,iD c)∧e={ dst:=some d,val:=.own d (st.aU d),dS:=some (s,k,none),new:=some (d,[.row e1 sz n cs])}):=by
 unfold Ft at h;split at h
 ·rename_i hf;simp only[Option.some.injEq] at h;exact .inl ⟨hf,h.symm⟩
 ·rename_i hf;split at h
  ·rename_i e1 sz n cs d;split at h
   ·rename_i hc;simp only[Option.some.injEq] at h;exact .inr ⟨hf,e1,sz,n,cs,d,rfl,rfl,hc,h.symm⟩
   ·cases h
  ·cases h
theorem ED (S:kY F h0 w0 nt ρ st a w) {call:Nat→List AV→Option AV} (kK:rA P call) {g:Nat} {args:List AV} {vs:Array Value} {dst:Option Nat} {e:rX}
 (h:fG call g args st dst=some e) (fU:lQ (ctx h0 w0 ρ st w) args vs.toList) (hd:∀d,dst=some d→d<nt)
 (hK:∀oC a' w',kY F h0 w0 nt oC (e.apply st) a' w'→K a' w') :
 Dd P g∧Calls P g vs w fun en w'=>∃v,en=.returned v∧K (a.put dst v) w':=by
 unfold fG at h;split at h
 ·rename_i s k Qx;split at h
  ·rename_i oS;split at h
   ·rename_i xs KG;cases hc:call g xs with
    | none=>simp[hc,cT] at h
    | some r =>
      obtain⟨J9,hs⟩:=kK g xs r hc
      refine⟨J9, ?_⟩
      simp only[hc,cT] at h;have h:=Rd h
      have hmm:=jJ _ _ KG
      have UU:∀x∈xs,Flat x:=pL (fun a b h=>Kt h) _ _ KG
      have hlen:xs.length=args.length:=by have:=congrArg List.length hmm;simpa using this.symm
      obtain⟨S1,kk⟩:=S.drop s k
      have Rc:lQ (bare (ctx h0 w0 ρ (st.jC s k none) w).h) xs vs.toList:=⟨by rw[hlen];exact fU.len,fun i x y hx hy=>by
       have hi:i<args.length:=by have:=(List.getElem?_eq_some_iff.1 hx).1;omega
       have Kn:fP st args[i]=some x:=by
        have:=congrArg (·[i]?) hmm
        simp only[List.getElem?_map,hx,List.getElem?_eq_getElem hi,Option.map_some,Option.some.injEq] at this;exact this
       refine aAA S (oS _ (List.getElem_mem hi)) (fun p hp=>?_) (fU.rel i args[i] y (by simp[hi]) hy) Kn
       have:p∈args.flatMap jF:=List.mem_flatMap.2 ⟨_,List.getElem_mem hi,hp⟩
       rw[Qx] at this;simpa using this⟩
      refine ((AY hs UU) w (ctx h0 w0 ρ (st.jC s k none) w).h vs (fun b o hb=>hb.1) Rc).mono ?_
      rintro en w' ⟨v,rfl,hr,hg⟩
      rcases h with ⟨p5,rfl⟩|⟨p5,e1,sz,n,cs,d,rfl,rfl,KF,rfl⟩
      ·refine⟨v,rfl,yZ (e:={ dst:=dst,val:=r }) S1 hr hg (.inl fun b o hb=>hb) ?_ hd (fun oC a' w2 hS=>hK oC a' w2 hS)⟩
       unfold jD;rw[if_pos p5]
      ·refine⟨v,rfl,yZ (e:={ dst:=some d,val:=.own d (st.aU d),new:=some (d,[.row e1 sz n cs])}) S1 hr hg (.inr KF) ?_ hd (fun oC a' w2 hS=>hK oC a' w2 hS)⟩
       unfold jD;rw[if_neg p5];rfl
   ·cases h
  ·cases h
 ·exact Gl S kK h fU hd hK
theorem KH (S:kY F h0 w0 nt ρ st a w) {call:Nat→List AV→Option AV} (kK:rA P call) {g:Nat} {args:List AV} {vs:Array Value} {dst:Option Nat} {e:rX}
 (h:lN call g args st dst=some e) (fU:lQ (ctx h0 w0 ρ st w) args vs.toList) (hd:∀d,dst=some d→d<nt)
 (hK:∀oC a' w',kY F h0 w0 nt oC (e.apply st) a' w'→K a' w') :
 Dd P g∧Calls P g vs w fun en w'=>∃v,en=.returned v∧K (a.put dst v) w':=by
 unfold lN at h;split at h
 ·rename_i s k rest;split at h
  ·rename_i e0 sz n cs he;split at h
   ·rename_i KF;obtain⟨KF,p5⟩:=KF
    have hvs:∃v0 vr,vs=#[v0]++vr∧cY (ctx h0 w0 ρ st w) (.own s k) v0∧lQ (ctx h0 w0 ρ st w) rest vr.toList:=by
     have hl:=fU.len
     cases hv:vs.toList with
     | nil=>rw[hv] at hl;simp at hl
     | cons v0 vr =>
       rw[hv] at fU;refine⟨v0,vr.toArray, ?_,fU.head,by simpa using fU.tail⟩
       apply Array.ext'
       rw[hv];simp
    obtain⟨v0,vr,rfl,hv0,hrest⟩:=hvs
    have hv0':v0=ρ s k:=by cases hv0;rfl
    subst hv0'
    obtain⟨hk1,hk2,ys,ho,oU⟩:=S.sR s k _ he
    have run:∀r,call g (.uniq e0 sz n cs :: rest)=some r→Dd P g ∧
     Calls P g (#[ρ s k]++vr) w fun en w'=>∃v,en=.returned v∧w.grownBy w' (dI (ρ s k)) ∧
      match r with
      | .uniq e' tU n' Fq=>∃zs,oD w' 0 e' tU v n' zs∧gD (bare (ctx h0 w0 ρ st w).h) Fq zs∧∀b,dI v=some b→dI (ρ s k)=some b∨w.heap.size≤b
      | .eG [.uniq e' tU n' Fq]=>v=.tuple #[]∧∃zs,oD w' 0 e' tU (ρ s k) n' zs∧gD (bare (ctx h0 w0 ρ st w).h) Fq zs
      | _=>False:=by
     intro r hr;obtain⟨J9,hs⟩:=kK _ _ _ hr
     refine⟨J9, ?_⟩
     have hs:XP P g e0 sz n cs rest r:=hs
     exact hs w (ctx h0 w0 ρ st w).h (ρ s k) ys vr (fun b o hb=>hb.1) (fun b o hb=>hb.2.2 s k _ he) (zX ho (Nat.zero_le _)) (oU.flat KF fun b o hb=>hb) (IA hrest p5 fun b o hb=>hb)
    have bareLe:∀C:Ctx,(ctx h0 w0 ρ st w).Le C→(bare (ctx h0 w0 ρ st w).h).Le C:=fun C kC=>⟨kC.h,fun _=>Nat.zero_le _,fun _ _ h=>absurd h (by simp[bare])⟩
    have xP:∀b,dI (ρ s k)=some b→w0.heap.size≤b:=fun b hb=>(Dp ho b hb).1
    split at h
    ·rename_i e' tU n' Fq hr
     obtain⟨J9,hc⟩:=run _ hr
     refine⟨J9,hc.mono ?_⟩
     rintro en w' ⟨v,rfl,hg,zs,hz,hzc,hzb⟩
     cases dst with
     | none=>cases h
     | some d =>
       simp only[Option.some.injEq] at h;subst h;refine⟨v,rfl, ?_⟩
       obtain⟨S',kk,pA⟩:=S.R7 he hg d (.row e' tU n' Fq) v (tI hz) hzb (fun C kC=>⟨zs,Rb hz (fun b hb=>by
        rcases hzb b hb with h|h
        ·exact xP b h
        ·have:=S.ext.size;omega),hzc.le (bareLe C kC)⟩)
       have happ:rX.apply { dst:=some d,val:=.own d (st.aU d),dS:=some (s,k,none),new:=some (d,[.row e' tU n' Fq])} st=((st.jC s k none).new d (.row e' tU n' Fq)).put (some d) (.own d (st.aU d)):=by
        simp only[rX.apply,Yq]
       have bA:st.aU d<(ctx h0 w0 (uD ρ d (st.aU d) v) ((st.jC s k none).new d (.row e' tU n' Fq)) w').aU d:=by simp[ctx,St.new,St.jC]
       have lD:(ctx h0 w0 (uD ρ d (st.aU d) v) ((st.jC s k none).new d (.row e' tU n' Fq)) w').ρ d (st.aU d)=v:=pA
       have:=cY.own (C:=ctx h0 w0 (uD ρ d (st.aU d) v) ((st.jC s k none).new d (.row e' tU n' Fq)) w') d (st.aU d) bA (by rw[lD];exact tI hz)
       rw[lD] at this;have hS:=S'.put (some d) hd this
       rw[← happ] at hS;exact hK _ _ _ hS
    ·rename_i e' tU n' Fq hr
     obtain⟨J9,hc⟩:=run _ hr
     refine⟨J9,hc.mono ?_⟩
     rintro en w' ⟨v,rfl,hg,rfl,zs,hz,hzc⟩
     simp only[Option.some.injEq] at h;subst h;have S':=S.R6 (e':=.row e' tU n' Fq) he hg (fun C kC=>⟨zs,Rb hz xP,hzc.le (bareLe C kC)⟩)
     exact⟨_,rfl,hK ρ _ _ (S'.put dst hd (.eG [] #[] rfl (by simp)))⟩
    ·cases h
   ·cases h
  ·cases h
 ·split at h
  ·exact Gl S kK h fU hd hK
  ·cases h
end
end Go.Ab
end
section
namespace Go.Ab
open Classical
section
variable {P:Program} {h0:Nat→Obj→Prop} {w0:World} {F:Gw} {nt:Nat} {ρ:Nat→Nat→Value} {st:St} {a:Act} {w:World} {K:Act→World→Prop} {Q:Exit→Act→World→Prop}
theorem upon_value {o:Oper} {v:Value} {w':World} (h:(execOp a.eval o).run P w=.ok (.value v) w') (hk:K (a.put o.dst v) w'):o.wp P a w K Q:=by
 unfold Oper.wp;rw[h];exact hk
theorem kY.newVar (S:kY F h0 w0 nt ρ st a w) (d:Nat) (hd:d<nt) (cs:List AV) (arr:Array Value) (T:Nat) (hc:gD (ctx h0 w0 ρ st w) cs arr.toList) :
 ∃oC,kY F h0 w0 nt oC ((st.new d (.cells cs)).put (some d) (.ptr d (st.aU d) 0)) (a.put (some d) (.pointer (some ⟨w.heap.size,0,none⟩))) (w.alloc (.cells arr T)):=by
 obtain⟨S',k,pA⟩:=S.new (World.grownBy_alloc w (.cells arr T) none) d (.cells cs) (.pointer (some ⟨w.heap.size,0,none⟩)) rfl (fun b hb=>by simp[dI] at hb;omega)
  (fun C k _=>⟨w.heap.size,arr,T,rfl,S.ext.size,heap_alloc_new w _,hc.le k⟩)
 exact⟨_,S'.put (some d) (fun t ht=>by cases ht;exact hd) (.ptr d (st.aU d) 0 w.heap.size (by simp[ctx,St.new]) (by show dI (uD _ _ _ _ _ _)=_;rw[pA];rfl))⟩
theorem kY.newRow (S:kY F h0 w0 nt ρ st a w) (d:Nat) (hd:d<nt) {w':World} (hg:w.grownBy w' none) (e sz n:Nat) (cs:List AV) (xs:List Value) (v:Value) (ho:oD w' w.heap.size e sz v n xs) (hc:gD (ctx h0 w0 ρ st w) cs xs) :
 ∃oC,kY F h0 w0 nt oC ((st.new d (.row e sz n cs)).put (some d) (.own d (st.aU d))) (a.put (some d) v) w':=by
 obtain⟨S',k,pA⟩:=S.new hg d (.row e sz n cs) v (tI ho) (fun b hb=>(Dp ho b hb).1) (fun C k _=>⟨xs,zX ho S.ext.size,hc.le k⟩)
 refine⟨_,S'.put (some d) (fun t ht=>by cases ht;exact hd) ?_⟩
 have bA:st.aU d<(ctx h0 w0 (uD ρ d (st.aU d) v) (st.new d (.row e sz n cs)) w').aU d:=by simp[ctx,St.new]
 have lD:(ctx h0 w0 (uD ρ d (st.aU d) v) (st.new d (.row e sz n cs)) w').ρ d (st.aU d)=v:=pA
 have:=cY.own (C:=ctx h0 w0 (uD ρ d (st.aU d) v) (st.new d (.row e sz n cs)) w') d (st.aU d) bA (by rw[lD];exact tI ho)
 rw[lD] at this;exact this
theorem Jh (z:Array Value) (n:Nat):((Array.range (n * z.size)).map (z[· % z.size]!)).toList=(List.range n).flatMap fun _=>z.toList:=by
 rw[Array.toList_map];have:(Array.range (n * z.size)).toList=List.range (n * z.size):=by simp
 rw[this];clear this
 induction n with
 | zero=>simp
 | succ n ih =>
   rw[Nat.succ_mul,List.range_add,List.map_append,ih,List.range_succ,List.flatMap_append];congr 1
   simp only[List.flatMap_cons,List.flatMap_nil,List.append_nil,List.map_map];apply List.ext_getElem?
   intro i;by_cases hi:i<z.size
   ·simp[hi,Nat.mod_eq_of_lt hi,Nat.mul_comm n z.size]
   ·simp[hi]
theorem Ku {C:Ctx} {z:List Value} (h1:∀y∈z,y.oneCell'=true) (n:Nat):gD C ((List.range n).flatMap fun _=>z.map .v) ((List.range n).flatMap fun _=>z):=by
 generalize List.range n=l
 induction l with
 | nil=>exact .nil C
 | cons x l ih=>simp only[List.flatMap_cons];exact (gD.vs C z h1).app ih
theorem Uc (S:kY F h0 w0 nt ρ st a w) {T n e sz by_:Nat} {parts:Array (Nat × Operand)} {z:List Value} {cs:List AV} (hs:dT P T=some (e,sz,by_)) (hz:eH P e=some z)
 (hn:0<n∨parts=#[]) (hlim:n * sz≤2 ^ 24) (yR:(parts.toList.all fun p=>(st.ev p.2).jE)=true)
 (hf:gT (fun i=>some (i * sz,sz)) ((List.range n).flatMap fun _=>z.map .v) (parts.toList.map fun p=>(p.1,st.ev p.2))=some cs) :
 ∃v w' xs,(Instr.buildSlice T n (parts.map fun (i,x)=>(i,a.eval x))).run P w=.ok v w'∧w.grownBy w' none∧oD w' w.heap.size e sz v n xs∧gD (ctx h0 w0 ρ st w) cs xs:=by
 obtain⟨ei,ez,hT,Ct,DQ,rfl,DK,rfl,Bf⟩:=kF hs
 obtain⟨i',zv,Dr,NN,rfl,S3⟩:=zZ hz
 rw[Ct] at Dr
 cases Dr
 rw[DQ] at NN;cases NN
 rcases Nat.eq_zero_or_pos n with h0'|hn
 ·subst h0'
  have hp:parts=#[]:=by
   rcases hn with h|h
   ·omega
   ·exact h
  subst hp;simp[gT] at hf
  subst hf;refine⟨.slice (some ⟨w.heap.size,0,none⟩) 0 0,w.alloc (.cells #[] e),[], ?_,World.grownBy_alloc w _ none,⟨by simp,.inl ⟨_,rfl,rfl⟩⟩,.nil _⟩
  simp[Instr.buildSlice,run_underlying hT,sizeOf,typeInfo,zeroValue,Ct,Instr.fill,newRow]
  rw[show Array.map (fun x=>(default:Value)) (Array.range 0)=#[] from by simp[Array.range]]
 have fU:lQ (ctx h0 w0 ρ st w) ((parts.toList.map fun p=>(p.1,st.ev p.2)).map (·.2)) ((parts.toList.map fun p=>(p.1,a.eval p.2)).map (·.2)):=by
  simp only[List.map_map];exact lQ.map _ _ _ fun p _=>S.ev p.2
 have hnz:¬n * ei.size=0:=by
  have:=Nat.mul_pos hn Bf
  omega
 have XT:((Array.range (n * ei.size)).map (ez.cells[· % ez.cells.size]!)).toList=(List.range n).flatMap fun _=>ez.cells.toList:=by
  rw[← DK];exact Jh ez.cells n
 obtain⟨cells,NO,oU⟩:=Na (place:=fun i=>some (i * ei.size,ei.size)) (parts.toList.map fun p=>(p.1,st.ev p.2)) (parts.toList.map fun p=>(p.1,a.eval p.2)) _ ((Array.range (n * ei.size)).map (ez.cells[· % ez.cells.size]!)) cs (by simp) fU
  (fun p UR=>by
   obtain⟨q,hq,rfl⟩:=List.mem_map.1 UR
   exact List.all_eq_true.1 yR q hq) (by rw[XT];exact Ku S3 n) hf
 have hr:=run_buildSlice (P:=P) w T e n (parts.map fun (i,x)=>(i,a.eval x)) cells ei ez hT Ct DQ (by omega) hnz (by simpa using NO)
 have hsz:cells.size=n * ei.size:=by
  have hlen:∀(place:Nat→Option (Nat × Nat)) (ps:List (Nat × AV)) (c out:List AV),gT place c ps=some out→out.length=c.length:=by
   intro place ps;induction ps with
   | nil=>intro c out h;simp[gT] at h;rw[h]
   | cons p ps ih =>
     intro c out h;obtain⟨i,x⟩:=p
     unfold gT at h;split at h
     ·cases h
     ·split at h
      ·rename_i hc;have:=ih _ _ h
       rw[this];simp
       omega
      ·cases h
  have h1:=hlen _ _ _ _ hf
  have h2:=oU.len
  have h3:=(Ku (C:=ctx h0 w0 ρ st w) S3 n).len
  rw[← XT] at h3;simp only[Array.length_toList,Array.size_map,Array.size_range] at h2 h3;omega
 refine⟨_,_,cells.toList,hr,World.grownBy_alloc w _ none,Hz ?_,oU⟩
 refine⟨by simp[hsz],.inr ⟨w.heap.size,n,cells,rfl,Nat.le_refl _,heap_alloc_new w _,Nat.le_refl _, ?_,hsz, ?_⟩⟩
 ·have:n≤n * ei.size:=Nat.le_mul_of_pos_right n Bf
  simp only[maxLen];omega
 ·rw[← hsz,← Array.length_toList,List.take_length]
theorem Ww (C:Ctx) {T e sz by_:Nat} {z:List Value} {n:Nat} (hs:dT P T=some (e,sz,by_)) (hz:eH P e=some z)
 (hb:n * by_≤140737488355328) (hm:n≤maxLen) :
 ∃v w' xs,(Instr.makeSlice T (.int .i64 n) (.int .i64 n)).run P w=.ok v w'∧w.grownBy w' none∧oD w' w.heap.size e sz v n xs∧gD C ((List.range n).flatMap fun _=>z.map .v) xs:=by
 obtain⟨ei,ez,hT,Ct,DQ,rfl,DK,rfl,Bf⟩:=kF hs
 obtain⟨i',zv,Dr,NN,rfl,S3⟩:=zZ hz
 rw[Ct] at Dr
 cases Dr
 rw[DQ] at NN;cases NN
 obtain⟨w',hr,ho,hg⟩:=run_make_full (P:=P) w w.heap.size T e ei ez ei.size hT Ct DQ rfl .i64 .i64 n (by rw[Nat.mul_comm];omega) hm (Nat.le_refl _)
 have XT:(madeCells ez.cells (n * ei.size)).toList=(List.range n).flatMap fun _=>ez.cells.toList:=by
  unfold madeCells;rw[← DK];exact Jh ez.cells n
 exact⟨_,w',_,hr,hg,Hz ho,by rw[XT];exact Ku S3 n⟩
theorem QT (S:kY F h0 w0 nt ρ st a w) {T:Nat} {x y:AV} {s g:Nat} {e:nP} {u v:Value} (h:qA P st T x y=some (s,g,e)) (hu:cY (ctx h0 w0 ρ st w) x u) (hv:cY (ctx h0 w0 ρ st w) y v) :
 ∃w',(Instr.storeAt T u v).run P w=.ok () w'∧kY F h0 w0 nt ρ (st.jC s g (some e)) a w':=by
 unfold qA at h;split at h
 ·rename_i s' g' off
  split at h
  ·rename_i ba k hld;split at h
   ·rename_i hc;obtain⟨c1,c2⟩:=hc
    obtain⟨i,d,hi,hd,kZ,rfl⟩:=Br hld
    have KI:=hv.cells c2
    have hlen:=KI.len
    simp only[Array.length_toList] at hlen;cases hu with
    | ptr _ _ _ b hg hb =>
      have oB:dI (ρ s' g')=some b:=hb
      have main:∀(arr:Array Value) (B:Nat),w.heap[b]? = some (.cells arr B (0,0))→off+i.size≤arr.size →
       (Instr.storeAt T (.pointer (some ⟨b,off,none⟩)) v).run P w=.ok () (w.setRow b (arr.toList.take off++v.cells.toList++arr.toList.drop (off+i.size)).toArray):=by
       intro arr B hh hle;have yR:=run_storeCells_at P b off B v.cells.toList 0 arr w hh (by simp;omega) (fun y hy=>by
        obtain⟨j,hj,rfl⟩:=List.getElem_of_mem hy
        exact KI.one j _ (by simp))
       simp only[Nat.add_zero,Array.length_toList] at yR;simp only[Instr.storeAt,Instr.sureAddr];rw[dL (Sem.run_pure P w _)];simp only[storeVar,dL (run_sizeOf w hi)];rw[if_neg (by omega),show off+i.size=off+v.cells.size by omega]
       exact yR
      have grown:∀(cs:Array Value),w.grownBy (w.setRow b cs) (some b):=fun cs=>⟨rfl,rfl,rfl,by simp,fun k _ hk=>setRow_other w b k cs (fun e=>hk (by rw[e]))⟩
      cases he:st.heap s' g' with
      | none=>simp[he] at h
      | some e' =>
        obtain⟨_,_,her⟩:=S.sR s' g' _ he
        cases e' with
        | cells cs =>
          simp only[he] at h;split at h
          ·rename_i hle;simp only[Option.some.injEq,Prod.mk.injEq] at h;obtain⟨rfl,rfl,rfl⟩:=h
           obtain⟨b',arr,B,lD,xP,hh,hc⟩:=her
           have xX:b'=b:=by rw[lD] at oB;simpa [dI] using oB
           subst xX;have hl:=hc.len
           simp only[Array.length_toList] at hl;refine⟨_,main arr B hh (by omega),S.store he oB (grown _) fun C k=>⟨b',_,B,lD,xP,setRow_heap w b' arr _ B (0,0) hh, ?_⟩⟩
           exact (((hc.take off).app KI).app (hc.drop _)).le k
          ·cases h
        | row e2 sz n cs =>
          simp only[he] at h;split at h
          ·rename_i hle;simp only[Option.some.injEq,Prod.mk.injEq] at h;obtain⟨rfl,rfl,rfl⟩:=h
           obtain⟨xs,ho,hc⟩:=her
           have ho':=ho
           rcases ho.2 with ⟨p,lD,_⟩|⟨b',cap,cur,lD,xP,hh,Wu,J3,KF,ht,qP⟩
           ·rw[lD,pV] at oB;cases oB
           ·have xX:b'=b:=by rw[lD,kI qP] at oB;simpa using oB
            subst xX;have hl:=hc.len
            have hx:=ho.1
            have hle2:n * sz≤cap * sz:=Nat.mul_le_mul_right _ Wu
            refine⟨_,main cur e2 hh (by omega),S.store he oB (grown _) fun C k=>⟨xs.take off++v.cells.toList++xs.drop (off+i.size), ?_,(((hc.take off).app KI).app (hc.drop _)).le k⟩⟩
            refine⟨by simp;omega,.inr ⟨b',cap,_,lD,xP,setRow_heap w b' cur _ e2 (0,0) hh,Wu,J3,by simp;omega, ?_,qP⟩⟩
            simp only
            rw[← ht];have Ac:cur.toList.length=cur.size:=rfl
            have hvl:v.cells.toList.length=v.cells.size:=rfl
            have l1:(cur.toList.take off++v.cells.toList).length=off+i.size:=by simp;omega
            rw[List.take_append,l1,List.take_of_length_le (by omega),List.drop_take,List.take_take,Nat.min_eq_left (by omega)]
          ·cases h
        | map es=>simp[he] at h
   ·cases h
  ·cases h
 ·cases h
end
end Go.Ab
end
