/-
  Part 2 of the proof: an evaluator of programs, its soundness, and what functions of this program compute.
-/
import Derived.Test.YtmcjkemalibacaaGreatK1
import Derived.MapKept
set_option linter.all false
set_option maxRecDepth 20000
set_option maxHeartbeats 40000000
section
namespace Go.Ab
open Classical
section
variable {P:Program}
noncomputable def vfind (x:Value):List MapEntry→Nat→Option (Nat × Value)
 | [],_=>none
 | e :: r,i=>if x=e.key then some (i,e.val) else vfind x r (i+1)
theorem mk_inj {agg:Bool} {l:List Bool} {us vs:List Value} (h:LeafyV l us vs) (ha:agg=false→l.length=1):mk agg us=mk agg vs↔us=vs:=by
 cases agg with
 | true=>simp[mk]
 | false =>
   have h1:=ha rfl
   obtain⟨e1,e2⟩:=leafyV_len _ _ _ h
   obtain⟨a,rfl⟩:=List.length_eq_one_iff.1 (e1.trans h1)
   obtain⟨b,rfl⟩:=List.length_eq_one_iff.1 (e2.trans h1)
   simp[mk]
theorem run_equal_leafy (w:World) {k:Nat} {l:List Bool} {us vs:List Value} (hl:eqLeaves P 20 k=some l) (h:LeafyV l us vs) :
 (Op.equal k (mk (isAggT P k) us) (mk (isAggT P k) vs)).run P w=.ok (decide (mk (isAggT P k) us=mk (isAggT P k) vs)) w:=by
 have:=equalIn_sound (P:=P) 20 10000 (by omega) w k l hl us vs h
 unfold Op.equal Op.maxDepth
 rw[this]
 congr 1
 rw[Bool.eq_iff_iff]
 simp[mk_inj h (eqLeaves_plain 20 k l hl)]
def KeysL (P:Program) (k:Nat) (l:List Bool) (us:List Value) (es:List MapEntry):Prop:=∀ e∈es,∃ vs,e.key=mk (isAggT P k) vs∧LeafyV l us vs
theorem run_findAsking (w:World) {k:Nat} {l:List Bool} {us:List Value} (hl:eqLeaves P 20 k=some l):∀ (es:List MapEntry) (i:Nat),KeysL P k l us es →
 (Instr.findAsking k (mk (isAggT P k) us) es i).run P w=.ok (vfind (mk (isAggT P k) us) es i) w
 | [],i,_=>by simp[Instr.findAsking,vfind]
 | e :: es,i,h=>by
   obtain⟨vs,hk,hv⟩:=h e (by simp)
   have ih:=run_findAsking w hl es (i+1) (fun x hx=>h x (by simp[hx]))
   have he:=run_equal_leafy w hl hv
   simp only[Instr.findAsking,hk,Sem.run_bind,he,Result.andThen_ok,vfind]
   by_cases hq:mk (isAggT P k) us=mk (isAggT P k) vs
   ·simp[hq]
   ·simp[hq,ih]
theorem findNow_int {q k0:IntKind} {a:Int}:∀ (es:List MapEntry) (i:Nat),(∀ e∈es,∃ b,e.key=.int k0 b)→Instr.findNow (.int q) (.int k0 a) es i=some (vfind (.int k0 a) es i)
 | [],i,_=>rfl
 | e :: es,i,h=>by
   obtain⟨b,hk⟩:=h e (by simp)
   have ih:=findNow_int (q:=q) (a:=a) es (i+1) (fun x hx=>h x (by simp[hx]))
   simp only[Instr.findNow,Instr.sameNow,hk,if_true,vfind]
   by_cases hq:a=b
   ·subst hq;simp
   ·have:(a == b)=false:=by simp[hq]
    simp[this,ih,hq]
theorem findNow_bool {a:Bool}:∀ (es:List MapEntry) (i:Nat),(∀ e∈es,∃ b,e.key=.bool b)→Instr.findNow .bool (.bool a) es i=some (vfind (.bool a) es i)
 | [],i,_=>rfl
 | e :: es,i,h=>by
   obtain⟨b,hk⟩:=h e (by simp)
   have ih:=findNow_bool (a:=a) es (i+1) (fun x hx=>h x (by simp[hx]))
   simp only[Instr.findNow,Instr.sameNow,hk,vfind]
   by_cases hq:a=b
   ·subst hq;simp
   ·have:(a == b)=false:=by simp[hq]
    simp[this,ih,hq]
theorem mapKeyOk_spec {l:List Bool} {k:Nat} (h:mapKeyOk P l k=true):(∃ q,P.underlying k=some (.int q))∨P.underlying k=some .bool ∨
 ∃ n e q i,P.underlying k=some (.array n e)∧P.underlying e=some (.int q)∧P.info? e=some i∧i.size=1∧l.length=n:=by
 unfold mapKeyOk at h
 split at h
 ·rename_i q hq;exact .inl ⟨q,hq⟩
 ·rename_i hq;exact .inr (.inl hq)
 ·rename_i n e hu
  split at h
  ·rename_i q hq
   simp only[Bool.and_eq_true,decide_eq_true_eq] at h
   obtain⟨⟨⟨h1,h2⟩,h3⟩,_⟩:=h
   obtain⟨i,hi⟩:=Option.isSome_iff_exists.1 h3
   exact .inr (.inr ⟨n,e,q,i,hu,hq,hi,by rw[← cellsOf_info hi];exact h1,h2⟩)
  ·cases h
 ·cases h
theorem run_findKey' (w:World) {k:Nat} {l:List Bool} {us:List Value} (hl:eqLeaves P 20 k=some l) (hm:mapKeyOk P l k=true) (hu:LeafyV l us us) {es:List MapEntry} (h:KeysL P k l us es) :
 (Instr.findKey k (mk (isAggT P k) us) es).run P w=.ok (vfind (mk (isAggT P k) us) es 0) w:=by
 rcases mapKeyOk_spec hm with ⟨q,hk⟩ | hk | ⟨n,e,q,i,hk,_⟩
 ·have hagg:isAggT P k=false:=by simp[isAggT,hk]
  have hl':l=[true]:=by simpa [eqLeaves,hk] using hl.symm
  subst hl'
  have hus:∀ vs,LeafyV [true] us vs→∃ k0 a b,us=[.int k0 a]∧vs=[.int k0 b]:=fun vs h=>by
   cases us with
   | nil=>simp[LeafyV] at h
   | cons u us=>cases vs with
     | nil=>cases u<;>simp[LeafyV] at h
     | cons v vs =>
       cases u<;>cases v<;>simp[LeafyV] at h
       cases us<;>cases vs<;>simp[LeafyV] at h
       subst h
       exact⟨_,_,_,rfl,rfl⟩
  obtain⟨k0,a,_,e1,_⟩:=hus us hu
  have hkeys:∀ e∈es,∃ b,e.key=.int k0 b:=fun e he=>by
   obtain⟨vs,h1,h2⟩:=h e he
   obtain⟨k1,a1,b1,e2,e3⟩:=hus vs h2
   rw[e1] at e2
   simp at e2
   exact⟨b1,by rw[h1,hagg,e3];simp[mk,e2.1]⟩
  have hx:mk (isAggT P k) us=.int k0 a:=by rw[hagg,e1];rfl
  rw[hx]
  simp only[Instr.findKey,Sem.run_bind,run_underlying' hk,Result.andThen_ok,findNow_int es 0 hkeys]
  rfl
 ·have hagg:isAggT P k=false:=by simp[isAggT,hk]
  have hl':l=[false]:=by simpa [eqLeaves,hk] using hl.symm
  subst hl'
  have hus:∀ vs,LeafyV [false] us vs→∃ a b,us=[.bool a]∧vs=[.bool b]:=fun vs h=>by
   cases us with
   | nil=>simp[LeafyV] at h
   | cons u us=>cases vs with
     | nil=>cases u<;>simp[LeafyV] at h
     | cons v vs =>
       cases u<;>cases v<;>simp[LeafyV] at h
       cases us<;>cases vs<;>simp[LeafyV] at h
       exact⟨_,_,rfl,rfl⟩
  obtain⟨a,_,e1,_⟩:=hus us hu
  have hkeys:∀ e∈es,∃ b,e.key=.bool b:=fun e he=>by
   obtain⟨vs,h1,h2⟩:=h e he
   obtain⟨a1,b1,e2,e3⟩:=hus vs h2
   exact⟨b1,by rw[h1,hagg,e3];rfl⟩
  have hx:mk (isAggT P k) us=.bool a:=by rw[hagg,e1];rfl
  rw[hx]
  simp only[Instr.findKey,Sem.run_bind,run_underlying' hk,Result.andThen_ok,findNow_bool es 0 hkeys]
  rfl
 ·have hagg:isAggT P k=true:=by simp[isAggT,hk]
  cases es with
  | nil =>
    simp[Instr.findKey,run_underlying' hk,Instr.findNow,vfind]
  | cons m es =>
    have hn:Instr.findNow (.array n e) (mk (isAggT P k) us) (m :: es) 0=none:=by
     simp[Instr.findNow,Instr.sameNow]
    simp only[Instr.findKey,Sem.run_bind,run_underlying' hk,Result.andThen_ok,hn]
    exact run_findAsking w hl (m :: es) 0 h
theorem run_checkKey' (w:World) {k:Nat} {l:List Bool} {us:List Value} (hl:eqLeaves P 20 k=some l) (hm:mapKeyOk P l k=true) (hu:LeafyV l us us) (em:Bool) :
 (Instr.checkKey em 10000 k (mk (isAggT P k) us)).run P w=.ok () w:=by
 have plain:∀ (n t:Nat) (q:IntKind) (x:Value),P.underlying t=some (.int q)→(Instr.checkKey em (n+1) t x).run P w=.ok () w:=fun n t q x ht=>by
  simp[Instr.checkKey,run_underlying' ht]
 rcases mapKeyOk_spec hm with ⟨q,hk⟩ | hk | ⟨n,e,q,i,hk,he,hi,hs,hn⟩
 ·exact plain 9999 k q _ hk
 ·have plainB:∀ (n t:Nat) (x:Value),P.underlying t=some .bool→(Instr.checkKey em (n+1) t x).run P w=.ok () w:=fun n t x ht=>by
   simp[Instr.checkKey,run_underlying' ht]
  exact plainB 9999 k _ hk
 ·have hagg:isAggT P k=true:=by simp[isAggT,hk]
  have hea:isAggT P e=false:=by simp[isAggT,he]
  have hlen:=(leafyV_len _ _ _ hu).1
  rw[hagg]
  simp only[mk,if_true]
  rw[show (10000:Nat)=9999+1 from rfl,Instr.checkKey]
  simp only[Sem.run_bind,run_underlying' hk,Result.andThen_ok]
  simp only[Std.Legacy.Range.forIn_eq_forIn_range',Std.Legacy.Range.size,Nat.sub_zero,Nat.add_one_sub_one,Nat.div_one]
  have each:∀ j∈List.range' 0 n,j < us.length:=fun j hj=>by
   have:=List.mem_range'_1.1 hj
   omega
  generalize List.range' 0 n=is at each
  induction is with
  | nil=>simp
  | cons j is ih =>
    have hj:=each j (by simp)
    have p1:=run_part w he hi us j (fun _=>hs) (by omega)
    simp only[List.forIn_cons,Sem.run_bind,run_sizeOf w hi,hs,Nat.mul_one,Result.andThen_ok,p1,plain 9998 e q _ he,Sem.run_pure]
    exact ih fun y hy=>each y (by simp[hy])
theorem sameBits_ints:∀ (l:List Bool) (us:List Value),LeafyV l us us→∀ x∈us,∀ n,Instr.sameBits n x x=true
 | [],[],_,x,hx,n=>by simp at hx
 | true :: l,.int k a :: us,h,x,hx,n=>by
   rcases List.mem_cons.1 hx with rfl | hx
   ·cases n<;>simp[Instr.sameBits]
   ·exact sameBits_ints l us h.2 x hx n
 | false :: l,.bool a :: us,h,x,hx,n=>by
   rcases List.mem_cons.1 hx with rfl | hx
   ·cases n<;>simp[Instr.sameBits]
   ·exact sameBits_ints l us h x hx n
theorem run_stays (w:World) {agg:Bool} {l:List Bool} {us:List Value} (hu:LeafyV l us us) (ha:agg=false→l.length=1):(Instr.keyThatStays (mk agg us) (mk agg us)).run P w=.ok (mk agg us) w:=by
 have hs:Instr.sameBits 10000 (mk agg us) (mk agg us)=true:=by
  cases agg with
  | true =>
    simp only[mk,if_true]
    show Instr.sameBits (9999+1) _ _=true
    simp only[Instr.sameBits,beq_self_eq_true,Bool.true_and]
    have hall:∀ x∈us,Instr.sameBits 9999 x x=true:=fun x hx=>sameBits_ints l us hu x hx 9999
    clear hu
    induction us with
    | nil=>rfl
    | cons x us ih =>
      simp only[List.zip_cons_cons,List.all_cons,Bool.and_eq_true]
      exact⟨hall x (by simp),ih fun y hy=>hall y (by simp[hy])⟩
  | false =>
    obtain⟨a,rfl⟩:=List.length_eq_one_iff.1 ((leafyV_len _ _ _ hu).1.trans (ha rfl))
    exact sameBits_ints l [a] hu a (by simp) 10000
 simp[Instr.keyThatStays,hs]
theorem key_val {k:Nat} {x y:AV} {C:Ctx} {u v:Value} (h:keyOkA P k x y) (hu:RelV C x u) (hv:RelV C y v) :
 ∃ l us vs,eqLeaves P 20 k=some l∧LeafyV l us vs∧u=mk (isAggT P k) us∧v=mk (isAggT P k) vs∧(x=y↔u=v):=by
 unfold keyOkA at h
 cases hl:eqLeaves P 20 k with
 | none=>simp[hl] at h
 | some l =>
   simp only[hl] at h
   obtain⟨h1,h2,h3⟩:=h
   cases hagg:isAggT P k with
   | true =>
     obtain⟨⟨cs,rfl⟩,ds,rfl⟩:=h2 hagg
     obtain⟨us,vs,e1,e2,e3⟩:=leafy_vs _ _ _ h1
     simp only[AV.cells] at e1 e2
     subst e1;subst e2
     have eu:=relV_agg_vs hu
     have ev:=relV_agg_vs hv
     refine⟨l,us,vs,rfl,e3,by rw[eu];rfl,by rw[ev];rfl, ?_⟩
     rw[eu,ev]
     simp[map_v_inj]
   | false =>
     obtain⟨⟨a,rfl⟩,b,rfl⟩:=h3 hagg
     obtain⟨us,vs,e1,e2,e3⟩:=leafy_vs _ _ _ h1
     have eu:=relV_v hu
     have ev:=relV_v hv
     subst eu;subst ev
     have f1:us=[u]:=by
      cases us with
      | nil=>simp[AV.cells] at e1
      | cons c us=>simp[AV.cells] at e1;simp[e1.1,← e1.2]
     have f2:vs=[v]:=by
      cases vs with
      | nil=>simp[AV.cells] at e2
      | cons c vs=>simp[AV.cells] at e2;simp[e2.1,← e2.2]
     subst f1;subst f2
     exact⟨l,_,_,rfl,e3,rfl,rfl,by simp⟩
theorem keysL_of {k:Nat} {x:AV} {C:Ctx} {u:Value} {l:List Bool} {us:List Value} (hl:eqLeaves P 20 k=some l) (hu:RelV C x u) (he:u=mk (isAggT P k) us) (hx:LeafyV l us us):∀ {es:List (AV × AV)} {ms:List MapEntry},
 (∀ p∈es,keyOkA P k x p.1)→MapL C es ms→KeysL P k l us ms
 | [],[],_,_=>fun e h=>by simp at h
 | p :: es,m :: ms,hk,h=>by
   have ih:=keysL_of hl hu he hx (es:=es) (ms:=ms) (fun q hq=>hk q (by simp[hq])) h.2.2
   intro e hem
   rcases List.mem_cons.1 hem with rfl | hem
   ·obtain⟨l',us',vs,e1,e2,e3,e4,_⟩:=key_val (hk p (by simp)) hu h.1
    rw[hl] at e1
    cases e1
    refine⟨vs,e4, ?_⟩
    have:us'=us:=by
     rw[he] at e3
     have hlen1:=(leafyV_len _ _ _ hx).1
     have hlen2:=(leafyV_len _ _ _ e2).1
     cases hagg:isAggT P k with
     | true=>rw[hagg] at e3;simpa [mk] using e3.symm
     | false =>
       have h1:=eqLeaves_plain 20 k l hl hagg
       obtain⟨a,rfl⟩:=List.length_eq_one_iff.1 (hlen1.trans h1)
       obtain⟨b,rfl⟩:=List.length_eq_one_iff.1 (hlen2.trans h1)
       rw[hagg] at e3
       simpa [mk] using e3.symm
    rw[← this]
    exact e2
   ·exact ih e hem
 | [],_ :: _,_,h=>h.elim
 | _ :: _,[],_,h=>h.elim
theorem mget_spec {k:Nat} {x:AV} {C:Ctx} {u:Value} (hu:RelV C x u):∀ {es:List (AV × AV)} {ms:List MapEntry} (i:Nat),(∀ p∈es,keyOkA P k x p.1)→MapL C es ms →
 (mget es x=none∧vfind u ms i=none)∨∃ v y j,mget es x=some v∧vfind u ms i=some (i+j,y)∧RelV C v y∧j < ms.length
 | [],[],i,_,_=>.inl ⟨rfl,rfl⟩
 | p :: es,m :: ms,i,hk,h=>by
   obtain⟨l',us',vs,e1,e2,e3,e4,e5⟩:=key_val (hk p (by simp)) hu h.1
   simp only[mget,vfind]
   by_cases hq:x=p.1
   ·rw[if_pos hq.symm,if_pos (e5.1 hq)]
    exact .inr ⟨_,_,0,rfl,rfl,h.2.1,by simp⟩
   ·rw[if_neg (Ne.symm hq),if_neg (fun h'=>hq (e5.2 h'))]
    rcases mget_spec hu (es:=es) (ms:=ms) (i+1) (fun q hq=>hk q (by simp[hq])) h.2.2 with ⟨h1,h2⟩ | ⟨v,y,j,h1,h2,h3,h4⟩
    ·exact .inl ⟨h1,h2⟩
    ·exact .inr ⟨v,y,j+1,h1,by rw[h2];congr 2;omega,h3,by simp;omega⟩
 | [],_ :: _,_,_,h=>h.elim
 | _ :: _,[],_,_,h=>h.elim
theorem mset_spec {k:Nat} {x z:AV} {C:Ctx} {u y:Value} (hu:RelV C x u) (hz:RelV C z y):∀ {es:List (AV × AV)} {ms:List MapEntry} (i:Nat),(∀ p∈es,keyOkA P k x p.1)→MapL C es ms →
 (vfind u ms i=none∧∀ c,MapL C (mset es x z) (ms ++ [{ key:=u,val:=y,born:=c }])) ∨
 ∃ v j,vfind u ms i=some (i+j,v)∧(∃ m,ms[j]? = some m∧m.key=u)∧MapL C (mset es x z) (ms.modify j fun e=>{ e with key:=u,val:=y })
 | [],[],i,_,_=>.inl ⟨rfl,fun c=>⟨hu,hz,trivial⟩⟩
 | p :: es,m :: ms,i,hk,h=>by
   obtain⟨l',us',vs,e1,e2,e3,e4,e5⟩:=key_val (hk p (by simp)) hu h.1
   simp only[mset,vfind]
   by_cases hq:x=p.1
   ·rw[if_pos hq.symm,if_pos (e5.1 hq)]
    exact .inr ⟨_,0,rfl,⟨m,rfl,(e5.1 hq).symm⟩,by simp[List.modify];exact⟨hu,hz,h.2.2⟩⟩
   ·rw[if_neg (Ne.symm hq),if_neg (fun h'=>hq (e5.2 h'))]
    rcases mset_spec hu hz (es:=es) (ms:=ms) (i+1) (fun q hq=>hk q (by simp[hq])) h.2.2 with ⟨h1,h2⟩ | ⟨v,j,h1,h2,h3⟩
    ·exact .inl ⟨h1,fun c=>⟨h.1,h.2.1,h2 c⟩⟩
    ·exact .inr ⟨v,j+1,by rw[h1];congr 2;omega,by simpa using h2,by simp[List.modify_succ_cons];exact⟨h.1,h.2.1,h3⟩⟩
 | [],_ :: _,_,_,h=>h.elim
 | _ :: _,[],_,_,h=>h.elim
theorem mapInfo_spec {T k:Nat} {z:AV} (h:mapInfo P T=some (k,z)):∃ e l zv,P.underlying T=some (.map k e)∧eqLeaves P 20 k=some l∧mapKeyOk P l k=true ∧
 (∀ w,(zeroValue e).run P w=.ok zv w)∧∀ C:Ctx,RelV C z zv:=by
 unfold mapInfo at h
 split at h
 ·rename_i k' e hT
  split at h
  ·rename_i l z' hl hz
   split at h
   ·rename_i hm
    simp only[Option.some.injEq,Prod.mk.injEq] at h
    obtain⟨rfl,rfl⟩:=h
    unfold zeroA at hz
    split at hz
    ·rename_i i hi
     split at hz
     ·rename_i cs hzz
      split at hz
      ·rename_i hall
       simp only[Option.some.injEq] at hz
       subst hz
       refine⟨e,l,_,hT,hl,hm,fun w=>run_zeroValue w hi hzz,fun C=>?_⟩
       have hc:=CellL.vs C cs.toList (List.all_eq_true.1 hall)
       exact .agg _ _ (by simp) (fun j x y hx hy=>hc.rel j x y hx (by simpa using hy)) (fun j y hy=>hc.one j y (by simpa using hy))
      ·cases hz
     ·rename_i y hy hzz
      split at hz
      ·simp only[Option.some.injEq] at hz
       subst hz
       exact⟨e,l,_,hT,hl,hm,fun w=>run_zeroValue w hi hzz,fun C=>.v _⟩
      ·cases hz
     ·cases hz
    ·cases hz
   ·cases h
  ·cases h
 ·cases h
end
section
variable {P:Program} {h0:Nat→Obj→Prop} {w0:World} {F:Frm} {nt:Nat} {ρ:Nat→Nat→Value} {st:St} {a:Act} {w:World}
theorem look_sound (S:Sim F h0 w0 nt ρ st a w) {T:Nat} {m x z:AV} {ok:Bool} {mv xv:Value} (h:lookA P st T m x ok=some z) (hm:RelV (ctx h0 w0 ρ st w) m mv) (hx:RelV (ctx h0 w0 ρ st w) x xv) :
 ∃ r,(Instr.lookup T mv xv ok).run P w=.ok r w∧RelV (ctx h0 w0 ρ st w) z r:=by
 unfold lookA at h
 split at h
 ·rename_i s g
  split at h
  ·rename_i es k zd he hi
   split at h
   ·rename_i hk
    obtain⟨e,l,zv,hT,hl,hmk,hz,hzr⟩:=mapInfo_spec hi
    obtain⟨_,_,b,arr,clock,hρ,_,hh,hml⟩:=S.ent s g _ he
    obtain⟨l',us,vs,e1,e2,e3,e4,_⟩:=key_val hk.1 hx hx
    rw[hl] at e1
    cases e1
    have hvs:vs=us:=by
     rw[e3] at e4
     have hlen:=leafyV_len _ _ _ e2
     cases hagg:isAggT P k with
     | true=>rw[hagg] at e4;simpa [mk] using e4.symm
     | false =>
       have h1:=eqLeaves_plain 20 k l hl hagg
       obtain⟨p,rfl⟩:=List.length_eq_one_iff.1 (hlen.1.trans h1)
       obtain⟨q,rfl⟩:=List.length_eq_one_iff.1 (hlen.2.trans h1)
       rw[hagg] at e4
       simpa [mk] using e4.symm
    subst hvs
    have hkeys:=keysL_of hl hx e3 e2 hk.2 hml
    cases hm with
    | mp _ _ hg ho =>
      show ∃ r,(Instr.lookup T (ρ s g) xv ok).run P w=.ok r w∧_
      rw[hρ,e3]
      have hck:=run_checkKey' w hl hmk e2 arr.isEmpty
      have hfk:=run_findKey' w hl hmk e2 hkeys
      rcases mget_spec hx 0 hk.2 hml with ⟨h1,h2⟩ | ⟨v,y,j,h1,h2,h3,_⟩
      ·rw[h1] at h
       simp only[Option.some.injEq] at h
       subst h
       rw[e3] at h2
       rw[h2] at hfk
       refine⟨if ok=true then .tuple #[zv,.bool false] else zv,by
        simp[Instr.lookup,run_underlying' hT,MapKept.run_getObj_map hh,hck,hfk,hz w], ?_⟩
       cases ok
       ·exact hzr _
       ·exact .tup _ _ rfl fun i x y hx hy=>by
         match i with
         | 0=>simp at hx hy;subst hx;subst hy;exact hzr _
         | 1=>simp at hx hy;subst hx;subst hy;exact .v _
         | i+2=>simp at hx
      ·rw[h1] at h
       simp only[Option.some.injEq] at h
       subst h
       rw[e3] at h2
       rw[h2] at hfk
       refine⟨if ok=true then .tuple #[y,.bool true] else y,by
        simp[Instr.lookup,run_underlying' hT,MapKept.run_getObj_map hh,hck,hfk], ?_⟩
       cases ok
       ·exact h3
       ·exact .tup _ _ rfl fun i x y hx hy=>by
         match i with
         | 0=>simp at hx hy;subst hx;subst hy;exact h3
         | 1=>simp at hx hy;subst hx;subst hy;exact .v _
         | i+2=>simp at hx
   ·cases h
  ·cases h
 ·cases h
theorem mapSet_sound (S:Sim F h0 w0 nt ρ st a w) {T s g:Nat} {m x y:AV} {e:Ent} {mv xv yv:Value} (h:mapSetA P st T m x y=some (s,g,e))
 (hm:RelV (ctx h0 w0 ρ st w) m mv) (hx:RelV (ctx h0 w0 ρ st w) x xv) (hy:RelV (ctx h0 w0 ρ st w) y yv) :
 ∃ w',(Instr.mapUpdate T mv xv yv).run P w=.ok () w'∧Sim F h0 w0 nt ρ (st.setH s g (some e)) a w':=by
 unfold mapSetA at h
 split at h
 ·rename_i s' g'
  split at h
  ·rename_i es k zd he hi
   split at h
   ·rename_i hk
    obtain⟨hk,hst⟩:=hk
    simp only[Option.some.injEq,Prod.mk.injEq] at h
    obtain⟨rfl,rfl,rfl⟩:=h
    obtain⟨e,l,zv,hT,hl,hmk,hz,hzr⟩:=mapInfo_spec hi
    obtain⟨_,_,b,arr,clock,hρ,hbase,hh,hml⟩:=S.ent s' g' _ he
    obtain⟨l',us,vs,e1,e2,e3,e4,_⟩:=key_val hk.1 hx hx
    rw[hl] at e1
    cases e1
    have hvs:vs=us:=by
     rw[e3] at e4
     have hlen:=leafyV_len _ _ _ e2
     cases hagg:isAggT P k with
     | true=>rw[hagg] at e4;simpa [mk] using e4.symm
     | false =>
       have h1:=eqLeaves_plain 20 k l hl hagg
       obtain⟨p,rfl⟩:=List.length_eq_one_iff.1 (hlen.1.trans h1)
       obtain⟨q,rfl⟩:=List.length_eq_one_iff.1 (hlen.2.trans h1)
       rw[hagg] at e4
       simpa [mk] using e4.symm
    subst hvs
    have hkeys:=keysL_of hl hx e3 e2 hk.2 hml
    clear e4
    subst e3
    have hb':blkOf (ρ s' g')=some b:=by rw[hρ];rfl
    have grown:∀ o,w.grownBy { w with heap:=w.heap.setIfInBounds b o } (some b):=fun o=>⟨rfl,rfl,rfl,by simp,fun k _ hk=>by
     have hne:b≠k:=fun e=>hk (by rw[e])
     simp[hne]⟩
    cases hm with
    | mp _ _ hg ho =>
      show ∃ w',(Instr.mapUpdate T (ρ s' g') _ yv).run P w=.ok () w'∧_
      have hck:=run_checkKey' w hl hmk e2 false
      have hfk:=run_findKey' w hl hmk e2 hkeys
      have hlt:b < w.heap.size:=(Array.getElem?_eq_some_iff.1 hh).1
      rcases mset_spec (z:=y) hx hy 0 hk.2 hml with ⟨h1,h2⟩ | ⟨v,j,h1,⟨m0,hm0,hmk0⟩,h3⟩
      ·rw[h1] at hfk
       refine⟨_,by
        rw[hρ]
        simp only[Instr.mapUpdate,Sem.run_bind,run_underlying' hT,MapKept.run_getObj_map hh,Result.andThen_ok,hck,hfk,MapKept.run_setObj_map _ hh]
        rfl,S.store he hb' (grown _) fun C kk=>?_⟩
       refine⟨b,arr.push { key:=mk (isAggT P k) vs,val:=yv,born:=clock },clock+1,hρ,hbase,by simp[hlt], ?_⟩
       have:=(h2 clock).le kk
       simpa using this
      ·rw[h1] at hfk
       have hst:=run_stays (P:=P) w (agg:=isAggT P k) e2 (eqLeaves_plain 20 k l hl)
       have hm0':arr[j]? = some m0:=by simpa using hm0
       have hkey:((arr[0+j]?).map (·.key)).getD (mk (isAggT P k) vs)=mk (isAggT P k) vs:=by
        rw[Nat.zero_add,hm0']
        simp[hmk0]
       refine⟨_,by
        rw[hρ]
        simp only[Instr.mapUpdate,Sem.run_bind,run_underlying' hT,MapKept.run_getObj_map hh,Result.andThen_ok,hck,hfk,hkey,hst,MapKept.run_setObj_map _ hh]
        rfl,S.store he hb' (grown _) fun C kk=>?_⟩
       refine⟨b,arr.modify (0+j) fun e=>{ e with key:=mk (isAggT P k) vs,val:=yv },clock,hρ,hbase,by simp[hlt], ?_⟩
       have:=h3.le kk
       simpa [Array.toList_modify] using this
   ·cases h
  ·cases h
 ·cases h
end
end Go.Ab
end
section
namespace Go.Ab
open Classical
section
variable {P:Program} {h0:Nat→Obj→Prop} {w0:World} {F:Frm} {nt:Nat} {ρ:Nat→Nat→Value} {st:St} {a:Act} {w:World}
theorem slice_sound (S:Sim F h0 w0 nt ρ st a w) {T:Nat} {x z:AV} {lo hi:Option Operand} {u:Value} (h:sliceA P st T x lo hi=some z) (hu:RelV (ctx h0 w0 ρ st w) x u) :
 ∃ r,(Instr.sliceAt T u (lo.map a.eval) (hi.map a.eval) none).run P w=.ok r w∧RelV (ctx h0 w0 ρ st w) z r:=by
 unfold sliceA at h
 cases hs:slInfo P T with
 | none =>
   simp only[hs] at h
   split at h
   ·rename_i n sz s g o ha
    obtain⟨e,ei,hT,hi,rfl,hne⟩:=arrInfo_spec ha
    simp only[Option.some.injEq] at h
    subst h
    cases hu with
    | ptr _ _ _ b hg hb =>
      refine⟨.slice (some ⟨b,o,none⟩) n n, ?_,.vw s g o n b n hg hb (Nat.le_refl _)⟩
      simp[Instr.sliceAt,run_underlying' hT,Instr.sureAddr,Instr.sliceBounds,run_sizeOf w hi,addr_add]
   ·cases h
 | some t =>
   obtain⟨e,sz,by_⟩:=t
   simp only[hs] at h
   obtain⟨ei,ez,hT,hie,hz0,rfl,hzs,rfl,hpos⟩:=slInfo_spec hs
   have hiv:∀ (o:Option Operand) (n:Int) (k:IntKind) (i:Int),(match o with | some h=>st.ev h | none=>AV.v (.int .i64 n))=.v (.int k i) →
    (match o with | some h=>a.eval h | none=>Value.int .i64 n)=.int k i:=fun o n k i ho=>by
    cases o with
    | none=>simp only at ho ⊢;cases ho;rfl
    | some p =>
      simp only at ho ⊢
      have:=S.ev p
      rw[ho] at this
      exact relV_v this
   have hrun:∀ (p:Option Addr) (n cap:Nat) (kh kl:IntKind) (H L:Int),n≤cap→(match hi with | some h=>a.eval h | none=>Value.int .i64 n)=.int kh H→(match lo with | some l=>a.eval l | none=>Value.int .i64 0)=.int kl L →
    0≤L→L≤H→H≤n →
    (Instr.sliceAt T (.slice p n cap) (lo.map a.eval) (hi.map a.eval) none).run P w=.ok (.slice (if cap=L.toNat then p else p.map (·.add (L.toNat * ei.size))) (H.toNat - L.toNat) (cap - L.toNat)) w:=by
    intro p n cap kh kl H L hcap hh hl l0 l1 l2
    have b1:H≤(cap:Int):=by omega
    have b2:L≤((H.toNat:Nat):Int):=by omega
    have b3:0≤H:=by omega
    have b6:max H 0=H:=by omega
    cases hi with
    | none =>
      simp only[Value.int.injEq] at hh
      obtain⟨rfl,rfl⟩:=hh
      cases lo with
      | none =>
        simp only[Value.int.injEq] at hl
        obtain⟨rfl,rfl⟩:=hl
        simp[Instr.sliceAt,Instr.slice,Instr.sliceBounds,run_underlying' hT,run_sizeOf w hie]
      | some l =>
        simp only at hl
        simp[Instr.sliceAt,Instr.slice,Instr.sliceBounds,Instr.sliceBound,asIntOf,run_underlying' hT,run_sizeOf w hie,hl,l0,l1]
    | some h =>
      simp only at hh
      cases lo with
      | none =>
        simp only[Value.int.injEq] at hl
        obtain⟨rfl,rfl⟩:=hl
        simp[Instr.sliceAt,Instr.slice,Instr.sliceBounds,Instr.sliceBound,asIntOf,run_underlying' hT,run_sizeOf w hie,hh,b3,b1]
      | some l =>
        simp only at hl
        simp[Instr.sliceAt,Instr.slice,Instr.sliceBounds,Instr.sliceBound,asIntOf,run_underlying' hT,run_sizeOf w hie,hh,hl,l0,b3,b1,b6,l1]
   cases x with
   | sl n cs =>
     simp only at h
     split at h
     ·rename_i kh H kl L e1 e2
      split at h
      ·rename_i hc
       obtain⟨c1,c2,c3,c4⟩:=hc
       simp only[Option.some.injEq] at h
       subst h
       have e1':=hiv hi n kh H e1
       have e2':=hiv lo 0 kl L e2
       have hHL:(H - L).toNat=H.toNat - L.toNat:=by omega
       cases hu with
       | sl0 n cap p hcap =>
         refine⟨_,hrun p n cap kh kl H L hcap e1' e2' c1 c2 c3, ?_⟩
         rw[hHL]
         simp only[List.drop_nil,List.take_nil]
         exact .sl0 _ _ _ (by omega)
       | sl n cs b off cap arr T' fr hcap hb hle hr h1 =>
         refine⟨_,hrun _ n cap kh kl H L hcap e1' e2' c1 c2 c3, ?_⟩
         rw[hHL]
         by_cases hm:cap=L.toNat
         ·have hz:H.toNat - L.toNat=0:=by omega
          rw[if_pos hm,hz]
          simp only[Nat.zero_mul,List.take_zero]
          exact .sl0 _ _ _ (by omega)
         ·rw[if_neg hm]
          simp only[Option.map_some,addr_add]
          have hbound:L.toNat * ei.size+(H.toNat - L.toNat) * ei.size≤cs.length:=by
           rw[c4,← Nat.add_mul]
           exact Nat.mul_le_mul_right _ (by omega)
          refine .sl _ _ b (off+L.toNat * ei.size) _ arr T' fr (by omega) hb (by simp;omega) (fun i x y hx hy=>?_) (fun i y hi' hy=>?_)
          ·rw[List.getElem?_take] at hx
           split at hx
           ·rw[List.getElem?_drop] at hx
            exact hr _ x y hx (by rw[← Nat.add_assoc];exact hy)
           ·cases hx
          ·simp only[List.length_take,List.length_drop] at hi'
           exact h1 (L.toNat * ei.size+i) y (by omega) (by rw[← Nat.add_assoc];exact hy)
      ·cases h
     ·cases h
   | v xv =>
     split at h
     ·rename_i heq;cases heq
     ·rename_i heq
      cases heq
      split at h
      ·rename_i kh H kl L e1 e2
       split at h
       ·rename_i hc
        obtain⟨rfl,rfl⟩:=hc
        simp only[Option.some.injEq] at h
        subst h
        have:=relV_v hu
        subst this
        have e1':=hiv hi 0 kh 0 e1
        have e2':=hiv lo 0 kl 0 e2
        refine⟨_,hrun none 0 0 kh kl 0 0 (Nat.le_refl _) e1' e2' (by omega) (by omega) (by omega), ?_⟩
        simp
        exact .v _
       ·cases h
      ·cases h
     ·rename_i heq;cases heq
     ·cases h
   | own s g =>
     simp only at h
     cases he:st.heap s g with
     | none=>simp[he] at h
     | some en =>
       cases en with
       | row e' sz' n es =>
         simp only[he] at h
         split at h
         ·rename_i kh H kl L e1 e2
          split at h
          ·rename_i hc
           obtain⟨c1,c2,c3⟩:=hc
           have e1':=hiv hi n kh H e1
           have e2':=hiv lo 0 kl L e2
           have hHL:(H - L).toNat=H.toNat - L.toNat:=by omega
           obtain⟨hlt,_,xs,ho,hcl⟩:=S.ent s g _ he
           cases hu with
           | own _ _ hg h1 =>
             show ∃ r,(Instr.sliceAt T (ρ s g) (lo.map a.eval) (hi.map a.eval) none).run P w=.ok r w∧_
             rcases ho.2 with ⟨p,hρ,hn⟩ | ⟨b',cap,cur,hρ,_,hh,hnc,_,_,ht,hc0⟩
             ·rw[hρ]
              subst hn
              have hLH:L=H:=by omega
              rw[if_pos hLH] at h
              simp only[Option.some.injEq] at h
              subst h
              have hz:H.toNat - L.toNat=0:=by omega
              refine⟨_,hrun p 0 0 kh kl H L (Nat.le_refl _) e1' e2' c1 c2 c3, ?_⟩
              rw[hz]
              exact .sl0 _ _ _ (by omega)
             ·rw[hρ]
              refine⟨_,hrun _ n cap kh kl H L hnc e1' e2' c1 c2 c3, ?_⟩
              split at h
              ·rename_i hLH
               simp only[Option.some.injEq] at h
               subst h
               have hz:H.toNat - L.toNat=0:=by omega
               rw[hz]
               exact .sl0 _ _ _ (by omega)
              ·rename_i hLH
               simp only[Option.some.injEq] at h
               subst h
               rw[if_neg (by omega),hHL]
               simp only[Option.map_some,addr_add,Nat.zero_add]
               exact .vw s g _ _ b' _ hg (by show blkOf (ρ s g)=_;rw[hρ,blkOf_sl hc0]) (by omega)
          ·cases h
         ·cases h
       | _=>simp[he] at h
   | _=>first | (simp at h;done) | (cases h;done)
theorem slice3_sound (S:Sim F h0 w0 nt ρ st a w) {T:Nat} {x z:AV} {lo:Option Operand} {hi mx:Operand} {u:Value} (h:sliceA3 P st T x lo hi mx=some z) (hu:RelV (ctx h0 w0 ρ st w) x u) :
 ∃ r,(Instr.sliceAt T u (lo.map a.eval) (some (a.eval hi)) (some (a.eval mx))).run P w=.ok r w∧RelV (ctx h0 w0 ρ st w) z r:=by
 unfold sliceA3 at h
 cases hs:slInfo P T with
 | none=>simp[hs] at h
 | some t =>
   obtain⟨e,sz,by_⟩:=t
   simp only[hs] at h
   obtain⟨ei,ez,hT,hie,hz0,rfl,hzs,rfl,hpos⟩:=slInfo_spec hs
   have hop:∀ (o:Operand) (k:IntKind) (i:Int),st.ev o=.v (.int k i)→a.eval o=.int k i:=fun o k i ho=>by
    have:=S.ev o
    rw[ho] at this
    exact relV_v this
   split at h
   ·rename_i kh H km M kl L e1 e2 e3
    have f1:=hop _ _ _ e1
    have f2:=hop _ _ _ e2
    have hrun:∀ (p:Option Addr) (n cap:Nat),n≤cap→0≤L→L≤H→H=M→H≤n →
     (Instr.sliceAt T (.slice p n cap) (lo.map a.eval) (some (a.eval hi)) (some (a.eval mx))).run P w=.ok (.slice (if H.toNat=L.toNat then p else p.map (·.add (L.toNat * ei.size))) (H.toNat - L.toNat) (H.toNat - L.toNat)) w:=by
     intro p n cap hcap l0 l1 l2 l3
     subst l2
     have b1:H≤(cap:Int):=by omega
     have b2:L≤((H.toNat:Nat):Int):=by omega
     have b3:0≤H:=by omega
     have b4:H≤((H.toNat:Nat):Int):=by omega
     have b6:max H 0=H:=by omega
     cases lo with
     | none =>
       simp only[AV.v.injEq,Value.int.injEq] at e3
       obtain⟨rfl,rfl⟩:=e3
       simp[Instr.sliceAt,Instr.slice,Instr.sliceBounds,Instr.sliceBound,asIntOf,run_underlying' hT,run_sizeOf w hie,f1,f2,b3,b1,b4,b6]
     | some l =>
       simp only at e3
       have f3:=hop _ _ _ e3
       simp[Instr.sliceAt,Instr.slice,Instr.sliceBounds,Instr.sliceBound,asIntOf,run_underlying' hT,run_sizeOf w hie,f1,f2,f3,l0,l1,b3,b1,b2,b4,b6]
    split at h
    ·rename_i n cs
     split at h
     ·rename_i hc
      obtain⟨c1,c2,c3,c4,c5⟩:=hc
      simp only[Option.some.injEq] at h
      subst h
      have hHL:(H - L).toNat=H.toNat - L.toNat:=by omega
      cases hu with
      | sl0 n cap p hcap =>
        refine⟨_,hrun p n cap hcap c1 c2 c3 c4, ?_⟩
        rw[hHL]
        simp only[List.drop_nil,List.take_nil]
        exact .cl0 _ _
      | sl n cs b off cap arr T' fr hcap hb hle hr h1 =>
        refine⟨_,hrun _ n cap hcap c1 c2 c3 c4, ?_⟩
        rw[hHL]
        by_cases hm:H.toNat=L.toNat
        ·have hz:H.toNat - L.toNat=0:=by omega
         rw[if_pos hm,hz]
         simp only[Nat.zero_mul,List.take_zero]
         exact .cl0 _ _
        ·rw[if_neg hm]
         simp only[Option.map_some,addr_add]
         have hbound:L.toNat * ei.size+(H.toNat - L.toNat) * ei.size≤cs.length:=by
          rw[c5,← Nat.add_mul]
          exact Nat.mul_le_mul_right _ (by omega)
         refine .cl _ _ b (off+L.toNat * ei.size) arr T' fr hb (by simp;omega) (fun i x y hx hy=>?_) (fun i y hi' hy=>?_)
         ·rw[List.getElem?_take] at hx
          split at hx
          ·rw[List.getElem?_drop] at hx
           exact hr _ x y hx (by rw[← Nat.add_assoc];exact hy)
          ·cases hx
         ·simp only[List.length_take,List.length_drop] at hi'
          exact h1 (L.toNat * ei.size+i) y (by omega) (by rw[← Nat.add_assoc];exact hy)
     ·cases h
    ·split at h
     ·rename_i hc
      obtain⟨c1,c2,c3⟩:=hc
      simp only[Option.some.injEq] at h
      subst h
      have:=relV_v hu
      subst this
      refine⟨_,hrun none 0 0 (Nat.le_refl _) (by omega) (by omega) (by omega) (by omega), ?_⟩
      subst c2
      simp
      exact .v _
     ·cases h
    ·cases h
   ·cases h
theorem relV_ptr {C:Ctx} {s g off:Nat} {v:Value} (h:RelV C (.ptr s g off) v):∃ b off,v=.pointer (some ⟨b,off,none⟩):=by
 cases h;exact⟨_,_,rfl⟩
theorem relV_ip {C:Ctx} {cs:List AV} {o:Nat} {v:Value} (h:RelV C (.ip cs o) v):∃ b off,v=.pointer (some ⟨b,off,none⟩):=by
 cases h;exact⟨_,_,rfl⟩
theorem relV_tup {C:Ctx} {vs:List AV} {v:Value} (h:RelV C (.tup vs) v):∃ ar,v=.tuple ar∧vs.length=ar.size∧∀ (i:Nat) (x:AV) (y:Value),vs[i]? = some x→ar[i]? = some y→RelV C x y:=by
 cases h with
 | tup cs a hl hr=>exact⟨a,rfl,hl,hr⟩
theorem opVal_sound (S:Sim F h0 w0 nt ρ st a w) {o:Oper} {x:AV} (h:opVal P st o.op=some x) :
 ∃ v,(execOp a.eval o).run P w=.ok (.value v) w∧RelV (ctx h0 w0 ρ st w) x v:=by
 cases hop:o.op with
 | move y=>rw[hop] at h;simp[opVal] at h;subst h;exact⟨_,by simp[execOp,hop],S.ev y⟩
 | assign y=>rw[hop] at h;simp[opVal] at h;subst h;exact⟨_,by simp[execOp,hop],S.ev y⟩
 | pick c y z =>
   rw[hop] at h
   simp only[opVal] at h
   split at h
   ·rename_i t hc
    simp only[Option.some.injEq] at h
    subst h
    have:=S.ev c
    rw[hc] at this
    have:=relV_v this
    refine⟨if t=true then a.eval y else a.eval z,by simp[execOp,hop,this,asBool], ?_⟩
    cases t
    ·exact S.ev z
    ·exact S.ev y
   ·cases h
 | binOp op T y z yT =>
   rw[hop] at h
   simp only[opVal] at h
   obtain⟨r,hr,hrel⟩:=binA_sound (w:=w) y z h (S.ev y) (S.ev z)
   exact⟨r,by simp only[execOp,hop];rw[run_ok_bind hr];rfl,hrel⟩
 | unOp op T y =>
   rw[hop] at h
   simp only[opVal] at h
   obtain⟨r,hr,hrel⟩:=unA_sound (P:=P) (w:=w) h (S.ev y)
   exact⟨r,by simp only[execOp,hop];rw[run_ok_bind hr];rfl,hrel⟩
 | convert src dst y =>
   rw[hop] at h
   simp only[opVal] at h
   split at h
   ·rename_i k' n k ks hy hk hks
    simp only[Option.some.injEq] at h
    subst h
    have:=S.ev y
    rw[hy] at this
    have hv:=relV_v this
    have hu:∀ {t:Nat} {k:IntKind},intKind P t=some k→P.underlying t=some (.int k):=fun {t k} hk=>by
     unfold intKind at hk
     split at hk
     ·rename_i hu;cases hk;exact hu
     ·cases hk
    refine⟨_, ?_,.v _⟩
    simp[execOp,hop,hv,convert,run_underlying' (hu hk),run_underlying' (hu hks),Conv.intToInt]
   ·cases h
 | nilCheck y =>
   rw[hop] at h
   simp only[opVal] at h
   split at h
   ·rename_i s g off hy
    simp only[Option.some.injEq] at h
    subst h
    have hr:=S.ev y
    rw[hy] at hr
    obtain⟨b,off',hv⟩:=relV_ptr hr
    exact⟨a.eval y,by simp[execOp,hop,hv],hr⟩
   ·rename_i cs o hy
    simp only[Option.some.injEq] at h
    subst h
    have hr:=S.ev y
    rw[hy] at hr
    obtain⟨b,off',hv⟩:=relV_ip hr
    exact⟨a.eval y,by simp[execOp,hop,hv],hr⟩
   ·cases h
 | fieldAddr T y f =>
   rw[hop] at h
   simp only[opVal] at h
   split at h
   ·rename_i k hf
    obtain⟨r,hr,hrel⟩:=fieldAddr_sound (w:=w) hf h (S.ev y)
    exact⟨r,by simp only[execOp,hop];rw[run_ok_bind hr];rfl,hrel⟩
   ·cases h
 | field T y f =>
   rw[hop] at h
   simp only[opVal] at h
   unfold fieldA at h
   split at h
   ·rename_i cs hy
    have hr:=S.ev y
    rw[hy] at hr
    obtain⟨u,hu⟩:∃ u,a.eval y=u:=⟨_,rfl⟩
    rw[hu] at hr
    cases hr with
    | agg _ ar hl hrel h1 =>
      have key:∀ off b k,fieldInfo P T f=some (off,b,k)→∃ fs fd i d,P.underlying T=some (.struct fs)∧fs[f]? = some fd∧fd.offset=off∧P.info? fd.type=some i∧P.underlying fd.type=some d∧isAggT P fd.type=b∧i.size=k∧(b=true∨k=1):=fun off b k hf=>by
       unfold fieldInfo at hf
       split at hf
       ·rename_i fs hT
        split at hf
        ·rename_i fd hfd
         split at hf
         ·rename_i b' k' hld
          split at hf
          ·rename_i hc
           simp only[Option.some.injEq,Prod.mk.injEq] at hf
           obtain⟨rfl,rfl,rfl⟩:=hf
           obtain⟨i,d,hi,hd,hagg,hk⟩:=ldInfo_spec hld
           exact⟨fs,fd,i,d,hT,hfd,rfl,hi,hd,hagg,hk,hc⟩
          ·cases hf
         ·cases hf
        ·cases hf
       ·cases hf
      split at h
      ·rename_i off k hf
       obtain⟨fs,fd,i,d,hT,hfd,rfl,hi,hd,hagg,rfl,_⟩:=key _ _ _ hf
       split at h
       ·rename_i hle
        simp only[Option.some.injEq] at h
        subst h
        have hp:=run_part w hd hi ar.toList fd.offset (by rw[hagg];simp) (by simp;omega)
        rw[hagg] at hp
        simp only[mk,if_true,Array.toArray_toList] at hp
        refine⟨_,by
         simp only[execOp,hop,hu]
         rw[run_ok_bind (show (Instr.field T (Value.agg ar) f).run P w=.ok _ w by
          simp only[Instr.field,Sem.run_bind,run_underlying' hT,Result.andThen_ok,hfd,asAgg,Sem.run_pure]
          exact hp)]
         rfl,.agg _ _ (by simp[hl]) (fun j x z hx hz=>?_) fun j z hz=>?_⟩
        ·rw[List.getElem?_take] at hx
         split at hx
         ·rename_i hj
          rw[List.getElem?_drop] at hx
          refine hrel _ x z hx ?_
          simpa [hj,List.getElem?_take,List.getElem?_drop] using hz
         ·cases hx
        ·have hz':ar[fd.offset+j]? = some z:=by
          simp only[List.getElem?_toArray,List.getElem?_take,List.getElem?_drop] at hz
          split at hz
          ·simpa using hz
          ·cases hz
         exact h1 _ z hz'
       ·cases h
      ·rename_i off k hf
       obtain⟨fs,fd,i,d,hT,hfd,rfl,hi,hd,hagg,rfl,hk⟩:=key _ _ _ hf
       have hk1:i.size=1:=by simpa using hk
       have hlt:fd.offset < cs.length:=(List.getElem?_eq_some_iff.1 h).1
       have hp:=run_part w hd hi ar.toList fd.offset (fun _=>hk1) (by simp;omega)
       rw[hagg] at hp
       simp only[mk,Bool.false_eq_true,if_false,Array.toArray_toList] at hp
       refine⟨_,by
        simp only[execOp,hop,hu]
        rw[run_ok_bind (show (Instr.field T (Value.agg ar) f).run P w=.ok _ w by
         simp only[Instr.field,Sem.run_bind,run_underlying' hT,Result.andThen_ok,hfd,asAgg,Sem.run_pure]
         exact hp)]
        rfl, ?_⟩
       refine hrel fd.offset x _ h ?_
       have:fd.offset < ar.size:=by omega
       rw[hk1,List.take_one]
       simp[List.head?_drop,this]
      ·cases h
   ·cases h
 | indexAddr T y i =>
   rw[hop] at h
   simp only[opVal] at h
   obtain⟨r,hr,hrel⟩:=indexAddr_sound S h (S.ev y) (S.ev i)
   exact⟨r,by simp only[execOp,hop];rw[run_ok_bind hr];rfl,hrel⟩
 | load T y =>
   rw[hop] at h
   simp only[opVal] at h
   cases hra:readAt st (st.ev y) with
   | none=>simp[hra,bnd] at h
   | some cs =>
     simp only[hra,bnd] at h
     obtain⟨r,hr,hrel⟩:=load_sound S hra h (S.ev y)
     exact⟨r,by simp only[execOp,hop];rw[run_ok_bind hr];rfl,hrel⟩
 | extract t i =>
   rw[hop] at h
   simp only[opVal] at h
   split at h
   ·rename_i vs ht
    have hr:=S.ev t
    rw[ht] at hr
    obtain⟨ar,hv,hl,hrel⟩:=relV_tup hr
    have hi:i < vs.length:=(List.getElem?_eq_some_iff.1 h).1
    have hi':i < ar.size:=by omega
    refine⟨ar[i], ?_,hrel i x ar[i] h (by simp[hi'])⟩
    simp[execOp,hop,hv,Instr.extract,hi']
   ·cases h
 | build T parts =>
   rw[hop] at h
   simp only[opVal] at h
   obtain⟨r,hr,hrel⟩:=build_sound S h
   exact⟨r,by simp only[execOp,hop];rw[run_ok_bind hr];rfl,hrel⟩
 | slice T y lo hi mx =>
   rw[hop] at h
   cases mx with
   | some m =>
     cases hi with
     | none=>simp[opVal] at h
     | some hh =>
       simp only[opVal] at h
       obtain⟨r,hr,hrel⟩:=slice3_sound S h (S.ev y)
       exact⟨r,by simp only[execOp,hop,Option.map_some];rw[run_ok_bind hr];rfl,hrel⟩
   | none =>
     simp only[opVal] at h
     obtain⟨r,hr,hrel⟩:=slice_sound S h (S.ev y)
     exact⟨r,by simp only[execOp,hop,Option.map_none];rw[run_ok_bind hr];rfl,hrel⟩
 | lookup T y i ok =>
   rw[hop] at h
   simp only[opVal] at h
   obtain⟨r,hr,hrel⟩:=look_sound S h (S.ev y) (S.ev i)
   exact⟨r,by simp only[execOp,hop];rw[run_ok_bind hr];rfl,hrel⟩
 | makeFunc fn first captured =>
   rw[hop] at h
   cases fn with
   | func f =>
     simp only[opVal] at h
     split at h
     ·rename_i hf
      subst hf
      simp only[Option.some.injEq] at h
      subst h
      have hrel:RelL (ctx h0 w0 ρ st w) (captured.toList.map st.ev) (captured.toList.map a.eval):=RelL.map _ _ _ fun p _=>S.ev p
      refine⟨.func (.func f) #[] (captured.map a.eval), ?_,.clo f _ _ (by simp) fun i x y hx hy=>hrel.rel i x y hx (by simpa using hy)⟩
      simp[execOp,hop,Instr.makeFunc]
     ·cases h
   | _=>simp[opVal] at h
 | _=>rw[hop] at h;simp[opVal] at h
end
end Go.Ab
end
section
namespace Go.Ab
open Classical
theorem RelV.flat {C D:Ctx} {x:AV} {v:Value} (hf:Flat x) (hr:RelV C x v) (hh:∀ b o,C.h b o→D.h b o):RelV D x v:=by
 induction hr with
 | v x=>exact .v x
 | agg cs a hl _ h1 ih=>cases hf with | agg _ h=>exact .agg cs a hl (fun i x y hx hy=>ih i x y hx hy (h x (List.mem_of_getElem? hx))) h1
 | sl0 n cap p hcap=>exact .sl0 n cap p hcap
 | sl n cs b off cap arr T fr hcap hb hle _ h1 ih=>cases hf with | sl _ _ h=>exact .sl n cs b off cap arr T fr hcap (hh _ _ hb) hle (fun i x y hx hy=>ih i x y hx hy (h x (List.mem_of_getElem? hx))) h1
 | cl0 n p=>exact .cl0 n p
 | cl n cs b off arr T fr hb hle _ h1 ih=>cases hf with | cl _ _ h=>exact .cl n cs b off arr T fr (hh _ _ hb) hle (fun i x y hx hy=>ih i x y hx hy (h x (List.mem_of_getElem? hx))) h1
 | ip cs o b off arr T fr hb hle _ h1 ih=>cases hf with | ip _ _ h=>exact .ip cs o b off arr T fr (hh _ _ hb) hle (fun i x y hx hy=>ih i x y hx hy (h x (List.mem_of_getElem? hx))) h1
 | ptr=>cases hf
 | own=>cases hf
 | vw=>cases hf
 | mp=>cases hf
 | clo f cs a hl _ ih=>cases hf with | clo _ _ h=>exact .clo f cs a hl (fun i x y hx hy=>ih i x y hx hy (h x (List.mem_of_getElem? hx)))
 | tup cs a hl _ ih=>cases hf with | tup _ h=>exact .tup cs a hl (fun i x y hx hy=>ih i x y hx hy (h x (List.mem_of_getElem? hx)))
theorem RelV.memFree {C D:Ctx} {x:AV} {v:Value} (hf:MemFree x) (hr:RelV C x v):RelV D x v:=by
 induction hr with
 | v x=>exact .v x
 | agg cs a hl _ h1 ih=>cases hf with | agg _ h=>exact .agg cs a hl (fun i x y hx hy=>ih i x y hx hy (h x (List.mem_of_getElem? hx))) h1
 | tup cs a hl _ ih=>cases hf with | tup _ h=>exact .tup cs a hl (fun i x y hx hy=>ih i x y hx hy (h x (List.mem_of_getElem? hx)))
 | _=>cases hf
def bare (h:Nat→Obj→Prop):Ctx:=⟨h,fun _ _=>undef,fun _=>0⟩
inductive NoFr:AV→Prop
 | v (x:Value):NoFr (.v x)
 | agg (cs:List AV) (h:∀ x∈cs,NoFr x):NoFr (.agg cs)
 | tup (cs:List AV) (h:∀ x∈cs,NoFr x):NoFr (.tup cs)
 | own (s g:Nat):NoFr (.own s g)
theorem MemFree.noFr {x:AV} (h:MemFree x):NoFr x:=by
 induction h with
 | v x=>exact .v x
 | agg cs _ ih=>exact .agg cs ih
 | tup cs _ ih=>exact .tup cs ih
theorem RelV.noFr {C D:Ctx} {x:AV} {v:Value} (hf:NoFr x) (hr:RelV C x v) (hc:∀ s,C.cnt s≤D.cnt s) (hρ:∀ s g,g < C.cnt s→D.ρ s g=C.ρ s g):RelV D x v:=by
 induction hr with
 | v x=>exact .v x
 | agg cs a hl _ h1 ih=>cases hf with | agg _ h=>exact .agg cs a hl (fun i x y hx hy=>ih i x y hx hy (h x (List.mem_of_getElem? hx))) h1
 | tup cs a hl _ ih=>cases hf with | tup _ h=>exact .tup cs a hl (fun i x y hx hy=>ih i x y hx hy (h x (List.mem_of_getElem? hx)))
 | own s g hg ho=>rw[← hρ s g hg];exact .own s g (Nat.lt_of_lt_of_le hg (hc s)) (by rw[hρ s g hg];exact ho)
 | _=>cases hf
def newHs (h0:Nat→Obj→Prop) (w w':World) (vs:List Value):Nat→Obj→Prop :=
 fun b o=>w'.heap[b]? = some o∧(b < w.heap.size→h0 b o)∧∀ x∈vs,blkOf x≠some b
def RelR (h0:Nat→Obj→Prop) (w w':World) (r:AV) (v:Value):Prop :=
 ∃ vs:List Value,(∀ x∈vs,x.oneCell'=true)∧(∀ (i j:Nat) (x y:Value) (b:Nat),vs[i]? = some x→vs[j]? = some y→blkOf x=some b→blkOf y=some b→i=j) ∧
   (∀ x∈vs,∀ b,blkOf x=some b→w.heap.size≤b)∧(∀ d c,(opn d c r).2.length=vs.length) ∧
   ∀ (D:Ctx) (d c:Nat),(∀ b o,newHs h0 w w' vs b o→D.h b o)→(∀ (i:Nat) (x:Value),vs[i]? = some x→c+i < D.cnt d∧D.ρ d (c+i)=x) →
     RelV D (opn d c r).1 v∧∀ (i:Nat) (e:Ent) (x:Value),(opn d c r).2[i]? = some e→vs[i]? = some x→EntRel D w' w.heap.size x e
def SoundC (P:Program) (g:Nat) (xs:List AV) (r:AV):Prop :=
 ∀ (w:World) (h0:Nat→Obj→Prop) (vs:Array Value),(∀ b o,h0 b o→w.heap[b]? = some o)→RelL (bare h0) xs vs.toList →
   Calls P g vs w fun e w'=>∃ v,e=.returned v∧RelR h0 w w' r v∧w.grownBy w' none
def SoundM (P:Program) (g e sz n:Nat) (cs xs:List AV) (r:AV):Prop :=
 ∀ (w:World) (h0:Nat→Obj→Prop) (v0:Value) (ys:List Value) (vs:Array Value),(∀ b o,h0 b o→w.heap[b]? = some o)→(∀ b o,h0 b o→blkOf v0≠some b)→ownsR w 0 e sz v0 n ys→CellL (bare h0) cs ys →
   RelL (bare h0) xs vs.toList→Calls P g (#[v0] ++ vs) w fun en w'=>∃ v,en=.returned v∧w.grownBy w' (blkOf v0) ∧
    match r with
    | .uniq e' sz' n' cs'=>∃ zs,ownsR w' 0 e' sz' v n' zs∧CellL (bare h0) cs' zs∧∀ b,blkOf v=some b→blkOf v0=some b∨w.heap.size≤b
    | .tup [.uniq e' sz' n' cs']=>v=.tuple #[]∧∃ zs,ownsR w' 0 e' sz' v0 n' zs∧CellL (bare h0) cs' zs
    | _=>False
def SoundX (P:Program) (g:Nat) (xs:List AV) (r:AV):Prop :=
 match xs with
 | .uniq e sz n cs :: rest=>SoundM P g e sz n cs rest r
 | xs=>SoundC P g xs r
def Enters (P : Program) (g : Nat) : Prop := ∃ fn, P.funcs[g]? = some fn ∧ (fn.name == "runtime.NumGoroutine") = false ∧ fn.body.isSome = true
def CallOk (P:Program) (call:Nat→List AV→Option AV):Prop:=∀ g xs r,call g xs=some r→Enters P g∧SoundX P g xs r
theorem opnL_id {f:Nat→AV→AV × List Ent}:∀ (xs:List AV) (c:Nat),(∀ x∈xs,∀ c,f c x=(x,[]))→opnL f c xs=(xs,[])
 | [],c,_=>rfl
 | x :: xs,c,h=>by
   simp only[opnL,h x (by simp),List.length_nil,Nat.add_zero,opnL_id xs c fun y hy=>h y (by simp[hy]),List.nil_append]
theorem opnC_flat {x:AV} (h:Flat x) (d c:Nat):opnC d c x=(x,[]):=by cases h<;>rfl
theorem opn1_flat {x:AV} (h:Flat x) (d c:Nat):opn1 d c x=(x,[]):=by
 cases h with
 | agg cs h=>simp only[opn1,opnL_id (f:=opnC d) cs c fun x hx c=>opnC_flat (h x hx) d c]
 | _=>rfl
theorem opn_flat {x:AV} (h:Flat x) (d c:Nat):opn d c x=(x,[]):=by
 cases h with
 | tup cs h=>simp only[opn,opnL_id (f:=opn1 d) cs c fun x hx c=>opn1_flat (h x hx) d c]
 | agg cs h=>exact opn1_flat (.agg cs h) d c
 | _=>rfl
theorem relR_flat {h0:Nat→Obj→Prop} {w w':World} {r:AV} {v:Value} (hf:Flat r) (h:RelV (bare (newHs h0 w w' [])) r v):RelR h0 w w' r v :=
 ⟨[],by simp,by simp,by simp,fun d c=>by rw[opn_flat hf];rfl,fun D d c hD _=>by
  rw[opn_flat hf]
  exact⟨h.flat hf hD,by simp⟩⟩
theorem EntRel.base {C:Ctx} {w:World} {b b':Nat} {v:Value} {e:Ent} (h:EntRel C w b v e) (hb:b'≤b):EntRel C w b' v e:=by
 cases e with
 | cells cs=>obtain⟨k,arr,T,h1,h2,h3⟩:=h;exact⟨k,arr,T,h1,Nat.le_trans hb h2,h3⟩
 | row e sz n cs=>obtain⟨xs,ho,hc⟩:=h;exact⟨xs,ownsR_base ho hb,hc⟩
 | map es=>obtain⟨k,arr,T,h1,h2,h3⟩:=h;exact⟨k,arr,T,h1,Nat.le_trans hb h2,h3⟩
theorem ownsR_rebase {w:World} {b b' e sz n:Nat} {v:Value} {xs:List Value} (h:ownsR w b e sz v n xs) (hb:∀ k,blkOf v=some k→b'≤k):ownsR w b' e sz v n xs:=by
 refine⟨h.1, ?_⟩
 rcases h.2 with h | ⟨g,cap,cur,rfl,h1,h2,h3,h4,h5,h6,hc⟩
 ·exact .inl h
 ·exact .inr ⟨g,cap,cur,rfl,hb g (blkOf_sl hc),h2,h3,h4,h5,h6,hc⟩
theorem optAll_spec {α:Type}:∀ (l:List (Option α)) (r:List α),optAll l=some r→l=r.map some
 | [],r,h=>by simp[optAll] at h;subst h;rfl
 | none :: l,r,h=>by simp[optAll] at h
 | some x :: l,r,h=>by
   simp only[optAll,Option.map_eq_some_iff] at h
   obtain⟨r',h',rfl⟩:=h
   rw[optAll_spec l r' h']
   rfl
section
variable {P:Program} {h0:Nat→Obj→Prop} {w0:World} {F:Frm} {nt:Nat} {ρ:Nat→Nat→Value} {st:St} {a:Act} {w:World}
def lendH (h0:Nat→Obj→Prop) (w0 w:World):Nat→Obj→Prop:=fun b o=>w.heap[b]? = some o∧(b < w0.heap.size→h0 b o)
theorem ownsRow_sl {D:Ctx} {base e sz n:Nat} {v:Value} {xs:List Value} {cs:List AV} (hD:∀ b o,blkOf v=some b→base≤b→w.heap[b]? = some o→D.h b o) (h:ownsR w base e sz v n xs) (hc:CellL D cs xs):RelV D (.sl n cs) v:=by
 rcases h.2 with ⟨p,rfl,hn⟩ | ⟨g,cap,cur,rfl,hb,hg,hnc,_,hcs,ht,hc0⟩
 ·subst hn
  have:xs.length=0:=by rw[h.1];simp
  have:=hc.len
  have hnil:=List.length_eq_zero_iff.1 (show cs.length=0 by omega)
  subst hnil
  exact .sl0 0 0 p (by omega)
 ·have hl:=hc.len
  have hx:=h.1
  have hle:n * sz≤cap * sz:=Nat.mul_le_mul_right _ hnc
  refine .sl n cs g 0 cap cur e (0,0) hnc (hD g _ (blkOf_sl hc0) hb hg) (by omega) (fun i x y hx' hy=>?_) (fun i y hi hy=>?_)
  ·have hi:i < cs.length:=(List.getElem?_eq_some_iff.1 hx').1
   refine hc.rel i x y hx' ?_
   rw[← ht,List.getElem?_take,if_pos (by omega)]
   simpa using hy
  ·refine hc.one i y ?_
   rw[← ht,List.getElem?_take,if_pos (by omega)]
   simpa using hy
theorem CellL.flat {C D:Ctx} {cs:List AV} {ys:List Value} (h:CellL C cs ys) (hf:∀ c∈cs,Flat c) (hh:∀ b o,C.h b o→D.h b o):CellL D cs ys :=
 ⟨h.len,fun i x y hx hy=>(h.rel i x y hx hy).flat (hf x (List.mem_of_getElem? hx)) hh,h.one⟩
theorem ctx_lend (b:Nat) (o:Obj) (h:(ctx h0 w0 ρ st w).h b o):(bare (lendH h0 w0 w)).h b o:=⟨h.1,h.2.1⟩
theorem expo1_sound (S:Sim F h0 w0 nt ρ st a w) {x y:AV} {v:Value} (hu:RelV (ctx h0 w0 ρ st w) x v) (h:expo1 st x=some y):RelV (bare (lendH h0 w0 w)) y v∧(v.oneCell'=true∨y=x):=by
 unfold expo1 at h
 split at h
 ·rename_i hf
  simp only[Option.some.injEq] at h
  subst h
  exact⟨hu.flat hf ctx_lend,.inr rfl⟩
 ·split at h
  ·rename_i s g _
   split at h
   ·rename_i e sz n cs he
    split at h
    ·rename_i hf
     simp only[Option.some.injEq] at h
     subst h
     obtain⟨_,ho1,xs,ho,hc⟩:=S.ent s g _ he
     cases hu with
     | own s g hg h1=>exact⟨ownsRow_sl (fun b o _ hb hbo=>⟨hbo,fun hlt=>by omega⟩) ho (hc.flat hf ctx_lend),.inl h1⟩
    ·cases h
   ·cases h
  ·rename_i s g o n _
   split at h
   ·rename_i e sz N cs he
    split at h
    ·rename_i hf
     obtain⟨hf,hle⟩:=hf
     simp only[Option.some.injEq] at h
     subst h
     obtain⟨_,ho1,xs,ho,hc⟩:=S.ent s g _ he
     cases hu with
     | vw _ _ _ _ b cap hg hb hcap =>
       change blkOf (ρ s g)=some b at hb
       rcases ho.2 with ⟨p,hρ,hn⟩ | ⟨b',cap',cur,hρ,hbb,hh,_,_,_,ht,hc0⟩
       ·exfalso
        rw[hρ] at hb
        cases p<;>cases hb
       ·rw[hρ,blkOf_sl hc0] at hb
        simp only[Option.some.injEq] at hb
        subst hb
        have hc':=hc.flat (D:=bare (lendH h0 w0 w)) hf ctx_lend
        have hl:=hc.len
        have hxl:xs.length≤cur.size:=by rw[← ht];simp;omega
        have hget:∀ i,i < n * sz→cur[o+i]? = xs[o+i]?:=fun i hi=>by
         rw[← ht,List.getElem?_take,if_pos (by rw[← ho.1];omega)]
         simp
        refine⟨.sl _ _ b' o cap cur e (0,0) hcap ⟨hh,fun hlt=>by omega⟩ (by simp;omega) (fun i x y hx hy=>?_) (fun i y hi hy=>?_),.inl rfl⟩
        ·rw[List.getElem?_take] at hx
         split at hx
         ·rename_i hi
          rw[List.getElem?_drop] at hx
          rw[hget i hi] at hy
          exact hc'.rel _ x y hx hy
         ·cases hx
        ·simp only[List.length_take,List.length_drop] at hi
         rw[hget i (by omega)] at hy
         exact hc.one _ y hy
    ·cases h
   ·cases h
  ·rename_i s g off _
   split at h
   ·rename_i cs he
    split at h
    ·rename_i hf
     simp only[Option.some.injEq] at h
     subst h
     obtain⟨_,_,b',arr,T,hρ,hb',hh,hc⟩:=S.ent s g _ he
     cases hu with
     | ptr s g off b hg hb =>
       have hbb:b'=b:=by
        have h2:blkOf (ρ s g)=some b:=hb
        rw[hρ] at h2;simpa [blkOf] using h2
       subst hbb
       have hc':=hc.flat (D:=bare (lendH h0 w0 w)) hf ctx_lend
       have hl:=hc.len
       simp only[Array.length_toList] at hl
       have:=RelV.ip (C:=bare (lendH h0 w0 w)) cs off b' 0 arr T (0,0) ⟨hh,fun hlt=>by omega⟩ (by omega) (fun i x y hx hy=>hc'.rel i x y hx (by simpa using hy)) (fun i y hi hy=>hc.one i y (by simpa using hy))
       rw[Nat.zero_add] at this
       exact⟨this,.inl rfl⟩
    ·cases h
   ·cases h
  ·cases h
theorem expo_sound (S:Sim F h0 w0 nt ρ st a w) {x y:AV} {v:Value} (hu:RelV (ctx h0 w0 ρ st w) x v) (h:expo st x=some y):RelV (bare (lendH h0 w0 w)) y v:=by
 unfold expo at h
 split at h
 ·rename_i hf
  simp only[Option.some.injEq] at h
  subst h
  exact hu.flat hf ctx_lend
 ·split at h
  ·rename_i cs _
   simp only[Option.map_eq_some_iff] at h
   obtain⟨ds,hds,rfl⟩:=h
   have hm:=optAll_spec _ _ hds
   cases hu with
   | agg cs ar hl hr h1 =>
     have hlen:ds.length=cs.length:=by have:=congrArg List.length hm;simpa using this.symm
     refine .agg ds ar (by omega) (fun i x y hx hy=>?_) h1
     have hi:i < cs.length:=by have:=(List.getElem?_eq_some_iff.1 hx).1;omega
     have hx':expo1 st cs[i]=some x:=by
      have:=congrArg (·[i]?) hm
      simp only[List.getElem?_map,hx,List.getElem?_eq_getElem hi,Option.map_some,Option.some.injEq] at this
      exact this
     exact (expo1_sound S (hr i cs[i] y (by simp[hi]) hy) hx').1
  ·rename_i f caps _
   simp only[Option.map_eq_some_iff] at h
   obtain⟨ds,hds,rfl⟩:=h
   have hm:=optAll_spec _ _ hds
   cases hu with
   | clo f cs ar hl hr =>
     have hlen:ds.length=caps.length:=by have:=congrArg List.length hm;simpa using this.symm
     refine .clo f ds ar (by omega) (fun i x y hx hy=>?_)
     have hi:i < caps.length:=by have:=(List.getElem?_eq_some_iff.1 hx).1;omega
     have hx':expo1 st caps[i]=some x:=by
      have:=congrArg (·[i]?) hm
      simp only[List.getElem?_map,hx,List.getElem?_eq_getElem hi,Option.map_some,Option.some.injEq] at this
      exact this
     exact (expo1_sound S (hr i caps[i] y (by simp[hi]) hy) hx').1
  ·exact (expo1_sound S hu h).1
theorem expo1_flat {x y:AV} (h:expo1 st x=some y):Flat y:=by
 unfold expo1 at h
 split at h
 ·rename_i hf
  simp only[Option.some.injEq] at h
  subst h
  exact hf
 ·split at h
  ·split at h
   ·split at h
    ·rename_i hf
     simp only[Option.some.injEq] at h
     subst h
     exact .sl _ _ hf
    ·cases h
   ·cases h
  ·split at h
   ·split at h
    ·rename_i hf
     simp only[Option.some.injEq] at h
     subst h
     exact .sl _ _ fun c hc=>hf.1 c (List.mem_of_mem_drop (List.mem_of_mem_take hc))
    ·cases h
   ·cases h
  ·split at h
   ·split at h
    ·rename_i hf
     simp only[Option.some.injEq] at h
     subst h
     exact .ip _ _ hf
    ·cases h
   ·cases h
  ·cases h
theorem optAll_all {α β:Type} {p:β→Prop} {f:α→Option β} (hp:∀ a b,f a=some b→p b):∀ (l:List α) (r:List β),optAll (l.map f)=some r→∀ b∈r,p b
 | [],r,h=>by simp[optAll] at h;subst h;simp
 | a :: l,r,h=>by
   simp only[List.map_cons] at h
   cases ha:f a with
   | none=>simp[ha,optAll] at h
   | some b =>
     simp only[ha,optAll,Option.map_eq_some_iff] at h
     obtain⟨r',h',rfl⟩:=h
     intro c hc
     rcases List.mem_cons.1 hc with rfl | hc
     ·exact hp _ _ ha
     ·exact optAll_all hp l r' h' c hc
theorem expo_flat {x y:AV} (h:expo st x=some y):Flat y:=by
 unfold expo at h
 split at h
 ·rename_i hf
  simp only[Option.some.injEq] at h
  subst h
  exact hf
 ·split at h
  ·simp only[Option.map_eq_some_iff] at h
   obtain⟨ds,hds,rfl⟩:=h
   exact .agg _ (optAll_all (fun a b h=>expo1_flat h) _ _ hds)
  ·simp only[Option.map_eq_some_iff] at h
   obtain⟨ds,hds,rfl⟩:=h
   exact .clo _ _ (optAll_all (fun a b h=>expo1_flat h) _ _ hds)
  ·exact expo1_flat h
theorem expo2_sound (S:Sim F h0 w0 nt ρ st a w) {x y:AV} {v:Value} (hu:RelV (ctx h0 w0 ρ st w) x v) (h:expo2 st x=some y):RelV (bare (lendH h0 w0 w)) y v:=by
 unfold expo2 at h
 split at h
 ·rename_i s g
  split at h
  ·rename_i e sz n cs he
   simp only[Option.map_eq_some_iff] at h
   obtain⟨ds,hds,rfl⟩:=h
   have hm:=optAll_spec _ _ hds
   obtain⟨_,ho1,xs,ho,hc⟩:=S.ent s g _ he
   cases hu with
   | own s g hg h1 =>
     have hlen:ds.length=cs.length:=by have:=congrArg List.length hm;simpa using this.symm
     refine ownsRow_sl (fun b o _ hb hbo=>⟨hbo,fun hlt=>by omega⟩) ho ⟨by rw[hlen];exact hc.len,fun i x y hx hy=>?_,hc.one⟩
     have hi:i < cs.length:=by have:=(List.getElem?_eq_some_iff.1 hx).1;omega
     have hx':expo1 st cs[i]=some x:=by
      have:=congrArg (·[i]?) hm
      simp only[List.getElem?_map,hx,List.getElem?_eq_getElem hi,Option.map_some,Option.some.injEq] at this
      exact this
     exact (expo1_sound S (hc.rel i cs[i] y (by simp[hi]) hy) hx').1
  ·cases h
 ·exact (expo1_sound S hu h).1
theorem expoD_sound (S:Sim F h0 w0 nt ρ st a w) {x y:AV} {v:Value} (hu:RelV (ctx h0 w0 ρ st w) x v) (h:expoD st x=some y):RelV (bare (lendH h0 w0 w)) y v:=by
 unfold expoD at h
 split at h
 ·rename_i cs
  simp only[Option.map_eq_some_iff] at h
  obtain⟨ds,hds,rfl⟩:=h
  have hm:=optAll_spec _ _ hds
  cases hu with
  | agg cs ar hl hr h1 =>
    have hlen:ds.length=cs.length:=by have:=congrArg List.length hm;simpa using this.symm
    refine .agg ds ar (by omega) (fun i x y hx hy=>?_) h1
    have hi:i < cs.length:=by have:=(List.getElem?_eq_some_iff.1 hx).1;omega
    have hx':expo2 st cs[i]=some x:=by
     have:=congrArg (·[i]?) hm
     simp only[List.getElem?_map,hx,List.getElem?_eq_getElem hi,Option.map_some,Option.some.injEq] at this
     exact this
    exact expo2_sound S (hr i cs[i] y (by simp[hi]) hy) hx'
 ·exact expo2_sound S hu h
theorem expoS_sound (S:Sim F h0 w0 nt ρ st a w) {x y:AV} {v:Value} (hu:RelV (ctx h0 w0 ρ st w) x v) (h:expoS st x=some y):RelV (bare (lendH h0 w0 w)) y v:=by
 unfold expoS at h
 split at h
 ·rename_i z hz
  simp only[Option.some.injEq] at h
  subst h
  exact expo_sound S hu hz
 ·exact expoD_sound S hu h
theorem expo2_flat {x y:AV} (h:expo2 st x=some y):Flat y:=by
 unfold expo2 at h
 split at h
 ·split at h
  ·simp only[Option.map_eq_some_iff] at h
   obtain⟨ds,hds,rfl⟩:=h
   exact .sl _ _ (optAll_all (fun a b h=>expo1_flat h) _ _ hds)
  ·cases h
 ·exact expo1_flat h
theorem expoS_flat {x y:AV} (h:expoS st x=some y):Flat y:=by
 unfold expoS at h
 split at h
 ·rename_i z hz
  simp only[Option.some.injEq] at h
  subst h
  exact expo_flat hz
 ·unfold expoD at h
  split at h
  ·simp only[Option.map_eq_some_iff] at h
   obtain⟨ds,hds,rfl⟩:=h
   exact .agg _ (optAll_all (fun a b h=>expo2_flat h) _ _ hds)
  ·exact expo2_flat h
theorem expoS_of {x y:AV} (h:expo st x=some y):expoS st x=some y:=by unfold expoS;rw[h]
theorem expoS_none {x:AV} (h:expo st x=none):expoS st x=expoD st x:=by unfold expoS;rw[h]
end
end Go.Ab
end
section
namespace Go.Ab
open Classical
def RowsFree (es:List Ent):Prop:=∀ e∈es,∃ a b n cs,e=.row a b n cs∧∀ c∈cs,MemFree c
theorem opnC_fresh {x:AV} (h:FreshC x) (d c:Nat):NoFr (opnC d c x).1∧RowsFree (opnC d c x).2:=by
 cases x
 case uniq e sz n cs=>exact⟨.own _ _,fun e he=>by simp[opnC] at he;exact⟨_,_,_,_,he,h⟩⟩
 all_goals exact⟨MemFree.noFr h,fun e he=>by simp[opnC] at he⟩
theorem opnL_fresh {f:Nat→AV→AV × List Ent}:∀ (xs:List AV) (c:Nat),(∀ x∈xs,∀ c,NoFr (f c x).1∧RowsFree (f c x).2)→(∀ y∈(opnL f c xs).1,NoFr y)∧RowsFree (opnL f c xs).2
 | [],c,_=>⟨by simp[opnL],fun e he=>by simp[opnL] at he⟩
 | x :: xs,c,h=>by
   obtain⟨h1,h2⟩:=h x (by simp) c
   obtain⟨h3,h4⟩:=opnL_fresh xs (c+(f c x).2.length) fun y hy=>h y (by simp[hy])
   simp only[opnL]
   refine⟨fun y hy=>?_,fun e he=>?_⟩
   ·rcases List.mem_cons.1 hy with rfl | hy
    ·exact h1
    ·exact h3 y hy
   ·rcases List.mem_append.1 he with he | he
    ·exact h2 e he
    ·exact h4 e he
theorem opn1_fresh {x:AV} (h:Fresh1 x) (d c:Nat):NoFr (opn1 d c x).1∧RowsFree (opn1 d c x).2:=by
 cases x
 case agg cs =>
  obtain⟨h1,h2⟩:=opnL_fresh (f:=opnC d) cs c fun x hx c=>opnC_fresh (h x hx) d c
  exact⟨.agg _ h1,h2⟩
 all_goals
  refine @opnC_fresh _ ?_ d c
  exact h
theorem opn_fresh {x:AV} (h:Fresh x) (d c:Nat):NoFr (opn d c x).1∧RowsFree (opn d c x).2:=by
 cases x
 case tup cs =>
  obtain⟨h1,h2⟩:=opnL_fresh (f:=opn1 d) cs c fun x hx c=>opn1_fresh (h x hx) d c
  exact⟨.tup _ h1,h2⟩
 all_goals
  refine @opn1_fresh _ ?_ d c
  exact h
theorem CellL.memFree {C D:Ctx} {cs:List AV} {ys:List Value} (h:CellL C cs ys) (hm:∀ c∈cs,MemFree c):CellL D cs ys :=
 ⟨h.len,fun i x y hx hy=>(h.rel i x y hx hy).memFree (hm x (List.mem_of_getElem? hx)),h.one⟩
theorem EntRel.free {C D:Ctx} {w:World} {b:Nat} {v:Value} {e:Ent} (h:EntRel C w b v e) (hf:∃ a s n cs,e=.row a s n cs∧∀ c∈cs,MemFree c):EntRel D w b v e:=by
 obtain⟨a,s,n,cs,rfl,hm⟩:=hf
 obtain⟨xs,ho,hc⟩:=h
 exact⟨xs,ho,hc.memFree hm⟩
section
variable {P:Program} {h0:Nat→Obj→Prop} {w0:World} {F:Frm} {nt:Nat} {ρ:Nat→Nat→Value} {st:St} {a:Act} {w:World} {K:Act→World→Prop} {Q:Exit→Act→World→Prop}
theorem relL_flat {C D:Ctx} {xs:List AV} {vs:List Value} (h:RelL C xs vs) (hf:∀ x∈xs,Flat x) (hh:∀ b o,C.h b o→D.h b o):RelL D xs vs :=
 ⟨h.len,fun i x y hx hy=>(h.rel i x y hx hy).flat (hf x (List.mem_of_getElem? hx)) hh⟩
theorem putRes_sound (S:Sim F h0 w0 nt ρ st a w) {H:Nat→Obj→Prop} {w':World} {r:AV} {v:Value} {dst:Option Nat} {e:Eff} (hr:RelR H w w' r v) (hg:w.grownBy w' none)
 (hH:(∀ b o,H b o→(ctx h0 w0 ρ st w).h b o)∨Fresh r) (h:putRes r st dst=some e) (hd:∀ d,dst=some d→d < nt)
 (hK:∀ ρ' a' w',Sim F h0 w0 nt ρ' (e.apply st) a' w'→K a' w'):K (a.put dst v) w':=by
 obtain⟨vs,v1,v2,v3,v4,v5⟩:=hr
 unfold putRes at h
 split at h
 ·rename_i hf
  simp only[Option.some.injEq] at h
  subst h
  have hl:=v4 0 0
  rw[opn_flat hf] at hl
  have hvs:vs=[]:=List.length_eq_zero_iff.1 hl.symm
  subst hvs
  obtain⟨S',k⟩:=S.grow hg
  refine hK ρ _ _ (S'.put dst hd ?_)
  rcases hH with hH | hH
  ·have:=(v5 (ctx h0 w0 ρ st w') 0 0 (fun b o hb=>by
    by_cases hlt:b < w.heap.size
    ·exact k.h _ _ (hH _ _ (hb.2.1 hlt))
    ·exact⟨hb.1,fun h=>by have:=S.ext.size;omega,fun s g e he=>blkOf_ne_fresh S he (by omega)⟩) (by simp)).1
   rw[opn_flat hf] at this
   exact this
  ·have:=(v5 ⟨newHs H w w' [],ρ,st.cnt⟩ 0 0 (fun b o hb=>hb) (by simp)).1
   have hn:=(opn_fresh hH 0 0).1
   rw[opn_flat hf] at this hn
   exact this.noFr hn (fun _=>Nat.le_refl _) (fun _ _ _=>rfl)
 ·cases dst with
  | none=>cases h
  | some d =>
    simp only[Option.some.injEq] at h
    subst h
    obtain⟨S',k,hh,hnew⟩:=S.news hg d (opn d (st.cnt d) r).2 vs (v4 _ _) v1 v3 v2 (fun C kC hC hρ i e x hi hx=>by
     rcases hH with hH | hH
     ·exact ((v5 C d (st.cnt d) (fun b o hb=>by
       by_cases hlt:b < w.heap.size
       ·exact kC.h _ _ (hH _ _ (hb.2.1 hlt))
       ·exact hC b o (by omega) hb.1 hb.2.2) hρ).2 i e x hi hx).base S.ext.size
     ·have:=((v5 ⟨newHs H w w' vs,C.ρ,C.cnt⟩ d (st.cnt d) (fun b o hb=>hb) hρ).2 i e x hi hx).base S.ext.size
      exact this.free ((opn_fresh hH d (st.cnt d)).2 e (List.mem_of_getElem? hi)))
    refine hK _ _ _ (S'.put (some d) hd ?_)
    rcases hH with hH | hH
    ·exact (v5 (ctx h0 w0 (upρs ρ d (st.cnt d) vs) (st.news d (opn d (st.cnt d) r).2) w') d (st.cnt d) (fun b o hb=>by
      by_cases hlt:b < w.heap.size
      ·exact k.h _ _ (hH _ _ (hb.2.1 hlt))
      ·exact hh b o (by omega) hb.1 hb.2.2) hnew).1
    ·have:=(v5 ⟨newHs H w w' vs,upρs ρ d (st.cnt d) vs,(st.news d (opn d (st.cnt d) r).2).cnt⟩ d (st.cnt d) (fun b o hb=>hb) hnew).1
     exact this.noFr (opn_fresh hH d (st.cnt d)).1 (fun _=>Nat.le_refl _) (fun _ _ _=>rfl)
theorem soundX_C {P:Program} {g:Nat} {args:List AV} {r:AV} (h:SoundX P g args r) (hn:∀ x∈args,Flat x):SoundC P g args r:=by
 unfold SoundX at h
 split at h
 ·rename_i e sz n cs rest
  have:=hn _ (List.mem_cons_self ..)
  cases this
 ·exact h
theorem callFn_sound (S:Sim F h0 w0 nt ρ st a w) {call:Nat→List AV→Option AV} (hcall:CallOk P call) {g:Nat} {args:List AV} {vs:Array Value} {dst:Option Nat} {e:Eff}
 (h:callFn call g args st dst=some e) (hrel:RelL (ctx h0 w0 ρ st w) args vs.toList) (hd:∀ d,dst=some d→d < nt)
 (hK:∀ ρ' a' w',Sim F h0 w0 nt ρ' (e.apply st) a' w'→K a' w') :
 Enters P g∧Calls P g vs w fun en w'=>∃ v,en=.returned v∧K (a.put dst v) w':=by
 unfold callFn at h
 split at h
 ·rename_i hf
  cases hc:call g args with
  | none=>simp[hc,bnd] at h
  | some r =>
    obtain⟨hen,hs⟩:=hcall g args r hc
    refine⟨hen, ?_⟩
    simp only[hc,bnd] at h
    refine ((soundX_C hs hf) w (ctx h0 w0 ρ st w).h vs (fun b o hb=>hb.1) (relL_flat hrel hf fun b o hb=>hb)).mono ?_
    rintro en w' ⟨v,rfl,hr,hg⟩
    exact⟨v,rfl,putRes_sound S hr hg (.inl fun b o hb=>hb) h hd hK⟩
 ·split at h
  ·rename_i xs hxs
   cases hc:call g xs with
   | none=>simp[hc,bnd] at h
   | some r =>
     obtain⟨hen,hs⟩:=hcall g xs r hc
     refine⟨hen, ?_⟩
     simp only[hc,bnd] at h
     split at h
     ·rename_i hm
      have hmm:=optAll_spec _ _ hxs
      have hfx:∀ x∈xs,Flat x:=optAll_all (fun a b h=>expo_flat h) _ _ hxs
      have hlen:xs.length=args.length:=by have:=congrArg List.length hmm;simpa using this.symm
      have hrel':RelL (bare (lendH h0 w0 w)) xs vs.toList:=⟨by rw[hlen];exact hrel.len,fun i x y hx hy=>by
       have hi:i < args.length:=by have:=(List.getElem?_eq_some_iff.1 hx).1;omega
       have hx':expo st args[i]=some x:=by
        have:=congrArg (·[i]?) hmm
        simp only[List.getElem?_map,hx,List.getElem?_eq_getElem hi,Option.map_some,Option.some.injEq] at this
        exact this
       exact expo_sound S (hrel.rel i args[i] y (by simp[hi]) hy) hx'⟩
      refine ((soundX_C hs hfx) w (lendH h0 w0 w) vs (fun b o hb=>hb.1) hrel').mono ?_
      rintro en w' ⟨v,rfl,hr,hg⟩
      exact⟨v,rfl,putRes_sound S hr hg (.inr hm) h hd hK⟩
     ·cases h
  ·cases h
theorem Sim.drop (S:Sim F h0 w0 nt ρ st a w) (s k:Nat):Sim F h0 w0 nt ρ (st.setH s k none) a w∧(ctx h0 w0 ρ st w).Le (ctx h0 w0 ρ (st.setH s k none) w):=by
 have hs:∀ s' g' e,(st.setH s k none).heap s' g'=some e→st.heap s' g'=some e:=fun s' g' e h=>by
  simp only[St.setH] at h
  split at h
  ·cases h
  ·exact h
 have kk:(ctx h0 w0 ρ st w).Le (ctx h0 w0 ρ (st.setH s k none) w):=⟨fun b o hb=>⟨hb.1,hb.2.1,fun s' g' e he=>hb.2.2 s' g' e (hs s' g' e he)⟩,fun _=>Nat.le_refl _,fun _ _ _=>rfl⟩
 exact⟨⟨fun t=>(S.env t).le kk,fun s' g' e he=>⟨(S.ent s' g' e (hs s' g' e he)).1,(S.ent s' g' e (hs s' g' e he)).2.1,EntRel.world (r:=none) (S.ent s' g' e (hs s' g' e he)).2.2 kk ⟨rfl,rfl,rfl,Nat.le_refl _,fun _ _ _=>rfl⟩ (by cases blkOf (ρ s' g')<;>simp)⟩,
  fun s1 g1 s2 g2 e1 e2 b h1 h2=>S.inj s1 g1 s2 g2 e1 e2 b (hs _ _ _ h1) (hs _ _ _ h2),S.ext,S.size,S.defers,⟨fun x v h=>(S.frm.1 x v h).le kk,fun b o h=>kk.h b o (S.frm.2.1 b o h),S.frm.2.2⟩⟩,kk⟩
theorem eat1 (S:Sim F h0 w0 nt ρ st a w) {s k:Nat} {c y:AV} {v:Value} (hc:Flat c∨c=.own s k) (hu:RelV (ctx h0 w0 ρ st w) c v) (h:expo1 st c=some y):RelV (bare (ctx h0 w0 ρ (st.setH s k none) w).h) y v∧(v.oneCell'=true∨y=c):=by
 have kk:=(S.drop s k).2
 rcases hc with hf | rfl
 ·unfold expo1 at h
  rw[if_pos hf] at h
  simp only[Option.some.injEq] at h
  subst h
  exact⟨hu.flat hf kk.h,.inr rfl⟩
 ·unfold expo1 at h
  rw[if_neg (by intro h;cases h)] at h
  simp only at h
  split at h
  ·rename_i e sz n cs he
   split at h
   ·rename_i hf
    simp only[Option.some.injEq] at h
    subst h
    obtain⟨_,ho1,xs,ho,hc⟩:=S.ent s k _ he
    cases hu with
    | own s g hg h1 =>
      refine⟨ownsRow_sl (fun b o hv hb hbo=>⟨hbo,fun hlt=>by omega,fun s' g' e' he' hbb=>?_⟩) ho (hc.flat hf kk.h),.inl h1⟩
      simp only[St.setH] at he'
      split at he'
      ·cases he'
      ·rename_i hne
       have:=S.inj s' g' s k e' _ b he' he hbb hv
       exact hne this
   ·cases h
  ·cases h
theorem eat_expo (S:Sim F h0 w0 nt ρ st a w) {s k:Nat} {x y:AV} {v:Value} (hx:EatOk x) (hk:∀ p∈ownKeys1 x,p=(s,k)) (hu:RelV (ctx h0 w0 ρ st w) x v) (h:expo st x=some y):RelV (bare (ctx h0 w0 ρ (st.setH s k none) w).h) y v:=by
 have kk:=(S.drop s k).2
 by_cases hf:Flat x
 ·unfold expo at h
  rw[if_pos hf] at h
  simp only[Option.some.injEq] at h
  subst h
  exact hu.flat hf kk.h
 ·rcases hx with hx | ⟨s',k',rfl⟩ | ⟨cs,rfl,hcs⟩
  ·exact absurd hx hf
  ·have:=hk (s',k') (by simp[ownKeys1,ownKey])
   simp only[Prod.mk.injEq] at this
   obtain⟨rfl,rfl⟩:=this
   unfold expo at h
   rw[if_neg hf] at h
   exact (eat1 S (.inr rfl) hu h).1
  ·have hc:∀ c∈cs,Flat c∨c=.own s k:=fun c hc=>by
    rcases hcs c hc with h | ⟨s',k',rfl⟩
    ·exact .inl h
    ·have:=hk (s',k') (by simp only[ownKeys1];exact List.mem_flatMap.2 ⟨_,hc,by simp[ownKey]⟩)
     simp only[Prod.mk.injEq] at this
     obtain⟨rfl,rfl⟩:=this
     exact .inr rfl
   unfold expo at h
   rw[if_neg hf] at h
   simp only[Option.map_eq_some_iff] at h
   obtain⟨ys,hys,rfl⟩:=h
   have hmm:=optAll_spec _ _ hys
   have hlen:ys.length=cs.length:=by have:=congrArg List.length hmm;simpa using this.symm
   cases hu with
   | agg _ arr hl hr h1 =>
     refine .agg ys arr (by omega) (fun i y z hy hz=>?_) h1
     have hi:i < cs.length:=by have:=(List.getElem?_eq_some_iff.1 hy).1;omega
     have hx':expo1 st cs[i]=some y:=by
      have:=congrArg (·[i]?) hmm
      simp only[List.getElem?_map,hy,List.getElem?_eq_getElem hi,Option.map_some,Option.some.injEq] at this
      exact this
     exact (eat1 S (hc _ (List.getElem_mem hi)) (hr i cs[i] z (by simp[hi]) hz) hx').1
theorem eatRes_cases {r:AV} {dst:Option Nat} {s k:Nat} {e:Eff} (h:eatRes r st dst s k=some e) :
 (Flat r∧e={ dst:=dst,val:=r,upd:=some (s,k,none)}) ∨
 (¬ Flat r∧∃ e1 sz n cs d,r=.uniq e1 sz n cs∧dst=some d∧(∀ c∈cs,MemFree c)∧e={ dst:=some d,val:=.own d (st.cnt d),upd:=some (s,k,none),new:=some (d,[.row e1 sz n cs])}):=by
 unfold eatRes at h
 split at h
 ·rename_i hf
  simp only[Option.some.injEq] at h
  exact .inl ⟨hf,h.symm⟩
 ·rename_i hf
  split at h
  ·rename_i e1 sz n cs d
   split at h
   ·rename_i hc
    simp only[Option.some.injEq] at h
    exact .inr ⟨hf,e1,sz,n,cs,d,rfl,rfl,hc,h.symm⟩
   ·cases h
  ·cases h
theorem callEat_sound (S:Sim F h0 w0 nt ρ st a w) {call:Nat→List AV→Option AV} (hcall:CallOk P call) {g:Nat} {args:List AV} {vs:Array Value} {dst:Option Nat} {e:Eff}
 (h:callEat call g args st dst=some e) (hrel:RelL (ctx h0 w0 ρ st w) args vs.toList) (hd:∀ d,dst=some d→d < nt)
 (hK:∀ ρ' a' w',Sim F h0 w0 nt ρ' (e.apply st) a' w'→K a' w') :
 Enters P g∧Calls P g vs w fun en w'=>∃ v,en=.returned v∧K (a.put dst v) w':=by
 unfold callEat at h
 split at h
 ·rename_i s k hkeys
  split at h
  ·rename_i hok
   split at h
   ·rename_i xs hxs
    cases hc:call g xs with
    | none=>simp[hc,bnd] at h
    | some r =>
      obtain⟨hen,hs⟩:=hcall g xs r hc
      refine⟨hen, ?_⟩
      simp only[hc,bnd] at h
      have h:=eatRes_cases h
      have hmm:=optAll_spec _ _ hxs
      have hfx:∀ x∈xs,Flat x:=optAll_all (fun a b h=>expo_flat h) _ _ hxs
      have hlen:xs.length=args.length:=by have:=congrArg List.length hmm;simpa using this.symm
      obtain⟨S1,kk⟩:=S.drop s k
      have hrel':RelL (bare (ctx h0 w0 ρ (st.setH s k none) w).h) xs vs.toList:=⟨by rw[hlen];exact hrel.len,fun i x y hx hy=>by
       have hi:i < args.length:=by have:=(List.getElem?_eq_some_iff.1 hx).1;omega
       have hx':expo st args[i]=some x:=by
        have:=congrArg (·[i]?) hmm
        simp only[List.getElem?_map,hx,List.getElem?_eq_getElem hi,Option.map_some,Option.some.injEq] at this
        exact this
       refine eat_expo S (hok _ (List.getElem_mem hi)) (fun p hp=>?_) (hrel.rel i args[i] y (by simp[hi]) hy) hx'
       have:p∈args.flatMap ownKeys1:=List.mem_flatMap.2 ⟨_,List.getElem_mem hi,hp⟩
       rw[hkeys] at this
       simpa using this⟩
      refine ((soundX_C hs hfx) w (ctx h0 w0 ρ (st.setH s k none) w).h vs (fun b o hb=>hb.1) hrel').mono ?_
      rintro en w' ⟨v,rfl,hr,hg⟩
      rcases h with ⟨hfr,rfl⟩ | ⟨hfr,e1,sz,n,cs,d,rfl,rfl,hcs,rfl⟩
      ·refine⟨v,rfl,putRes_sound (e:={ dst:=dst,val:=r }) S1 hr hg (.inl fun b o hb=>hb) ?_ hd (fun ρ' a' w2 hS=>hK ρ' a' w2 hS)⟩
       unfold putRes
       rw[if_pos hfr]
      ·refine⟨v,rfl,putRes_sound (e:={ dst:=some d,val:=.own d (st.cnt d),new:=some (d,[.row e1 sz n cs])}) S1 hr hg (.inr hcs) ?_ hd (fun ρ' a' w2 hS=>hK ρ' a' w2 hS)⟩
       unfold putRes
       rw[if_neg hfr]
       rfl
   ·cases h
  ·cases h
 ·exact callFn_sound S hcall h hrel hd hK
theorem callMv_sound (S:Sim F h0 w0 nt ρ st a w) {call:Nat→List AV→Option AV} (hcall:CallOk P call) {g:Nat} {args:List AV} {vs:Array Value} {dst:Option Nat} {e:Eff}
 (h:callMv call g args st dst=some e) (hrel:RelL (ctx h0 w0 ρ st w) args vs.toList) (hd:∀ d,dst=some d→d < nt)
 (hK:∀ ρ' a' w',Sim F h0 w0 nt ρ' (e.apply st) a' w'→K a' w') :
 Enters P g∧Calls P g vs w fun en w'=>∃ v,en=.returned v∧K (a.put dst v) w':=by
 unfold callMv at h
 split at h
 ·rename_i s k rest
  split at h
  ·rename_i e0 sz n cs he
   split at h
   ·rename_i hcs
    obtain⟨hcs,hfr⟩:=hcs
    have hvs:∃ v0 vr,vs=#[v0] ++ vr∧RelV (ctx h0 w0 ρ st w) (.own s k) v0∧RelL (ctx h0 w0 ρ st w) rest vr.toList:=by
     have hl:=hrel.len
     cases hv:vs.toList with
     | nil=>rw[hv] at hl;simp at hl
     | cons v0 vr =>
       rw[hv] at hrel
       refine⟨v0,vr.toArray, ?_,hrel.head,by simpa using hrel.tail⟩
       apply Array.ext'
       rw[hv]
       simp
    obtain⟨v0,vr,rfl,hv0,hrest⟩:=hvs
    have hv0':v0=ρ s k:=by cases hv0;rfl
    subst hv0'
    obtain⟨hk1,hk2,ys,ho,hcell⟩:=S.ent s k _ he
    have run:∀ r,call g (.uniq e0 sz n cs :: rest)=some r→Enters P g ∧
     Calls P g (#[ρ s k] ++ vr) w fun en w'=>∃ v,en=.returned v∧w.grownBy w' (blkOf (ρ s k)) ∧
      match r with
      | .uniq e' sz' n' cs'=>∃ zs,ownsR w' 0 e' sz' v n' zs∧CellL (bare (ctx h0 w0 ρ st w).h) cs' zs∧∀ b,blkOf v=some b→blkOf (ρ s k)=some b∨w.heap.size≤b
      | .tup [.uniq e' sz' n' cs']=>v=.tuple #[]∧∃ zs,ownsR w' 0 e' sz' (ρ s k) n' zs∧CellL (bare (ctx h0 w0 ρ st w).h) cs' zs
      | _=>False:=by
     intro r hr
     obtain⟨hen,hs⟩:=hcall _ _ _ hr
     refine⟨hen, ?_⟩
     have hs:SoundM P g e0 sz n cs rest r:=hs
     exact hs w (ctx h0 w0 ρ st w).h (ρ s k) ys vr (fun b o hb=>hb.1) (fun b o hb=>hb.2.2 s k _ he) (ownsR_base ho (Nat.zero_le _)) (hcell.flat hcs fun b o hb=>hb) (relL_flat hrest hfr fun b o hb=>hb)
    have bareLe:∀ C:Ctx,(ctx h0 w0 ρ st w).Le C→(bare (ctx h0 w0 ρ st w).h).Le C:=fun C kC=>⟨kC.h,fun _=>Nat.zero_le _,fun _ _ h=>absurd h (by simp[bare])⟩
    have hbase:∀ b,blkOf (ρ s k)=some b→w0.heap.size≤b:=fun b hb=>(ownsR_blk ho b hb).1
    split at h
    ·rename_i e' sz' n' cs' hr
     obtain⟨hen,hc⟩:=run _ hr
     refine⟨hen,hc.mono ?_⟩
     rintro en w' ⟨v,rfl,hg,zs,hz,hzc,hzb⟩
     cases dst with
     | none=>cases h
     | some d =>
       simp only[Option.some.injEq] at h
       subst h
       refine⟨v,rfl, ?_⟩
       obtain⟨S',kk,hnew⟩:=S.regrow he hg d (.row e' sz' n' cs') v (ownsR_one hz) hzb (fun C kC=>⟨zs,ownsR_rebase hz (fun b hb=>by
        rcases hzb b hb with h | h
        ·exact hbase b h
        ·have:=S.ext.size;omega),hzc.le (bareLe C kC)⟩)
       have happ:Eff.apply { dst:=some d,val:=.own d (st.cnt d),upd:=some (s,k,none),new:=some (d,[.row e' sz' n' cs'])} st=((st.setH s k none).new d (.row e' sz' n' cs')).put (some d) (.own d (st.cnt d)):=by
        simp only[Eff.apply,news_one]
       have hlt:st.cnt d < (ctx h0 w0 (upρ ρ d (st.cnt d) v) ((st.setH s k none).new d (.row e' sz' n' cs')) w').cnt d:=by simp[ctx,St.new,St.setH]
       have hρ:(ctx h0 w0 (upρ ρ d (st.cnt d) v) ((st.setH s k none).new d (.row e' sz' n' cs')) w').ρ d (st.cnt d)=v:=hnew
       have:=RelV.own (C:=ctx h0 w0 (upρ ρ d (st.cnt d) v) ((st.setH s k none).new d (.row e' sz' n' cs')) w') d (st.cnt d) hlt (by rw[hρ];exact ownsR_one hz)
       rw[hρ] at this
       have hS:=S'.put (some d) hd this
       rw[← happ] at hS
       exact hK _ _ _ hS
    ·rename_i e' sz' n' cs' hr
     obtain⟨hen,hc⟩:=run _ hr
     refine⟨hen,hc.mono ?_⟩
     rintro en w' ⟨v,rfl,hg,rfl,zs,hz,hzc⟩
     simp only[Option.some.injEq] at h
     subst h
     have S':=S.storeR (e':=.row e' sz' n' cs') he hg (fun C kC=>⟨zs,ownsR_rebase hz hbase,hzc.le (bareLe C kC)⟩)
     exact⟨_,rfl,hK ρ _ _ (S'.put dst hd (.tup [] #[] rfl (by simp)))⟩
    ·cases h
   ·cases h
  ·cases h
 ·split at h
  ·exact callFn_sound S hcall h hrel hd hK
  ·cases h
end
end Go.Ab
end
section
namespace Go.Ab
open Classical
section
variable {P:Program} {h0:Nat→Obj→Prop} {w0:World} {F:Frm} {nt:Nat} {ρ:Nat→Nat→Value} {st:St} {a:Act} {w:World} {K:Act→World→Prop} {Q:Exit→Act→World→Prop}
theorem upon_value {o:Oper} {v:Value} {w':World} (h:(execOp a.eval o).run P w=.ok (.value v) w') (hk:K (a.put o.dst v) w'):o.wp P a w K Q:=by
 unfold Oper.wp;rw[h];exact hk
theorem Sim.newVar (S:Sim F h0 w0 nt ρ st a w) (d:Nat) (hd:d < nt) (cs:List AV) (arr:Array Value) (T:Nat) (hc:CellL (ctx h0 w0 ρ st w) cs arr.toList) :
 ∃ ρ',Sim F h0 w0 nt ρ' ((st.new d (.cells cs)).put (some d) (.ptr d (st.cnt d) 0)) (a.put (some d) (.pointer (some ⟨w.heap.size,0,none⟩))) (w.alloc (.cells arr T)):=by
 obtain⟨S',k,hnew⟩:=S.new (World.grownBy_alloc w (.cells arr T) none) d (.cells cs) (.pointer (some ⟨w.heap.size,0,none⟩)) rfl (fun b hb=>by simp[blkOf] at hb;omega)
  (fun C k _=>⟨w.heap.size,arr,T,rfl,S.ext.size,heap_alloc_new w _,hc.le k⟩)
 exact⟨_,S'.put (some d) (fun t ht=>by cases ht;exact hd) (.ptr d (st.cnt d) 0 w.heap.size (by simp[ctx,St.new]) (by show blkOf (upρ _ _ _ _ _ _)=_;rw[hnew];rfl))⟩
theorem Sim.newRow (S:Sim F h0 w0 nt ρ st a w) (d:Nat) (hd:d < nt) {w':World} (hg:w.grownBy w' none) (e sz n:Nat) (cs:List AV) (xs:List Value) (v:Value) (ho:ownsR w' w.heap.size e sz v n xs) (hc:CellL (ctx h0 w0 ρ st w) cs xs) :
 ∃ ρ',Sim F h0 w0 nt ρ' ((st.new d (.row e sz n cs)).put (some d) (.own d (st.cnt d))) (a.put (some d) v) w':=by
 obtain⟨S',k,hnew⟩:=S.new hg d (.row e sz n cs) v (ownsR_one ho) (fun b hb=>(ownsR_blk ho b hb).1) (fun C k _=>⟨xs,ownsR_base ho S.ext.size,hc.le k⟩)
 refine⟨_,S'.put (some d) (fun t ht=>by cases ht;exact hd) ?_⟩
 have hlt:st.cnt d < (ctx h0 w0 (upρ ρ d (st.cnt d) v) (st.new d (.row e sz n cs)) w').cnt d:=by simp[ctx,St.new]
 have hρ:(ctx h0 w0 (upρ ρ d (st.cnt d) v) (st.new d (.row e sz n cs)) w').ρ d (st.cnt d)=v:=hnew
 have:=RelV.own (C:=ctx h0 w0 (upρ ρ d (st.cnt d) v) (st.new d (.row e sz n cs)) w') d (st.cnt d) hlt (by rw[hρ];exact ownsR_one ho)
 rw[hρ] at this
 exact this
theorem modc_toList (z:Array Value) (n:Nat):((Array.range (n * z.size)).map (z[· % z.size]!)).toList=(List.range n).flatMap fun _=>z.toList:=by
 rw[Array.toList_map]
 have:(Array.range (n * z.size)).toList=List.range (n * z.size):=by simp
 rw[this]
 clear this
 induction n with
 | zero=>simp
 | succ n ih =>
   rw[Nat.succ_mul,List.range_add,List.map_append,ih,List.range_succ,List.flatMap_append]
   congr 1
   simp only[List.flatMap_cons,List.flatMap_nil,List.append_nil,List.map_map]
   apply List.ext_getElem?
   intro i
   by_cases hi:i < z.size
   ·simp[hi,Nat.mod_eq_of_lt hi,Nat.mul_comm n z.size]
   ·simp[hi]
theorem cellL_rep {C:Ctx} {z:List Value} (h1:∀ y∈z,y.oneCell'=true) (n:Nat):CellL C ((List.range n).flatMap fun _=>z.map .v) ((List.range n).flatMap fun _=>z):=by
 generalize List.range n=l
 induction l with
 | nil=>exact .nil C
 | cons x l ih=>simp only[List.flatMap_cons];exact (CellL.vs C z h1).app ih
theorem buildSlice_sound (S:Sim F h0 w0 nt ρ st a w) {T n e sz by_:Nat} {parts:Array (Nat × Operand)} {z:List Value} {cs:List AV} (hs:slInfo P T=some (e,sz,by_)) (hz:zeroL P e=some z)
 (hn:0 < n∨parts=#[]) (hlim:n * sz≤2 ^ 24) (hst:(parts.toList.all fun p=>(st.ev p.2).stor)=true)
 (hf:fillA (fun i=>some (i * sz,sz)) ((List.range n).flatMap fun _=>z.map .v) (parts.toList.map fun p=>(p.1,st.ev p.2))=some cs) :
 ∃ v w' xs,(Instr.buildSlice T n (parts.map fun (i,x)=>(i,a.eval x))).run P w=.ok v w'∧w.grownBy w' none∧ownsR w' w.heap.size e sz v n xs∧CellL (ctx h0 w0 ρ st w) cs xs:=by
 obtain⟨ei,ez,hT,hie,hz0,rfl,hzs,rfl,hpos⟩:=slInfo_spec hs
 obtain⟨i',zv,hi',hzz,rfl,hz1⟩:=zeroL_spec hz
 rw[hie] at hi'
 cases hi'
 rw[hz0] at hzz
 cases hzz
 rcases Nat.eq_zero_or_pos n with h0' | hn
 ·subst h0'
  have hp:parts=#[]:=by
   rcases hn with h | h
   ·omega
   ·exact h
  subst hp
  simp[fillA] at hf
  subst hf
  refine⟨.slice (some ⟨w.heap.size,0,none⟩) 0 0,w.alloc (.cells #[] e),[], ?_,World.grownBy_alloc w _ none,⟨by simp,.inl ⟨_,rfl,rfl⟩⟩,.nil _⟩
  simp[Instr.buildSlice,run_underlying hT,sizeOf,typeInfo,zeroValue,hie,Instr.fill,newRow]
  rw[show Array.map (fun x=>(default:Value)) (Array.range 0)=#[] from by simp[Array.range]]
 have hrel:RelL (ctx h0 w0 ρ st w) ((parts.toList.map fun p=>(p.1,st.ev p.2)).map (·.2)) ((parts.toList.map fun p=>(p.1,a.eval p.2)).map (·.2)):=by
  simp only[List.map_map]
  exact RelL.map _ _ _ fun p _=>S.ev p.2
 have hnz:¬ n * ei.size=0:=by
  have:=Nat.mul_pos hn hpos
  omega
 have hmod:((Array.range (n * ei.size)).map (ez.cells[· % ez.cells.size]!)).toList=(List.range n).flatMap fun _=>ez.cells.toList:=by
  rw[← hzs]
  exact modc_toList ez.cells n
 obtain⟨cells,hfill,hcell⟩:=fill_sound (place:=fun i=>some (i * ei.size,ei.size)) (parts.toList.map fun p=>(p.1,st.ev p.2)) (parts.toList.map fun p=>(p.1,a.eval p.2)) _ ((Array.range (n * ei.size)).map (ez.cells[· % ez.cells.size]!)) cs (by simp) hrel
  (fun p hp'=>by
   obtain⟨q,hq,rfl⟩:=List.mem_map.1 hp'
   exact List.all_eq_true.1 hst q hq) (by rw[hmod];exact cellL_rep hz1 n) hf
 have hr:=run_buildSlice (P:=P) w T e n (parts.map fun (i,x)=>(i,a.eval x)) cells ei ez hT hie hz0 (by omega) hnz (by simpa using hfill)
 have hsz:cells.size=n * ei.size:=by
  have hlen:∀ (place:Nat→Option (Nat × Nat)) (ps:List (Nat × AV)) (c out:List AV),fillA place c ps=some out→out.length=c.length:=by
   intro place ps
   induction ps with
   | nil=>intro c out h;simp[fillA] at h;rw[h]
   | cons p ps ih =>
     intro c out h
     obtain⟨i,x⟩:=p
     unfold fillA at h
     split at h
     ·cases h
     ·split at h
      ·rename_i hc
       have:=ih _ _ h
       rw[this]
       simp
       omega
      ·cases h
  have h1:=hlen _ _ _ _ hf
  have h2:=hcell.len
  have h3:=(cellL_rep (C:=ctx h0 w0 ρ st w) hz1 n).len
  rw[← hmod] at h3
  simp only[Array.length_toList,Array.size_map,Array.size_range] at h2 h3
  omega
 refine⟨_,_,cells.toList,hr,World.grownBy_alloc w _ none,ownsR_of ?_,hcell⟩
 refine⟨by simp[hsz],.inr ⟨w.heap.size,n,cells,rfl,Nat.le_refl _,heap_alloc_new w _,Nat.le_refl _, ?_,hsz, ?_⟩⟩
 ·have:n≤n * ei.size:=Nat.le_mul_of_pos_right n hpos
  simp only[maxLen]
  omega
 ·rw[← hsz,← Array.length_toList,List.take_length]
theorem makeSlice_sound (C:Ctx) {T e sz by_:Nat} {z:List Value} {n:Nat} (hs:slInfo P T=some (e,sz,by_)) (hz:zeroL P e=some z)
 (hb:n * by_≤140737488355328) (hm:n≤maxLen) :
 ∃ v w' xs,(Instr.makeSlice T (.int .i64 n) (.int .i64 n)).run P w=.ok v w'∧w.grownBy w' none∧ownsR w' w.heap.size e sz v n xs∧CellL C ((List.range n).flatMap fun _=>z.map .v) xs:=by
 obtain⟨ei,ez,hT,hie,hz0,rfl,hzs,rfl,hpos⟩:=slInfo_spec hs
 obtain⟨i',zv,hi',hzz,rfl,hz1⟩:=zeroL_spec hz
 rw[hie] at hi'
 cases hi'
 rw[hz0] at hzz
 cases hzz
 obtain⟨w',hr,ho,hg⟩:=run_make_full (P:=P) w w.heap.size T e ei ez ei.size hT hie hz0 rfl .i64 .i64 n (by rw[Nat.mul_comm];omega) hm (Nat.le_refl _)
 have hmod:(madeCells ez.cells (n * ei.size)).toList=(List.range n).flatMap fun _=>ez.cells.toList:=by
  unfold madeCells
  rw[← hzs]
  exact modc_toList ez.cells n
 exact⟨_,w',_,hr,hg,ownsR_of ho,by rw[hmod];exact cellL_rep hz1 n⟩
theorem store_sound (S:Sim F h0 w0 nt ρ st a w) {T:Nat} {x y:AV} {s g:Nat} {e:Ent} {u v:Value} (h:storeA P st T x y=some (s,g,e)) (hu:RelV (ctx h0 w0 ρ st w) x u) (hv:RelV (ctx h0 w0 ρ st w) y v) :
 ∃ w',(Instr.storeAt T u v).run P w=.ok () w'∧Sim F h0 w0 nt ρ (st.setH s g (some e)) a w':=by
 unfold storeA at h
 split at h
 ·rename_i s' g' off
  split at h
  ·rename_i ba k hld
   split at h
   ·rename_i hc
    obtain⟨c1,c2⟩:=hc
    obtain⟨i,d,hi,hd,hagg,rfl⟩:=ldInfo_spec hld
    have hcells:=hv.cells c2
    have hlen:=hcells.len
    simp only[Array.length_toList] at hlen
    cases hu with
    | ptr _ _ _ b hg hb =>
      have hb':blkOf (ρ s' g')=some b:=hb
      have main:∀ (arr:Array Value) (B:Nat),w.heap[b]? = some (.cells arr B (0,0))→off+i.size≤arr.size →
       (Instr.storeAt T (.pointer (some ⟨b,off,none⟩)) v).run P w=.ok () (w.setRow b (arr.toList.take off ++ v.cells.toList ++ arr.toList.drop (off+i.size)).toArray):=by
       intro arr B hh hle
       have hst:=run_storeCells_at P b off B v.cells.toList 0 arr w hh (by simp;omega) (fun y hy=>by
        obtain⟨j,hj,rfl⟩:=List.getElem_of_mem hy
        exact hcells.one j _ (by simp))
       simp only[Nat.add_zero,Array.length_toList] at hst
       simp only[Instr.storeAt,Instr.sureAddr]
       rw[run_ok_bind (Sem.run_pure P w _)]
       simp only[storeVar,run_ok_bind (run_sizeOf w hi)]
       rw[if_neg (by omega),show off+i.size=off+v.cells.size by omega]
       exact hst
      have grown:∀ (cs:Array Value),w.grownBy (w.setRow b cs) (some b):=fun cs=>⟨rfl,rfl,rfl,by simp,fun k _ hk=>setRow_other w b k cs (fun e=>hk (by rw[e]))⟩
      cases he:st.heap s' g' with
      | none=>simp[he] at h
      | some e' =>
        obtain⟨_,_,her⟩:=S.ent s' g' _ he
        cases e' with
        | cells cs =>
          simp only[he] at h
          split at h
          ·rename_i hle
           simp only[Option.some.injEq,Prod.mk.injEq] at h
           obtain⟨rfl,rfl,rfl⟩:=h
           obtain⟨b',arr,B,hρ,hbase,hh,hc⟩:=her
           have hbb:b'=b:=by rw[hρ] at hb';simpa [blkOf] using hb'
           subst hbb
           have hl:=hc.len
           simp only[Array.length_toList] at hl
           refine⟨_,main arr B hh (by omega),S.store he hb' (grown _) fun C k=>⟨b',_,B,hρ,hbase,setRow_heap w b' arr _ B (0,0) hh, ?_⟩⟩
           exact (((hc.take off).app hcells).app (hc.drop _)).le k
          ·cases h
        | row e2 sz n cs =>
          simp only[he] at h
          split at h
          ·rename_i hle
           simp only[Option.some.injEq,Prod.mk.injEq] at h
           obtain⟨rfl,rfl,rfl⟩:=h
           obtain⟨xs,ho,hc⟩:=her
           have ho':=ho
           rcases ho.2 with ⟨p,hρ,_⟩ | ⟨b',cap,cur,hρ,hbase,hh,hnc,hcm,hcs,ht,hc0⟩
           ·rw[hρ,blkOf_sl0] at hb';cases hb'
           ·have hbb:b'=b:=by rw[hρ,blkOf_sl hc0] at hb';simpa using hb'
            subst hbb
            have hl:=hc.len
            have hx:=ho.1
            have hle2:n * sz≤cap * sz:=Nat.mul_le_mul_right _ hnc
            refine⟨_,main cur e2 hh (by omega),S.store he hb' (grown _) fun C k=>⟨xs.take off ++ v.cells.toList ++ xs.drop (off+i.size), ?_,(((hc.take off).app hcells).app (hc.drop _)).le k⟩⟩
            refine⟨by simp;omega,.inr ⟨b',cap,_,hρ,hbase,setRow_heap w b' cur _ e2 (0,0) hh,hnc,hcm,by simp;omega, ?_,hc0⟩⟩
            simp only
            rw[← ht]
            have hcl:cur.toList.length=cur.size:=rfl
            have hvl:v.cells.toList.length=v.cells.size:=rfl
            have l1:(cur.toList.take off ++ v.cells.toList).length=off+i.size:=by simp;omega
            rw[List.take_append,l1,List.take_of_length_le (by omega),List.drop_take,List.take_take,Nat.min_eq_left (by omega)]
          ·cases h
        | map es=>simp[he] at h
   ·cases h
  ·cases h
 ·cases h
end
end Go.Ab
end
