/-
  Part 2 of the proof: an evaluator of programs, its soundness, and what functions of this program compute.
-/
import Derived.Test.YtmcjkemalibacaaGreatK1
import Derived.Laws.Tables
import Derived.Laws.OwnMore
import Derived.Great.BuildSlice
import Derived.MapKept
set_option linter.all false
set_option maxRecDepth 20000
set_option maxHeartbeats 40000000
section
namespace Go.Ab
open Classical
theorem foldl_set (off:Nat):∀(vs:List Value) (k:Nat) (cs:Array Value),off+k+vs.length≤cs.size →
 ((vs.zipIdx k).foldl (fun cs (x:Value × Nat)=>cs.setIfInBounds (off+x.2) x.1) cs).toList=cs.toList.take (off+k)++vs++cs.toList.drop (off+k+vs.length)
 | [],k,cs,h=>by simp
 | v :: vs,k,cs,h=>by
   simp only[List.zipIdx_cons,List.foldl_cons];simp only[List.length_cons] at h;rw[foldl_set off vs (k+1) (cs.setIfInBounds (off+k) v) (by simp;omega)]
   have aY:off+k<cs.size:=by omega
   have NI:off+k<cs.toList.length:=by simpa using aY
   have e1:(cs.setIfInBounds (off+k) v).toList=cs.toList.set (off+k) v:=by simp
   rw[e1,show off+(k+1)=off+k+1 by omega]
   have e2:cs.toList.set (off+k) v=cs.toList.take (off+k)++v :: cs.toList.drop (off+k+1):=by
    rw[List.set_eq_take_append_cons_drop,if_pos NI]
   have l1:(cs.toList.take (off+k)).length=off+k:=by simp;omega
   have e3:(cs.toList.set (off+k) v).take (off+k+1)=cs.toList.take (off+k)++[v]:=by
    rw[e2,List.take_append,l1,List.take_of_length_le (by rw[l1];omega),show off+k+1-(off+k)=1 by omega]
    simp
   have e4:(cs.toList.set (off+k) v).drop (off+k+1+vs.length)=cs.toList.drop (off+k+(vs.length+1)):=by
    rw[e2,List.drop_append,l1,List.drop_of_length_le (by rw[l1];omega),show off+k+1+vs.length-(off+k)=vs.length+1 by omega]
    simp only[List.drop_succ_cons,List.nil_append,List.drop_drop];congr 1
    omega
   rw[e3,e4];simp
section
variable {P:Program} {h0:Nat→Obj→Prop} {w0:World} {F:Hs} {nt:Nat} {ρ:Nat→Nat→Value} {st:St} {a:Act} {w:World}
theorem Nu {C:Ctx} {place:Nat→Option (Nat × Nat)}:∀(parts:List (Nat × AV)) (pv:List (Nat × Value)) (cells:List AV) (ys:Array Value) (out:List AV),
 parts.map (·.1)=pv.map (·.1)→lE C (parts.map (·.2)) (pv.map (·.2))→(∀p∈parts,p.2.jQ=true)→fQ C cells ys.toList→gR place cells parts=some out →
 ∃zs,Instr.fill place ys pv=some zs∧fQ C out zs.toList
 | [],pv,cells,ys,out,h1,h2,h3,h4,h5=>by
   cases pv with
   | nil=>simp[gR] at h5;subst h5;exact⟨ys,rfl,h4⟩
   | cons p pv=>simp at h1
 | (i,x) :: parts,[],cells,ys,out,h1,_,_,_,_=>by simp at h1
 | (i,x) :: parts,(i',v) :: pv,cells,ys,out,h1,h2,h3,h4,h5=>by
   simp only[List.map_cons,List.cons.injEq] at h1;obtain⟨rfl,h1⟩:=h1
   simp only[List.map_cons] at h2;have hx:=h2.head
   have hc:=hx.cells (h3 (i,x) (by simp))
   unfold gR at h5;unfold Instr.fill;cases hp:place i with
   | none=>simp[hp] at h5
   | some os =>
     obtain⟨off,size⟩:=os
     simp only[hp] at h5 ⊢;split at h5
     ·rename_i Y1;obtain⟨c1,c2⟩:=Y1
      have hl:=hc.len
      have hl4:=h4.len
      simp only[Array.length_toList] at hl hl4;have gN:¬(v.cells.size≠size∨off+v.cells.size > ys.size):=by omega
      have hne':(decide (v.cells.size≠size) || decide (off+v.cells.size > ys.size))=false:=by simp;omega
      rw[if_neg (by simpa using gN)]
      refine Nu parts pv _ _ out h1 h2.tail (fun p hp'=>h3 p (by simp[hp'])) ?_ h5
      have e:=foldl_set off v.cells.toList 0 ys (by simp;omega)
      simp only[Nat.add_zero,Array.length_toList] at e;have e2:(v.cells.zipIdx.foldl (fun cs (x:Value × Nat)=>cs.setIfInBounds (off+x.2) x.1) ys).toList=ys.toList.take off++v.cells.toList++ys.toList.drop (off+v.cells.size):=by
       rw[← e,← Array.foldl_toList,Array.toList_zipIdx]
      show fQ C _ (v.cells.zipIdx.foldl (fun cs (x:Value × Nat)=>cs.setIfInBounds (off+x.2) x.1) ys).toList
      rw[e2];have e3:off+size=off+v.cells.size:=by omega
      rw[e3];exact ((h4.take off).app hc).app (h4.drop _)
     ·cases h5
theorem Ai {T:Nat} {z:List Value} (h:dW P T=some z):∃i zv,P.info? T=some i∧i.zero=some zv∧z=zv.cells.toList∧∀y∈z,y.oneCell'=true:=by
 unfold dW at h;split at h
 ·rename_i i hi;cases hz:i.zero with
  | none=>simp[hz] at h
  | some zv =>
    simp only[hz] at h;split at h
    ·rename_i h1;simp only[Option.some.injEq] at h;subst h;exact⟨i,zv,hi,hz,rfl,List.all_eq_true.1 h1⟩
    ·cases h
 ·cases h
theorem PT (S:kJ F h0 w0 nt ρ st a w) {T:Nat} {parts:Array (Nat × Operand)} {z:AV} (h:iS P st T parts.toList=some z) :
 ∃r,(Instr.build T (parts.map fun (i,x)=>(i,a.eval x))).run P w=.ok r w∧cS (ctx h0 w0 ρ st w) z r:=by
 unfold iS at h;cases hz:dW P T with
 | none=>simp[hz] at h
 | some zs =>
   cases hp:placeOf P T with
   | none=>simp[hz,hp] at h
   | some place =>
     simp only[hz,hp] at h;split at h
     ·rename_i sG;simp only[Option.map_eq_some_iff] at h;obtain⟨out,hf,rfl⟩:=h
      obtain⟨i,zv,hi,PU,rfl,Y2⟩:=Ai hz
      have eY:lE (ctx h0 w0 ρ st w) ((parts.toList.map fun p=>(p.1,st.ev p.2)).map (·.2)) ((parts.toList.map fun p=>(p.1,a.eval p.2)).map (·.2)):=by
       simp only[List.map_map];exact lE.map _ _ _ fun p _=>S.ev p.2
      obtain⟨cells,PV,oA⟩:=Nu (place:=place) (parts.toList.map fun p=>(p.1,st.ev p.2)) (parts.toList.map fun p=>(p.1,a.eval p.2)) _ zv.cells out (by simp) eY
       (fun p hp'=>by
        obtain⟨q,hq,rfl⟩:=List.mem_map.1 hp'
        exact List.all_eq_true.1 sG q hq) (fQ.vs _ _ Y2) hf
      have hbuilt:P.built T (parts.map fun (i,x)=>(i,a.eval x)).toList=some cells:=by
       unfold Program.built;unfold placeOf at hp;split at hp
       ·rename_i fs hu;split at hp
        ·rename_i Nv;simp only[Option.some.injEq] at hp;simp only[hi,hu,PU];have hm:fs.toList.mapM (fun f=>(P.info? f.type).map fun i=>(f.offset,i.size))=some (fs.toList.map fun f=>(f.offset,P.cellsOf f.type)):=by
          have Y3:∀f∈fs.toList,(P.info? f.type).isSome=true:=fun f hf=>Array.all_eq_true_iff_forall_mem.1 Nv f (Array.mem_toList_iff.1 hf)
          generalize fs.toList=l at Y3
          induction l with
          | nil=>rfl
          | cons f l ih =>
            obtain⟨j,hj⟩:=Option.isSome_iff_exists.1 (Y3 f (by simp))
            rw[List.mapM_cons,ih fun g hg=>Y3 g (by simp[hg])]
            simp[hj,rH hj]
         rw[hm];simp only
         have:(fun x=>(fs.toList.map fun f=>(f.offset,P.cellsOf f.type)).toArray[x]?)=place:=by
          rw[← hp];funext j
          simp
         rw[this];simpa using PV
        ·cases hp
       ·rename_i n e hu;split at hp
        ·rename_i hsome;obtain⟨ie,Cw⟩:=Option.isSome_iff_exists.1 hsome
         simp only[Option.some.injEq] at hp;simp only[hi,hu,PU,Cw];rw[← hp] at PV;simpa [rH Cw] using PV
        ·cases hp
       ·cases hp
      refine⟨_,run_build w T _ cells hbuilt, ?_⟩
      exact .agg _ _ (by simpa using oA.len) (fun j x y hx hy=>oA.rel j x y hx (by simpa using hy)) (fun j y hy=>oA.one j y (by simpa using hy))
     ·cases h
end
end Go.Ab
end
section
namespace Go.Ab
open Classical
section
variable {P:Program}
noncomputable def xZ (x:Value):List MapEntry→Nat→Option (Nat × Value)
 | [],_=>none
 | e :: r,i=>if x=e.key then some (i,e.val) else xZ x r (i+1)
theorem mk_inj {agg:Bool} {l:List Bool} {us vs:List Value} (h:gC l us vs) (ha:agg=false→l.length=1):mk agg us=mk agg vs↔us=vs:=by
 cases agg with
 | true=>simp[mk]
 | false =>
   have h1:=ha rfl
   obtain⟨e1,e2⟩:=lJ _ _ _ h
   obtain⟨a,rfl⟩:=List.length_eq_one_iff.1 (e1.trans h1)
   obtain⟨b,rfl⟩:=List.length_eq_one_iff.1 (e2.trans h1)
   simp[mk]
theorem Wc (w:World) {k:Nat} {l:List Bool} {us vs:List Value} (hl:eZ P 20 k=some l) (h:gC l us vs) :
 (Op.equal k (mk (dA P k) us) (mk (dA P k) vs)).run P w=.ok (decide (mk (dA P k) us=mk (dA P k) vs)) w:=by
 have:=Ck (P:=P) 20 10000 (by omega) w k l hl us vs h
 unfold Op.equal Op.maxDepth;rw[this];congr 1
 rw[Bool.eq_iff_iff];simp[mk_inj h (oF 20 k l hl)]
def Y4 (P:Program) (k:Nat) (l:List Bool) (us:List Value) (es:List MapEntry):Prop:=∀e∈es,∃vs,e.key=mk (dA P k) vs∧gC l us vs
theorem Iv (w:World) {k:Nat} {l:List Bool} {us:List Value} (hl:eZ P 20 k=some l):∀(es:List MapEntry) (i:Nat),Y4 P k l us es →
 (Instr.findAsking k (mk (dA P k) us) es i).run P w=.ok (xZ (mk (dA P k) us) es i) w
 | [],i,_=>by simp[Instr.findAsking,xZ]
 | e :: es,i,h=>by
   obtain⟨vs,hk,hv⟩:=h e (by simp)
   have ih:=Iv w hl es (i+1) (fun x hx=>h x (by simp[hx]))
   have he:=Wc w hl hv
   simp only[Instr.findAsking,hk,Sem.run_bind,he,Result.andThen_ok,xZ];by_cases hq:mk (dA P k) us=mk (dA P k) vs
   ·simp[hq]
   ·simp[hq,ih]
theorem Vf {q k0:IntKind} {a:Int}:∀(es:List MapEntry) (i:Nat),(∀e∈es,∃b,e.key=.int k0 b)→Instr.findNow (.int q) (.int k0 a) es i=some (xZ (.int k0 a) es i)
 | [],i,_=>rfl
 | e :: es,i,h=>by
   obtain⟨b,hk⟩:=h e (by simp)
   have ih:=Vf (q:=q) (a:=a) es (i+1) (fun x hx=>h x (by simp[hx]))
   simp only[Instr.findNow,Instr.sameNow,hk,if_true,xZ];by_cases hq:a=b
   ·subst hq;simp
   ·have:(a == b)=false:=by simp[hq]
    simp[this,ih,hq]
theorem Qm {a:Bool}:∀(es:List MapEntry) (i:Nat),(∀e∈es,∃b,e.key=.bool b)→Instr.findNow .bool (.bool a) es i=some (xZ (.bool a) es i)
 | [],i,_=>rfl
 | e :: es,i,h=>by
   obtain⟨b,hk⟩:=h e (by simp)
   have ih:=Qm (a:=a) es (i+1) (fun x hx=>h x (by simp[hx]))
   simp only[Instr.findNow,Instr.sameNow,hk,xZ];by_cases hq:a=b
   ·subst hq;simp
   ·have:(a == b)=false:=by simp[hq]
    simp[this,ih,hq]
theorem Mi {l:List Bool} {k:Nat} (h:Db P l k=true):(∃q,P.underlying k=some (.int q))∨P.underlying k=some .bool ∨
 ∃n e q i,P.underlying k=some (.array n e)∧P.underlying e=some (.int q)∧P.info? e=some i∧i.size=1∧l.length=n:=by
 unfold Db at h;split at h
 ·rename_i q hq;exact .inl ⟨q,hq⟩
 ·rename_i hq;exact .inr (.inl hq)
 ·rename_i n e hu;split at h
  ·rename_i q hq;simp only[Bool.and_eq_true,decide_eq_true_eq] at h;obtain⟨⟨⟨h1,h2⟩,h3⟩,_⟩:=h
   obtain⟨i,hi⟩:=Option.isSome_iff_exists.1 h3
   exact .inr (.inr ⟨n,e,q,i,hu,hq,hi,by rw[← rH hi];exact h1,h2⟩)
  ·cases h
 ·cases h
theorem Qn (w:World) {k:Nat} {l:List Bool} {us:List Value} (hl:eZ P 20 k=some l) (hm:Db P l k=true) (hu:gC l us us) {es:List MapEntry} (h:Y4 P k l us es) :
 (Instr.findKey k (mk (dA P k) us) es).run P w=.ok (xZ (mk (dA P k) us) es 0) w:=by
 rcases Mi hm with ⟨q,hk⟩|hk|⟨n,e,q,i,hk,_⟩
 ·have kU:dA P k=false:=by simp[dA,hk]
  have Ht:l=[true]:=by simpa [eZ,hk] using hl.symm
  subst Ht
  have hus:∀vs,gC [true] us vs→∃k0 a b,us=[.int k0 a]∧vs=[.int k0 b]:=fun vs h=>by
   cases us with
   | nil=>simp[gC] at h
   | cons u us=>cases vs with
     | nil=>cases u<;>simp[gC] at h
     | cons v vs =>
       cases u<;>cases v<;>simp[gC] at h
       cases us<;>cases vs<;>simp[gC] at h
       subst h;exact⟨_,_,_,rfl,rfl⟩
  obtain⟨k0,a,_,e1,_⟩:=hus us hu
  have Qo:∀e∈es,∃b,e.key=.int k0 b:=fun e he=>by
   obtain⟨vs,h1,h2⟩:=h e he
   obtain⟨k1,a1,b1,e2,e3⟩:=hus vs h2
   rw[e1] at e2;simp at e2
   exact⟨b1,by rw[h1,kU,e3];simp[mk,e2.1]⟩
  have hx:mk (dA P k) us=.int k0 a:=by rw[kU,e1];rfl
  rw[hx];simp only[Instr.findKey,Sem.run_bind,aX hk,Result.andThen_ok,Vf es 0 Qo];rfl
 ·have kU:dA P k=false:=by simp[dA,hk]
  have Ht:l=[false]:=by simpa [eZ,hk] using hl.symm
  subst Ht
  have hus:∀vs,gC [false] us vs→∃a b,us=[.bool a]∧vs=[.bool b]:=fun vs h=>by
   cases us with
   | nil=>simp[gC] at h
   | cons u us=>cases vs with
     | nil=>cases u<;>simp[gC] at h
     | cons v vs =>
       cases u<;>cases v<;>simp[gC] at h
       cases us<;>cases vs<;>simp[gC] at h
       exact⟨_,_,rfl,rfl⟩
  obtain⟨a,_,e1,_⟩:=hus us hu
  have Qo:∀e∈es,∃b,e.key=.bool b:=fun e he=>by
   obtain⟨vs,h1,h2⟩:=h e he
   obtain⟨a1,b1,e2,e3⟩:=hus vs h2
   exact⟨b1,by rw[h1,kU,e3];rfl⟩
  have hx:mk (dA P k) us=.bool a:=by rw[kU,e1];rfl
  rw[hx];simp only[Instr.findKey,Sem.run_bind,aX hk,Result.andThen_ok,Qm es 0 Qo];rfl
 ·have kU:dA P k=true:=by simp[dA,hk]
  cases es with
  | nil =>
    simp[Instr.findKey,aX hk,Instr.findNow,xZ]
  | cons m es =>
    have hn:Instr.findNow (.array n e) (mk (dA P k) us) (m :: es) 0=none:=by
     simp[Instr.findNow,Instr.sameNow]
    simp only[Instr.findKey,Sem.run_bind,aX hk,Result.andThen_ok,hn];exact Iv w hl (m :: es) 0 h
theorem Mj (w:World) {k:Nat} {l:List Bool} {us:List Value} (hl:eZ P 20 k=some l) (hm:Db P l k=true) (hu:gC l us us) (em:Bool) :
 (Instr.checkKey em 10000 k (mk (dA P k) us)).run P w=.ok () w:=by
 have plain:∀(n t:Nat) (q:IntKind) (x:Value),P.underlying t=some (.int q)→(Instr.checkKey em (n+1) t x).run P w=.ok () w:=fun n t q x ht=>by
  simp[Instr.checkKey,aX ht]
 rcases Mi hm with ⟨q,hk⟩|hk|⟨n,e,q,i,hk,he,hi,hs,hn⟩
 ·exact plain 9999 k q _ hk
 ·have plainB:∀(n t:Nat) (x:Value),P.underlying t=some .bool→(Instr.checkKey em (n+1) t x).run P w=.ok () w:=fun n t x ht=>by
   simp[Instr.checkKey,aX ht]
  exact plainB 9999 k _ hk
 ·have kU:dA P k=true:=by simp[dA,hk]
  have hea:dA P e=false:=by simp[dA,he]
  have hlen:=(lJ _ _ _ hu).1
  rw[kU];simp only[mk,if_true];rw[show (10000:Nat)=9999+1 from rfl,Instr.checkKey];simp only[Sem.run_bind,aX hk,Result.andThen_ok];simp only[Std.Legacy.Range.forIn_eq_forIn_range',Std.Legacy.Range.size,Nat.sub_zero,Nat.add_one_sub_one,Nat.div_one];have each:∀j∈List.range' 0 n,j<us.length:=fun j hj=>by
   have:=List.mem_range'_1.1 hj
   omega
  generalize List.range' 0 n=is at each
  induction is with
  | nil=>simp
  | cons j is ih =>
    have hj:=each j (by simp)
    have p1:=Hy w he hi us j (fun _=>hs) (by omega)
    simp only[List.forIn_cons,Sem.run_bind,run_sizeOf w hi,hs,Nat.mul_one,Result.andThen_ok,p1,plain 9998 e q _ he,Sem.run_pure];exact ih fun y hy=>each y (by simp[hy])
theorem wS:∀(l:List Bool) (us:List Value),gC l us us→∀x∈us,∀n,Instr.sameBits n x x=true
 | [],[],_,x,hx,n=>by simp at hx
 | true :: l,.int k a :: us,h,x,hx,n=>by
   rcases List.mem_cons.1 hx with rfl|hx
   ·cases n<;>simp[Instr.sameBits]
   ·exact wS l us h.2 x hx n
 | false :: l,.bool a :: us,h,x,hx,n=>by
   rcases List.mem_cons.1 hx with rfl|hx
   ·cases n<;>simp[Instr.sameBits]
   ·exact wS l us h x hx n
theorem G9 (w:World) {agg:Bool} {l:List Bool} {us:List Value} (hu:gC l us us) (ha:agg=false→l.length=1):(Instr.keyThatStays (mk agg us) (mk agg us)).run P w=.ok (mk agg us) w:=by
 have hs:Instr.sameBits 10000 (mk agg us) (mk agg us)=true:=by
  cases agg with
  | true =>
    simp only[mk,if_true];show Instr.sameBits (9999+1) _ _=true
    simp only[Instr.sameBits,beq_self_eq_true,Bool.true_and];have Nv:∀x∈us,Instr.sameBits 9999 x x=true:=fun x hx=>wS l us hu x hx 9999
    clear hu
    induction us with
    | nil=>rfl
    | cons x us ih =>
      simp only[List.zip_cons_cons,List.all_cons,Bool.and_eq_true];exact⟨Nv x (by simp),ih fun y hy=>Nv y (by simp[hy])⟩
  | false =>
    obtain⟨a,rfl⟩:=List.length_eq_one_iff.1 ((lJ _ _ _ hu).1.trans (ha rfl))
    exact wS l [a] hu a (by simp) 10000
 simp[Instr.keyThatStays,hs]
theorem Qp {k:Nat} {x y:AV} {C:Ctx} {u v:Value} (h:Fk P k x y) (hu:cS C x u) (hv:cS C y v) :
 ∃l us vs,eZ P 20 k=some l∧gC l us vs∧u=mk (dA P k) us∧v=mk (dA P k) vs∧(x=y↔u=v):=by
 unfold Fk at h;cases hl:eZ P 20 k with
 | none=>simp[hl] at h
 | some l =>
   simp only[hl] at h;obtain⟨h1,h2,h3⟩:=h
   cases kU:dA P k with
   | true =>
     obtain⟨⟨cs,rfl⟩,ds,rfl⟩:=h2 kU
     obtain⟨us,vs,e1,e2,e3⟩:=Df _ _ _ h1
     simp only[AV.cells] at e1 e2;subst e1;subst e2;have eu:=Bg hu
     have ev:=Bg hv
     refine⟨l,us,vs,rfl,e3,by rw[eu];rfl,by rw[ev];rfl, ?_⟩
     rw[eu,ev];simp[FU]
   | false =>
     obtain⟨⟨a,rfl⟩,b,rfl⟩:=h3 kU
     obtain⟨us,vs,e1,e2,e3⟩:=Df _ _ _ h1
     have eu:=iH hu
     have ev:=iH hv
     subst eu;subst ev;have f1:us=[u]:=by
      cases us with
      | nil=>simp[AV.cells] at e1
      | cons c us=>simp[AV.cells] at e1;simp[e1.1,← e1.2]
     have f2:vs=[v]:=by
      cases vs with
      | nil=>simp[AV.cells] at e2
      | cons c vs=>simp[AV.cells] at e2;simp[e2.1,← e2.2]
     subst f1;subst f2;exact⟨l,_,_,rfl,e3,rfl,rfl,by simp⟩
theorem AG {k:Nat} {x:AV} {C:Ctx} {u:Value} {l:List Bool} {us:List Value} (hl:eZ P 20 k=some l) (hu:cS C x u) (he:u=mk (dA P k) us) (hx:gC l us us):∀ {es:List (AV × AV)} {ms:List MapEntry},
 (∀p∈es,Fk P k x p.1)→Xw C es ms→Y4 P k l us ms
 | [],[],_,_=>fun e h=>by simp at h
 | p :: es,m :: ms,hk,h=>by
   have ih:=AG hl hu he hx (es:=es) (ms:=ms) (fun q hq=>hk q (by simp[hq])) h.2.2
   intro e hem;rcases List.mem_cons.1 hem with rfl|hem
   ·obtain⟨l',us',vs,e1,e2,e3,e4,_⟩:=Qp (hk p (by simp)) hu h.1
    rw[hl] at e1;cases e1
    refine⟨vs,e4, ?_⟩
    have:us'=us:=by
     rw[he] at e3;have hlen1:=(lJ _ _ _ hx).1
     have hlen2:=(lJ _ _ _ e2).1
     cases kU:dA P k with
     | true=>rw[kU] at e3;simpa [mk] using e3.symm
     | false =>
       have h1:=oF 20 k l hl kU
       obtain⟨a,rfl⟩:=List.length_eq_one_iff.1 (hlen1.trans h1)
       obtain⟨b,rfl⟩:=List.length_eq_one_iff.1 (hlen2.trans h1)
       rw[kU] at e3;simpa [mk] using e3.symm
    rw[← this];exact e2
   ·exact ih e hem
 | [],_ :: _,_,h=>h.elim
 | _ :: _,[],_,h=>h.elim
theorem HJ {k:Nat} {x:AV} {C:Ctx} {u:Value} (hu:cS C x u):∀ {es:List (AV × AV)} {ms:List MapEntry} (i:Nat),(∀p∈es,Fk P k x p.1)→Xw C es ms →
 (O4 es x=none∧xZ u ms i=none)∨∃v y j,O4 es x=some v∧xZ u ms i=some (i+j,y)∧cS C v y∧j<ms.length
 | [],[],i,_,_=>.inl ⟨rfl,rfl⟩
 | p :: es,m :: ms,i,hk,h=>by
   obtain⟨l',us',vs,e1,e2,e3,e4,e5⟩:=Qp (hk p (by simp)) hu h.1
   simp only[O4,xZ];by_cases hq:x=p.1
   ·rw[if_pos hq.symm,if_pos (e5.1 hq)];exact .inr ⟨_,_,0,rfl,rfl,h.2.1,by simp⟩
   ·rw[if_neg (Ne.symm hq),if_neg (fun h'=>hq (e5.2 h'))]
    rcases HJ hu (es:=es) (ms:=ms) (i+1) (fun q hq=>hk q (by simp[hq])) h.2.2 with ⟨h1,h2⟩|⟨v,y,j,h1,h2,h3,h4⟩
    ·exact .inl ⟨h1,h2⟩
    ·exact .inr ⟨v,y,j+1,h1,by rw[h2];congr 2;omega,h3,by simp;omega⟩
 | [],_ :: _,_,_,h=>h.elim
 | _ :: _,[],_,_,h=>h.elim
theorem HK {k:Nat} {x z:AV} {C:Ctx} {u y:Value} (hu:cS C x u) (hz:cS C z y):∀ {es:List (AV × AV)} {ms:List MapEntry} (i:Nat),(∀p∈es,Fk P k x p.1)→Xw C es ms →
 (xZ u ms i=none∧∀c,Xw C (O5 es x z) (ms++[{ key:=u,val:=y,born:=c }])) ∨
 ∃v j,xZ u ms i=some (i+j,v)∧(∃m,ms[j]? = some m∧m.key=u)∧Xw C (O5 es x z) (ms.modify j fun e=>{ e with key:=u,val:=y })
 | [],[],i,_,_=>.inl ⟨rfl,fun c=>⟨hu,hz,trivial⟩⟩
 | p :: es,m :: ms,i,hk,h=>by
   obtain⟨l',us',vs,e1,e2,e3,e4,e5⟩:=Qp (hk p (by simp)) hu h.1
   simp only[O5,xZ];by_cases hq:x=p.1
   ·rw[if_pos hq.symm,if_pos (e5.1 hq)];exact .inr ⟨_,0,rfl,⟨m,rfl,(e5.1 hq).symm⟩,by simp[List.modify];exact⟨hu,hz,h.2.2⟩⟩
   ·rw[if_neg (Ne.symm hq),if_neg (fun h'=>hq (e5.2 h'))]
    rcases HK hu hz (es:=es) (ms:=ms) (i+1) (fun q hq=>hk q (by simp[hq])) h.2.2 with ⟨h1,h2⟩|⟨v,j,h1,h2,h3⟩
    ·exact .inl ⟨h1,fun c=>⟨h.1,h.2.1,h2 c⟩⟩
    ·exact .inr ⟨v,j+1,by rw[h1];congr 2;omega,by simpa using h2,by simp[List.modify_succ_cons];exact⟨h.1,h.2.1,h3⟩⟩
 | [],_ :: _,_,_,h=>h.elim
 | _ :: _,[],_,_,h=>h.elim
theorem Qq {T k:Nat} {z:AV} (h:Wy P T=some (k,z)):∃e l zv,P.underlying T=some (.map k e)∧eZ P 20 k=some l∧Db P l k=true ∧
 (∀w,(zeroValue e).run P w=.ok zv w)∧∀C:Ctx,cS C z zv:=by
 unfold Wy at h;split at h
 ·rename_i k' e hT
  split at h
  ·rename_i l z' hl hz
   split at h
   ·rename_i hm;simp only[Option.some.injEq,Prod.mk.injEq] at h;obtain⟨rfl,rfl⟩:=h
    unfold aEd at hz;split at hz
    ·rename_i i hi;split at hz
     ·rename_i cs PU;split at hz
      ·rename_i Nv;simp only[Option.some.injEq] at hz;subst hz;refine⟨e,l,_,hT,hl,hm,fun w=>Cj w hi PU,fun C=>?_⟩
       have hc:=fQ.vs C cs.toList (List.all_eq_true.1 Nv)
       exact .agg _ _ (by simp) (fun j x y hx hy=>hc.rel j x y hx (by simpa using hy)) (fun j y hy=>hc.one j y (by simpa using hy))
      ·cases hz
     ·rename_i y hy PU;split at hz
      ·simp only[Option.some.injEq] at hz;subst hz;exact⟨e,l,_,hT,hl,hm,fun w=>Cj w hi PU,fun C=>.v _⟩
      ·cases hz
     ·cases hz
    ·cases hz
   ·cases h
  ·cases h
 ·cases h
end
section
variable {P:Program} {h0:Nat→Obj→Prop} {w0:World} {F:Hs} {nt:Nat} {ρ:Nat→Nat→Value} {st:St} {a:Act} {w:World}
theorem WU (S:kJ F h0 w0 nt ρ st a w) {T:Nat} {m x z:AV} {ok:Bool} {mv xv:Value} (h:Us P st T m x ok=some z) (hm:cS (ctx h0 w0 ρ st w) m mv) (hx:cS (ctx h0 w0 ρ st w) x xv) :
 ∃r,(Instr.lookup T mv xv ok).run P w=.ok r w∧cS (ctx h0 w0 ρ st w) z r:=by
 unfold Us at h;split at h
 ·rename_i s g;split at h
  ·rename_i es k zd he hi;split at h
   ·rename_i hk;obtain⟨e,l,zv,hT,hl,hmk,hz,hzr⟩:=Qq hi
    obtain⟨_,_,b,arr,clock,jR,_,hh,hml⟩:=S.sF s g _ he
    obtain⟨l',us,vs,e1,e2,e3,e4,_⟩:=Qp hk.1 hx hx
    rw[hl] at e1;cases e1
    have Y5:vs=us:=by
     rw[e3] at e4;have hlen:=lJ _ _ _ e2
     cases kU:dA P k with
     | true=>rw[kU] at e4;simpa [mk] using e4.symm
     | false =>
       have h1:=oF 20 k l hl kU
       obtain⟨p,rfl⟩:=List.length_eq_one_iff.1 (hlen.1.trans h1)
       obtain⟨q,rfl⟩:=List.length_eq_one_iff.1 (hlen.2.trans h1)
       rw[kU] at e4;simpa [mk] using e4.symm
    subst Y5;have Qo:=AG hl hx e3 e2 hk.2 hml
    cases hm with
    | mp _ _ hg ho =>
      show ∃r,(Instr.lookup T (ρ s g) xv ok).run P w=.ok r w∧_
      rw[jR,e3];have hck:=Mj w hl hmk e2 arr.isEmpty
      have hfk:=Qn w hl hmk e2 Qo
      rcases HJ hx 0 hk.2 hml with ⟨h1,h2⟩|⟨v,y,j,h1,h2,h3,_⟩
      ·rw[h1] at h;simp only[Option.some.injEq] at h;subst h;rw[e3] at h2;rw[h2] at hfk;refine⟨if ok=true then .tuple #[zv,.bool false] else zv,by
        simp[Instr.lookup,aX hT,MapKept.run_getObj_map hh,hck,hfk,hz w], ?_⟩
       cases ok
       ·exact hzr _
       ·exact .eG _ _ rfl fun i x y hx hy=>by
         match i with
         | 0=>simp at hx hy;subst hx;subst hy;exact hzr _
         | 1=>simp at hx hy;subst hx;subst hy;exact .v _
         | i+2=>simp at hx
      ·rw[h1] at h;simp only[Option.some.injEq] at h;subst h;rw[e3] at h2;rw[h2] at hfk;refine⟨if ok=true then .tuple #[y,.bool true] else y,by
        simp[Instr.lookup,aX hT,MapKept.run_getObj_map hh,hck,hfk], ?_⟩
       cases ok
       ·exact h3
       ·exact .eG _ _ rfl fun i x y hx hy=>by
         match i with
         | 0=>simp at hx hy;subst hx;subst hy;exact h3
         | 1=>simp at hx hy;subst hx;subst hy;exact .v _
         | i+2=>simp at hx
   ·cases h
  ·cases h
 ·cases h
theorem JS (S:kJ F h0 w0 nt ρ st a w) {T s g:Nat} {m x y:AV} {e:mV} {mv xv yv:Value} (h:tZ P st T m x y=some (s,g,e))
 (hm:cS (ctx h0 w0 ρ st w) m mv) (hx:cS (ctx h0 w0 ρ st w) x xv) (hy:cS (ctx h0 w0 ρ st w) y yv) :
 ∃w',(Instr.mapUpdate T mv xv yv).run P w=.ok () w'∧kJ F h0 w0 nt ρ (st.jA s g (some e)) a w':=by
 unfold tZ at h;split at h
 ·rename_i s' g'
  split at h
  ·rename_i es k zd he hi;split at h
   ·rename_i hk;obtain⟨hk,sG⟩:=hk
    simp only[Option.some.injEq,Prod.mk.injEq] at h;obtain⟨rfl,rfl,rfl⟩:=h
    obtain⟨e,l,zv,hT,hl,hmk,hz,hzr⟩:=Qq hi
    obtain⟨_,_,b,arr,clock,jR,xD,hh,hml⟩:=S.sF s' g' _ he
    obtain⟨l',us,vs,e1,e2,e3,e4,_⟩:=Qp hk.1 hx hx
    rw[hl] at e1;cases e1
    have Y5:vs=us:=by
     rw[e3] at e4;have hlen:=lJ _ _ _ e2
     cases kU:dA P k with
     | true=>rw[kU] at e4;simpa [mk] using e4.symm
     | false =>
       have h1:=oF 20 k l hl kU
       obtain⟨p,rfl⟩:=List.length_eq_one_iff.1 (hlen.1.trans h1)
       obtain⟨q,rfl⟩:=List.length_eq_one_iff.1 (hlen.2.trans h1)
       rw[kU] at e4;simpa [mk] using e4.symm
    subst Y5;have Qo:=AG hl hx e3 e2 hk.2 hml
    clear e4
    subst e3;have oC:cW (ρ s' g')=some b:=by rw[jR];rfl
    have grown:∀o,w.grownBy { w with heap:=w.heap.setIfInBounds b o } (some b):=fun o=>⟨rfl,rfl,rfl,by simp,fun k _ hk=>by
     have gN:b≠k:=fun e=>hk (by rw[e])
     simp[gN]⟩
    cases hm with
    | mp _ _ hg ho =>
      show ∃w',(Instr.mapUpdate T (ρ s' g') _ yv).run P w=.ok () w'∧_
      have hck:=Mj w hl hmk e2 false
      have hfk:=Qn w hl hmk e2 Qo
      have aY:b<w.heap.size:=(Array.getElem?_eq_some_iff.1 hh).1
      rcases HK (z:=y) hx hy 0 hk.2 hml with ⟨h1,h2⟩|⟨v,j,h1,⟨m0,hm0,hmk0⟩,h3⟩
      ·rw[h1] at hfk;refine⟨_,by
        rw[jR];simp only[Instr.mapUpdate,Sem.run_bind,aX hT,MapKept.run_getObj_map hh,Result.andThen_ok,hck,hfk,MapKept.run_setObj_map _ hh];rfl,S.store he oC (grown _) fun C kk=>?_⟩
       refine⟨b,arr.push { key:=mk (dA P k) vs,val:=yv,born:=clock },clock+1,jR,xD,by simp[aY], ?_⟩
       have:=(h2 clock).le kk
       simpa using this
      ·rw[h1] at hfk;have sG:=G9 (P:=P) w (agg:=dA P k) e2 (oF 20 k l hl)
       have hm0':arr[j]? = some m0:=by simpa using hm0
       have hkey:((arr[0+j]?).map (·.key)).getD (mk (dA P k) vs)=mk (dA P k) vs:=by
        rw[Nat.zero_add,hm0'];simp[hmk0]
       refine⟨_,by
        rw[jR];simp only[Instr.mapUpdate,Sem.run_bind,aX hT,MapKept.run_getObj_map hh,Result.andThen_ok,hck,hfk,hkey,sG,MapKept.run_setObj_map _ hh];rfl,S.store he oC (grown _) fun C kk=>?_⟩
       refine⟨b,arr.modify (0+j) fun e=>{ e with key:=mk (dA P k) vs,val:=yv },clock,jR,xD,by simp[aY], ?_⟩
       have:=h3.le kk
       simpa [Array.toList_modify] using this
   ·cases h
  ·cases h
 ·cases h
end
end Go.Ab
end
section
namespace Go.Ab
open Classical
section
variable {P:Program} {h0:Nat→Obj→Prop} {w0:World} {F:Hs} {nt:Nat} {ρ:Nat→Nat→Value} {st:St} {a:Act} {w:World}
theorem PW (S:kJ F h0 w0 nt ρ st a w) {T:Nat} {x z:AV} {lo hi:Option Operand} {u:Value} (h:cX P st T x lo hi=some z) (hu:cS (ctx h0 w0 ρ st w) x u) :
 ∃r,(Instr.sliceAt T u (lo.map a.eval) (hi.map a.eval) none).run P w=.ok r w∧cS (ctx h0 w0 ρ st w) z r:=by
 unfold cX at h;cases hs:dL P T with
 | none =>
   simp only[hs] at h;split at h
   ·rename_i n sz s g o ha;obtain⟨e,ei,hT,hi,rfl,gN⟩:=Pg ha
    cases he:st.heap s g with
    | none=>simp[he] at h
    | some en =>
      cases en with
      | cells es =>
        simp only[he,Option.some.injEq] at h;subst h;obtain⟨_,_,b1,arr,T1,jR,_⟩:=S.sF s g _ he
        cases hu with
        | ptr _ _ _ b hg hb =>
          refine⟨.slice (some ⟨b,o,none⟩) n n, ?_,.vw s g o n b n hg hb (Nat.le_refl _) (fun ho p n0 c0 hc=>by
           have h2:ρ s g=.slice p n0 c0:=hc
           rw[jR] at h2;cases h2)⟩
          simp[Instr.sliceAt,aX hT,Instr.sureAddr,Instr.sliceBounds,run_sizeOf w hi,lB]
      | _=>simp[he] at h
   ·cases h
 | some t =>
   obtain⟨e,sz,by_⟩:=t
   simp only[hs] at h;obtain⟨ei,ez,hT,Cw,DG,rfl,Uw,rfl,Cl⟩:=jY hs
   have hiv:∀(o:Option Operand) (n:Int) (k:IntKind) (i:Int),(match o with|some h=>st.ev h|none=>AV.v (.int .i64 n))=.v (.int k i) →
    (match o with|some h=>a.eval h|none=>Value.int .i64 n)=.int k i:=fun o n k i ho=>by
    cases o with
    | none=>simp only at ho ⊢;cases ho;rfl
    | some p =>
      simp only at ho ⊢
      have:=S.ev p
      rw[ho] at this;exact iH this
   have qD:∀(p:Option Addr) (n cap:Nat) (kh kl:IntKind) (H L:Int),n≤cap→(match hi with|some h=>a.eval h|none=>Value.int .i64 n)=.int kh H→(match lo with|some l=>a.eval l|none=>Value.int .i64 0)=.int kl L →
    0≤L→L≤H→H≤n →
    (Instr.sliceAt T (.slice p n cap) (lo.map a.eval) (hi.map a.eval) none).run P w=.ok (.slice (if cap=L.toNat then p else p.map (·.add (L.toNat * ei.size))) (H.toNat-L.toNat) (cap-L.toNat)) w:=by
    intro p n cap kh kl H L mY hh hl l0 l1 l2;have b1:H≤(cap:Int):=by omega
    have b2:L≤((H.toNat:Nat):Int):=by omega
    have b3:0≤H:=by omega
    have b6:max H 0=H:=by omega
    cases hi with
    | none =>
      simp only[Value.int.injEq] at hh;obtain⟨rfl,rfl⟩:=hh
      cases lo with
      | none =>
        simp only[Value.int.injEq] at hl;obtain⟨rfl,rfl⟩:=hl
        simp[Instr.sliceAt,Instr.slice,Instr.sliceBounds,aX hT,run_sizeOf w Cw]
      | some l =>
        simp only at hl
        simp[Instr.sliceAt,Instr.slice,Instr.sliceBounds,Instr.sliceBound,asIntOf,aX hT,run_sizeOf w Cw,hl,l0,l1]
    | some h =>
      simp only at hh
      cases lo with
      | none =>
        simp only[Value.int.injEq] at hl;obtain⟨rfl,rfl⟩:=hl
        simp[Instr.sliceAt,Instr.slice,Instr.sliceBounds,Instr.sliceBound,asIntOf,aX hT,run_sizeOf w Cw,hh,b3,b1]
      | some l =>
        simp only at hl
        simp[Instr.sliceAt,Instr.slice,Instr.sliceBounds,Instr.sliceBound,asIntOf,aX hT,run_sizeOf w Cw,hh,hl,l0,b3,b1,b6,l1]
   cases x with
   | sl n cs =>
     simp only at h
     split at h
     ·rename_i kh H kl L e1 e2;split at h
      ·rename_i hc;obtain⟨c1,c2,c3,c4⟩:=hc
       simp only[Option.some.injEq] at h;subst h;have Y6:=hiv hi n kh H e1
       have e2':=hiv lo 0 kl L e2
       have hHL:(H-L).toNat=H.toNat-L.toNat:=by omega
       cases hu with
       | IB n cap p mY =>
         refine⟨_,qD p n cap kh kl H L mY Y6 e2' c1 c2 c3, ?_⟩
         rw[hHL];simp only[List.drop_nil,List.take_nil];exact .IB _ _ _ (by omega)
       | sl n cs b off cap arr T' fr mY hb hle hr h1 =>
         refine⟨_,qD _ n cap kh kl H L mY Y6 e2' c1 c2 c3, ?_⟩
         rw[hHL];by_cases hm:cap=L.toNat
         ·have hz:H.toNat-L.toNat=0:=by omega
          rw[if_pos hm,hz];simp only[Nat.zero_mul,List.take_zero];exact .IB _ _ _ (by omega)
         ·rw[if_neg hm];simp only[Option.map_some,lB];have hbound:L.toNat * ei.size+(H.toNat-L.toNat) * ei.size≤cs.length:=by
           rw[c4,← Nat.add_mul];exact Nat.mul_le_mul_right _ (by omega)
          refine .sl _ _ b (off+L.toNat * ei.size) _ arr T' fr (by omega) hb (by simp;omega) (fun i x y hx hy=>?_) (fun i y Dg hy=>?_)
          ·rw[List.getElem?_take] at hx;split at hx
           ·rw[List.getElem?_drop] at hx;exact hr _ x y hx (by rw[← Nat.add_assoc];exact hy)
           ·cases hx
          ·simp only[List.length_take,List.length_drop] at Dg
           exact h1 (L.toNat * ei.size+i) y (by omega) (by rw[← Nat.add_assoc];exact hy)
      ·cases h
     ·cases h
   | v xv =>
     split at h
     ·rename_i heq;cases heq
     ·rename_i heq;cases heq
      split at h
      ·rename_i kh H kl L e1 e2;split at h
       ·rename_i hc;obtain⟨rfl,rfl⟩:=hc
        simp only[Option.some.injEq] at h;subst h;have:=iH hu
        subst this;have Y6:=hiv hi 0 kh 0 e1
        have e2':=hiv lo 0 kl 0 e2
        refine⟨_,qD none 0 0 kh kl 0 0 (Nat.le_refl _) Y6 e2' (by omega) (by omega) (by omega), ?_⟩
        simp
        exact .v _
       ·cases h
      ·cases h
     ·rename_i heq;cases heq
     ·rename_i heq;cases heq
     ·cases h
   | own s g =>
     simp only at h
     cases he:st.heap s g with
     | none=>simp[he] at h
     | some en =>
       cases en with
       | row e' sJ n es =>
         simp only[he] at h;split at h
         ·rename_i kh H kl L e1 e2;split at h
          ·rename_i hc;obtain⟨c1,c2,c3⟩:=hc
           have Y6:=hiv hi n kh H e1
           have e2':=hiv lo 0 kl L e2
           have hHL:(H-L).toNat=H.toNat-L.toNat:=by omega
           obtain⟨aY,_,xs,ho,Ay⟩:=S.sF s g _ he
           cases hu with
           | own _ _ hg h1 =>
             show ∃r,(Instr.sliceAt T (ρ s g) (lo.map a.eval) (hi.map a.eval) none).run P w=.ok r w∧_
             rcases ho.2 with ⟨p,jR,hn⟩|⟨b',cap,cur,jR,_,hh,Wd,_,_,ht,pT⟩
             ·rw[jR];subst hn;have hLH:L=H:=by omega
              rw[if_pos ⟨hLH,by omega⟩] at h
              simp only[Option.some.injEq] at h;subst h;have hz:H.toNat-L.toNat=0:=by omega
              refine⟨_,qD p 0 0 kh kl H L (Nat.le_refl _) Y6 e2' c1 c2 c3, ?_⟩
              rw[hz];exact .IB _ _ _ (by omega)
             ·rw[jR];refine⟨_,qD _ n cap kh kl H L Wd Y6 e2' c1 c2 c3, ?_⟩
              split at h
              ·rename_i hLH;simp only[Option.some.injEq] at h;subst h;have hz:H.toNat-L.toNat=0:=by omega
               rw[hz];exact .IB _ _ _ (by omega)
              ·rename_i hLH;simp only[Option.some.injEq] at h;subst h;rw[if_neg (by omega),hHL]
               simp only[Option.map_some,lB,Nat.zero_add];exact .vw s g _ _ b' _ hg (by show cW (ρ s g)=_;rw[jR,jE pT]) (by omega) (fun hz p n0 c0 hc=>by
                have h3:L.toNat=0:=(Nat.mul_eq_zero.1 hz).resolve_right (by omega)
                have h2:ρ s g=.slice p n0 c0:=hc
                rw[jR] at h2;simp only[Value.slice.injEq] at h2;omega)
          ·cases h
         ·cases h
       | _=>simp[he] at h
   | vw s g o k =>
     cases o with
     | succ o=>simp at h
     | zero =>
     simp only at h
     split at h
     ·rename_i e' sJ n es ho' Ht he
      split at h
      ·rename_i kh H kl L e1 e2;split at h
       ·rename_i hc;obtain⟨c1,c2,c3⟩:=hc
        simp only[Option.some.injEq] at h;subst h;obtain⟨aY,_,xs,ho,Ay⟩:=S.sF s g _ he
        cases hu with
        | vw _ _ _ _ b cap hg hb mY zJ =>
          have oC:cW (ρ s g)=some b:=hb
          rcases ho.2 with ⟨p,jR,hn⟩|⟨b',DF,cur,jR,_,hh,Wd,_,_,ht,pT⟩
          ·rw[jR,oE] at oC;cases oC
          ·have wO:b'=b:=by rw[jR,jE pT] at oC;simpa using oC
           subst wO;have hcc:cap=DF:=zJ rfl _ _ _ jR
           subst hcc;have f1:a.eval ho'=.int kh H:=by
            have:=S.ev ho'
            rw[e1] at this;exact iH this
           have f2:a.eval Ht=.int kl L:=by
            have:=S.ev Ht
            rw[e2] at this;exact iH this
           have b1:H≤(cap:Int):=by omega
           have b2:L≤((H.toNat:Nat):Int):=by omega
           have b3:0≤H:=by omega
           have b6:max H 0=H:=by omega
           have b7:¬cap=L.toNat:=by omega
           refine⟨.slice (some ⟨b',L.toNat * ei.size,none⟩) (H.toNat-L.toNat) (cap-L.toNat), ?_, ?_⟩
           ·simp[Instr.sliceAt,Instr.slice,Instr.sliceBounds,Instr.sliceBound,asIntOf,aX hT,run_sizeOf w Cw,f1,f2,c1,b3,b1,b6,b2,b7,lB,show L≤H by omega]
           ·rw[show (H-L).toNat=H.toNat-L.toNat by omega]
            exact .vw s g _ _ b' _ hg hb (by omega) (fun hz p n0 c0 hc=>by
             have h3:L.toNat=0:=(Nat.mul_eq_zero.1 hz).resolve_right (by omega)
             have h2:ρ s g=.slice p n0 c0:=hc
             rw[jR] at h2;simp only[Value.slice.injEq] at h2;omega)
       ·cases h
      ·cases h
     ·cases h
   | _=>first|(simp at h;done)|(cases h;done)
theorem JT (S:kJ F h0 w0 nt ρ st a w) {T:Nat} {x z:AV} {lo:Option Operand} {hi mx:Operand} {u:Value} (h:wM P st T x lo hi mx=some z) (hu:cS (ctx h0 w0 ρ st w) x u) :
 ∃r,(Instr.sliceAt T u (lo.map a.eval) (some (a.eval hi)) (some (a.eval mx))).run P w=.ok r w∧cS (ctx h0 w0 ρ st w) z r:=by
 unfold wM at h;cases hs:dL P T with
 | none=>simp[hs] at h
 | some t =>
   obtain⟨e,sz,by_⟩:=t
   simp only[hs] at h;obtain⟨ei,ez,hT,Cw,DG,rfl,Uw,rfl,Cl⟩:=jY hs
   have qH:∀(o:Operand) (k:IntKind) (i:Int),st.ev o=.v (.int k i)→a.eval o=.int k i:=fun o k i ho=>by
    have:=S.ev o
    rw[ho] at this;exact iH this
   split at h
   ·rename_i kh H km M kl L e1 e2 e3;have f1:=qH _ _ _ e1
    have f2:=qH _ _ _ e2
    have qD:∀(p:Option Addr) (n cap:Nat),n≤cap→0≤L→L≤H→H=M→H≤n →
     (Instr.sliceAt T (.slice p n cap) (lo.map a.eval) (some (a.eval hi)) (some (a.eval mx))).run P w=.ok (.slice (if H.toNat=L.toNat then p else p.map (·.add (L.toNat * ei.size))) (H.toNat-L.toNat) (H.toNat-L.toNat)) w:=by
     intro p n cap mY l0 l1 l2 l3;subst l2;have b1:H≤(cap:Int):=by omega
     have b2:L≤((H.toNat:Nat):Int):=by omega
     have b3:0≤H:=by omega
     have b4:H≤((H.toNat:Nat):Int):=by omega
     have b6:max H 0=H:=by omega
     cases lo with
     | none =>
       simp only[AV.v.injEq,Value.int.injEq] at e3;obtain⟨rfl,rfl⟩:=e3
       simp[Instr.sliceAt,Instr.slice,Instr.sliceBounds,Instr.sliceBound,asIntOf,aX hT,run_sizeOf w Cw,f1,f2,b3,b1,b4,b6]
     | some l =>
       simp only at e3
       have f3:=qH _ _ _ e3
       simp[Instr.sliceAt,Instr.slice,Instr.sliceBounds,Instr.sliceBound,asIntOf,aX hT,run_sizeOf w Cw,f1,f2,f3,l0,l1,b3,b1,b2,b4,b6]
    split at h
    ·rename_i n cs;split at h
     ·rename_i hc;obtain⟨c1,c2,c3,c4,c5⟩:=hc
      simp only[Option.some.injEq] at h;subst h;have hHL:(H-L).toNat=H.toNat-L.toNat:=by omega
      cases hu with
      | IB n cap p mY =>
        refine⟨_,qD p n cap mY c1 c2 c3 c4, ?_⟩
        rw[hHL];simp only[List.drop_nil,List.take_nil];exact .cl0 _ _
      | sl n cs b off cap arr T' fr mY hb hle hr h1 =>
        refine⟨_,qD _ n cap mY c1 c2 c3 c4, ?_⟩
        rw[hHL];by_cases hm:H.toNat=L.toNat
        ·have hz:H.toNat-L.toNat=0:=by omega
         rw[if_pos hm,hz];simp only[Nat.zero_mul,List.take_zero];exact .cl0 _ _
        ·rw[if_neg hm];simp only[Option.map_some,lB];have hbound:L.toNat * ei.size+(H.toNat-L.toNat) * ei.size≤cs.length:=by
          rw[c5,← Nat.add_mul];exact Nat.mul_le_mul_right _ (by omega)
         refine .cl _ _ b (off+L.toNat * ei.size) arr T' fr hb (by simp;omega) (fun i x y hx hy=>?_) (fun i y Dg hy=>?_)
         ·rw[List.getElem?_take] at hx;split at hx
          ·rw[List.getElem?_drop] at hx;exact hr _ x y hx (by rw[← Nat.add_assoc];exact hy)
          ·cases hx
         ·simp only[List.length_take,List.length_drop] at Dg
          exact h1 (L.toNat * ei.size+i) y (by omega) (by rw[← Nat.add_assoc];exact hy)
     ·cases h
    ·split at h
     ·rename_i hc;obtain⟨c1,c2,c3⟩:=hc
      simp only[Option.some.injEq] at h;subst h;have:=iH hu
      subst this;refine⟨_,qD none 0 0 (Nat.le_refl _) (by omega) (by omega) (by omega) (by omega), ?_⟩
      subst c2;simp
      exact .v _
     ·cases h
    ·rename_i s g;cases he:st.heap s g with
     | none=>simp[he] at h
     | some en =>
       cases en with
       | row e' sJ n es =>
         simp only[he] at h;split at h
         ·rename_i hc;obtain⟨c1,c2,c3,c4⟩:=hc
          simp only[Option.some.injEq] at h;subst h;obtain⟨aY,_,xs,ho,Ay⟩:=S.sF s g _ he
          have hrun3:∀(p:Option Addr) (cap:Nat),n≤cap→∃q,(Instr.sliceAt T (.slice p n cap) (lo.map a.eval) (some (a.eval hi)) (some (a.eval mx))).run P w=.ok (.slice q (H.toNat-L.toNat) (M.toNat-L.toNat)) w:=by
           intro p cap mY;have b1:M≤(cap:Int):=by omega
           have b2:L≤((H.toNat:Nat):Int):=by omega
           have b3:0≤H:=by omega
           have b4:H≤((M.toNat:Nat):Int):=by omega
           have b5:0≤M:=by omega
           have b6:max M 0=M:=by omega
           have b7:max H 0=H:=by omega
           cases lo with
           | none =>
             simp only[AV.v.injEq,Value.int.injEq] at e3;obtain⟨rfl,rfl⟩:=e3
             exact⟨_,by simp[Instr.sliceAt,Instr.slice,Instr.sliceBounds,Instr.sliceBound,asIntOf,aX hT,run_sizeOf w Cw,f1,f2,b3,b1,b4,b5,b6,b7,c3]<;>rfl⟩
           | some l =>
             simp only at e3
             have f3:=qH _ _ _ e3
             exact⟨_,by simp[Instr.sliceAt,Instr.slice,Instr.sliceBounds,Instr.sliceBound,asIntOf,aX hT,run_sizeOf w Cw,f1,f2,f3,c1,c2,c3,b3,b1,b2,b4,b5,b6,b7]<;>rfl⟩
          cases hu with
          | own _ _ hg h1 =>
            show ∃r,(Instr.sliceAt T (ρ s g) _ _ _).run P w=.ok r w∧_
            have UI:∃p cap,ρ s g=.slice p n cap∧n≤cap:=by
             rcases ho.2 with ⟨p,jR,hn⟩|⟨b',cap,cur,jR,_,hh,Wd,_⟩
             ·exact⟨p,0,by rw[jR,hn],by omega⟩
             ·exact⟨_,cap,jR,Wd⟩
            obtain⟨p,cap,jR,Wd⟩:=UI
            rw[jR];obtain⟨q,hq⟩:=hrun3 p cap Wd
            exact⟨_,hq,by rw[show (H-L).toNat=H.toNat-L.toNat by omega];exact .IB _ _ _ (by omega)⟩
         ·cases h
       | _=>simp[he] at h
    ·cases h
   ·cases h
theorem Y7 {C:Ctx} {s g off:Nat} {v:Value} (h:cS C (.ptr s g off) v):∃b off,v=.pointer (some ⟨b,off,none⟩):=by
 cases h;exact⟨_,_,rfl⟩
theorem aCL {C:Ctx} {cs:List AV} {o:Nat} {v:Value} (h:cS C (.ip cs o) v):∃b off,v=.pointer (some ⟨b,off,none⟩):=by
 cases h;exact⟨_,_,rfl⟩
theorem Y8 {C:Ctx} {vs:List AV} {v:Value} (h:cS C (.eG vs) v):∃ar,v=.tuple ar∧vs.length=ar.size∧∀(i:Nat) (x:AV) (y:Value),vs[i]? = some x→ar[i]? = some y→cS C x y:=by
 cases h with
 | eG cs a hl hr=>exact⟨a,rfl,hl,hr⟩
theorem PX (S:kJ F h0 w0 nt ρ st a w) {o:Oper} {x:AV} (h:iT P st o.op=some x) :
 ∃v,(execOp a.eval o).run P w=.ok (.value v) w∧cS (ctx h0 w0 ρ st w) x v:=by
 cases qH:o.op with
 | move y=>rw[qH] at h;simp[iT] at h;subst h;exact⟨_,by simp[execOp,qH],S.ev y⟩
 | assign y=>rw[qH] at h;simp[iT] at h;subst h;exact⟨_,by simp[execOp,qH],S.ev y⟩
 | pick c y z =>
   rw[qH] at h;simp only[iT] at h;split at h
   ·rename_i t hc;simp only[Option.some.injEq] at h;subst h;have:=S.ev c
    rw[hc] at this;have:=iH this
    refine⟨if t=true then a.eval y else a.eval z,by simp[execOp,qH,this,asBool], ?_⟩
    cases t
    ·exact S.ev z
    ·exact S.ev y
   ·cases h
 | binOp op T y z yT =>
   rw[qH] at h;simp only[iT] at h;obtain⟨r,hr,eY⟩:=UP (w:=w) y z h (S.ev y) (S.ev z)
   exact⟨r,by simp only[execOp,qH];rw[dH hr];rfl,eY⟩
 | unOp op T y =>
   rw[qH] at h;simp only[iT] at h;obtain⟨r,hr,eY⟩:=A8 (P:=P) (w:=w) h (S.ev y)
   exact⟨r,by simp only[execOp,qH];rw[dH hr];rfl,eY⟩
 | convert src dst y =>
   rw[qH] at h;simp only[iT] at h;split at h
   ·rename_i k' n k ks hy hk hks
    simp only[Option.some.injEq] at h;subst h;have:=S.ev y
    rw[hy] at this;have hv:=iH this
    have hu:∀ {t:Nat} {k:IntKind},intKind P t=some k→P.underlying t=some (.int k):=fun {t k} hk=>by
     unfold intKind at hk;split at hk
     ·rename_i hu;cases hk;exact hu
     ·cases hk
    refine⟨_, ?_,.v _⟩
    simp[execOp,qH,hv,convert,aX (hu hk),aX (hu hks),Conv.intToInt]
   ·cases h
 | nilCheck y =>
   rw[qH] at h;simp only[iT] at h;split at h
   ·rename_i s g off hy;simp only[Option.some.injEq] at h;subst h;have hr:=S.ev y
    rw[hy] at hr;obtain⟨b,off',hv⟩:=Y7 hr
    exact⟨a.eval y,by simp[execOp,qH,hv],hr⟩
   ·rename_i cs o hy;simp only[Option.some.injEq] at h;subst h;have hr:=S.ev y
    rw[hy] at hr;obtain⟨b,off',hv⟩:=aCL hr
    exact⟨a.eval y,by simp[execOp,qH,hv],hr⟩
   ·cases h
 | fieldAddr T y f =>
   rw[qH] at h;simp only[iT] at h;split at h
   ·rename_i k hf;obtain⟨r,hr,eY⟩:=Vw (w:=w) hf h (S.ev y)
    exact⟨r,by simp only[execOp,qH];rw[dH hr];rfl,eY⟩
   ·cases h
 | field T y f =>
   rw[qH] at h;simp only[iT] at h;unfold Mx at h;split at h
   ·rename_i cs hy;have hr:=S.ev y
    rw[hy] at hr;obtain⟨u,hu⟩:∃u,a.eval y=u:=⟨_,rfl⟩
    rw[hu] at hr;cases hr with
    | agg _ ar hl eY h1 =>
      have key:∀off b k,fieldInfo P T f=some (off,b,k)→∃fs fd i d,P.underlying T=some (.struct fs)∧fs[f]? = some fd∧fd.offset=off∧P.info? fd.type=some i∧P.underlying fd.type=some d∧dA P fd.type=b∧i.size=k∧(b=true∨k=1):=fun off b k hf=>by
       unfold fieldInfo at hf;split at hf
       ·rename_i fs hT;split at hf
        ·rename_i fd hfd;split at hf
         ·rename_i b' k' hld
          split at hf
          ·rename_i hc;simp only[Option.some.injEq,Prod.mk.injEq] at hf;obtain⟨rfl,rfl,rfl⟩:=hf
           obtain⟨i,d,hi,hd,kU,hk⟩:=Bh hld
           exact⟨fs,fd,i,d,hT,hfd,rfl,hi,hd,kU,hk,hc⟩
          ·cases hf
         ·cases hf
        ·cases hf
       ·cases hf
      split at h
      ·rename_i off k hf;obtain⟨fs,fd,i,d,hT,hfd,rfl,hi,hd,kU,rfl,_⟩:=key _ _ _ hf
       split at h
       ·rename_i hle;simp only[Option.some.injEq] at h;subst h;have hp:=Hy w hd hi ar.toList fd.offset (by rw[kU];simp) (by simp;omega)
        rw[kU] at hp;simp only[mk,if_true,Array.toArray_toList] at hp;refine⟨_,by
         simp only[execOp,qH,hu];rw[dH (show (Instr.field T (Value.agg ar) f).run P w=.ok _ w by
          simp only[Instr.field,Sem.run_bind,aX hT,Result.andThen_ok,hfd,asAgg,Sem.run_pure];exact hp)]
         rfl,.agg _ _ (by simp[hl]) (fun j x z hx hz=>?_) fun j z hz=>?_⟩
        ·rw[List.getElem?_take] at hx;split at hx
         ·rename_i hj;rw[List.getElem?_drop] at hx;refine eY _ x z hx ?_
          simpa [hj,List.getElem?_take,List.getElem?_drop] using hz
         ·cases hx
        ·have hz':ar[fd.offset+j]? = some z:=by
          simp only[List.getElem?_toArray,List.getElem?_take,List.getElem?_drop] at hz;split at hz
          ·simpa using hz
          ·cases hz
         exact h1 _ z hz'
       ·cases h
      ·rename_i off k hf;obtain⟨fs,fd,i,d,hT,hfd,rfl,hi,hd,kU,rfl,hk⟩:=key _ _ _ hf
       have hk1:i.size=1:=by simpa using hk
       have aY:fd.offset<cs.length:=(List.getElem?_eq_some_iff.1 h).1
       have hp:=Hy w hd hi ar.toList fd.offset (fun _=>hk1) (by simp;omega)
       rw[kU] at hp;simp only[mk,Bool.false_eq_true,if_false,Array.toArray_toList] at hp;refine⟨_,by
        simp only[execOp,qH,hu];rw[dH (show (Instr.field T (Value.agg ar) f).run P w=.ok _ w by
         simp only[Instr.field,Sem.run_bind,aX hT,Result.andThen_ok,hfd,asAgg,Sem.run_pure];exact hp)]
        rfl, ?_⟩
       refine eY fd.offset x _ h ?_
       have:fd.offset<ar.size:=by omega
       rw[hk1,List.take_one];simp[List.head?_drop,this]
      ·cases h
   ·cases h
 | indexAddr T y i =>
   rw[qH] at h;simp only[iT] at h;obtain⟨r,hr,eY⟩:=Vx S h (S.ev y) (S.ev i)
   exact⟨r,by simp only[execOp,qH];rw[dH hr];rfl,eY⟩
 | load T y =>
   rw[qH] at h;simp only[iT] at h;cases hra:qN st (st.ev y) with
   | none=>simp[hra,cH] at h
   | some cs =>
     simp only[hra,cH] at h;obtain⟨r,hr,eY⟩:=Ya S hra h (S.ev y)
     exact⟨r,by simp only[execOp,qH];rw[dH hr];rfl,eY⟩
 | extract t i =>
   rw[qH] at h;simp only[iT] at h;split at h
   ·rename_i vs ht;have hr:=S.ev t
    rw[ht] at hr;obtain⟨ar,hv,hl,eY⟩:=Y8 hr
    have hi:i<vs.length:=(List.getElem?_eq_some_iff.1 h).1
    have Dg:i<ar.size:=by omega
    refine⟨ar[i], ?_,eY i x ar[i] h (by simp[Dg])⟩
    simp[execOp,qH,hv,Instr.extract,Dg]
   ·cases h
 | build T parts =>
   rw[qH] at h;simp only[iT] at h;obtain⟨r,hr,eY⟩:=PT S h
   exact⟨r,by simp only[execOp,qH];rw[dH hr];rfl,eY⟩
 | slice T y lo hi mx =>
   rw[qH] at h;cases mx with
   | some m =>
     cases hi with
     | none=>simp[iT] at h
     | some hh =>
       simp only[iT] at h;obtain⟨r,hr,eY⟩:=JT S h (S.ev y)
       exact⟨r,by simp only[execOp,qH,Option.map_some];rw[dH hr];rfl,eY⟩
   | none =>
     simp only[iT] at h;obtain⟨r,hr,eY⟩:=PW S h (S.ev y)
     exact⟨r,by simp only[execOp,qH,Option.map_none];rw[dH hr];rfl,eY⟩
 | lookup T y i ok =>
   rw[qH] at h;simp only[iT] at h;obtain⟨r,hr,eY⟩:=WU S h (S.ev y) (S.ev i)
   exact⟨r,by simp only[execOp,qH];rw[dH hr];rfl,eY⟩
 | makeFunc fn first captured =>
   rw[qH] at h;cases fn with
   | func f =>
     simp only[iT] at h;split at h
     ·rename_i hf;subst hf;simp only[Option.some.injEq] at h;subst h;have eY:lE (ctx h0 w0 ρ st w) (captured.toList.map st.ev) (captured.toList.map a.eval):=lE.map _ _ _ fun p _=>S.ev p
      refine⟨.func (.func f) #[] (captured.map a.eval), ?_,.Da f _ _ (by simp) fun i x y hx hy=>eY.rel i x y hx (by simpa using hy)⟩
      simp[execOp,qH,Instr.makeFunc]
     ·cases h
   | _=>simp[iT] at h
 | _=>rw[qH] at h;simp[iT] at h
end
end Go.Ab
end
section
namespace Go.Ab
open Classical
theorem cS.flat {C D:Ctx} {x:AV} {v:Value} (hf:Flat x) (hr:cS C x v) (hh:∀b o,C.h b o→D.h b o):cS D x v:=by
 induction hr with
 | v x=>exact .v x
 | agg cs a hl _ h1 ih=>cases hf with|agg _ h=>exact .agg cs a hl (fun i x y hx hy=>ih i x y hx hy (h x (List.mem_of_getElem? hx))) h1
 | IB n cap p mY=>exact .IB n cap p mY
 | sl n cs b off cap arr T fr mY hb hle _ h1 ih=>cases hf with|sl _ _ h=>exact .sl n cs b off cap arr T fr mY (hh _ _ hb) hle (fun i x y hx hy=>ih i x y hx hy (h x (List.mem_of_getElem? hx))) h1
 | cl0 n p=>exact .cl0 n p
 | cl n cs b off arr T fr hb hle _ h1 ih=>cases hf with|cl _ _ h=>exact .cl n cs b off arr T fr (hh _ _ hb) hle (fun i x y hx hy=>ih i x y hx hy (h x (List.mem_of_getElem? hx))) h1
 | ip cs o b off arr T fr hb hle _ h1 ih=>cases hf with|ip _ _ h=>exact .ip cs o b off arr T fr (hh _ _ hb) hle (fun i x y hx hy=>ih i x y hx hy (h x (List.mem_of_getElem? hx))) h1
 | ptr=>cases hf
 | own=>cases hf
 | vw=>cases hf
 | mp=>cases hf
 | Da f cs a hl _ ih=>cases hf with|Da _ _ h=>exact .Da f cs a hl (fun i x y hx hy=>ih i x y hx hy (h x (List.mem_of_getElem? hx)))
 | eG cs a hl _ ih=>cases hf with|eG _ h=>exact .eG cs a hl (fun i x y hx hy=>ih i x y hx hy (h x (List.mem_of_getElem? hx)))
theorem cS.Qr {C D:Ctx} {x:AV} {v:Value} (hf:fR x) (hr:cS C x v):cS D x v:=by
 induction hr with
 | v x=>exact .v x
 | agg cs a hl _ h1 ih=>cases hf with|agg _ h=>exact .agg cs a hl (fun i x y hx hy=>ih i x y hx hy (h x (List.mem_of_getElem? hx))) h1
 | eG cs a hl _ ih=>cases hf with|eG _ h=>exact .eG cs a hl (fun i x y hx hy=>ih i x y hx hy (h x (List.mem_of_getElem? hx)))
 | _=>cases hf
def bare (h:Nat→Obj→Prop):Ctx:=⟨h,fun _ _=>undef,fun _=>0⟩
inductive Ti:AV→Prop
 | v (x:Value):Ti (.v x)
 | agg (cs:List AV) (h:∀x∈cs,Ti x):Ti (.agg cs)
 | eG (cs:List AV) (h:∀x∈cs,Ti x):Ti (.eG cs)
 | own (s g:Nat):Ti (.own s g)
theorem fR.aCM {x:AV} (h:fR x):Ti x:=by
 induction h with
 | v x=>exact .v x
 | agg cs _ ih=>exact .agg cs ih
 | eG cs _ ih=>exact .eG cs ih
theorem cS.aCM {C D:Ctx} {x:AV} {v:Value} (hf:Ti x) (hr:cS C x v) (hc:∀s,C.aP s≤D.aP s) (jR:∀s g,g<C.aP s→D.ρ s g=C.ρ s g):cS D x v:=by
 induction hr with
 | v x=>exact .v x
 | agg cs a hl _ h1 ih=>cases hf with|agg _ h=>exact .agg cs a hl (fun i x y hx hy=>ih i x y hx hy (h x (List.mem_of_getElem? hx))) h1
 | eG cs a hl _ ih=>cases hf with|eG _ h=>exact .eG cs a hl (fun i x y hx hy=>ih i x y hx hy (h x (List.mem_of_getElem? hx)))
 | own s g hg ho=>rw[← jR s g hg];exact .own s g (Nat.lt_of_lt_of_le hg (hc s)) (by rw[jR s g hg];exact ho)
 | _=>cases hf
def newHs (h0:Nat→Obj→Prop) (w w':World) (vs:List Value):Nat→Obj→Prop :=
 fun b o=>w'.heap[b]? = some o∧(b<w.heap.size→h0 b o)∧∀x∈vs,cW x≠some b
def AH (h0:Nat→Obj→Prop) (w w':World) (r:AV) (v:Value):Prop :=
 ∃vs:List Value,(∀x∈vs,x.oneCell'=true)∧(∀(i j:Nat) (x y:Value) (b:Nat),vs[i]? = some x→vs[j]? = some y→cW x=some b→cW y=some b→i=j) ∧
  (∀x∈vs,∀b,cW x=some b→w.heap.size≤b)∧(∀d c,(ZK d c r).2.length=vs.length) ∧
  ∀(D:Ctx) (d c:Nat),(∀b o,newHs h0 w w' vs b o→D.h b o)→(∀(i:Nat) (x:Value),vs[i]? = some x→c+i<D.aP d∧D.ρ d (c+i)=x) →
   cS D (ZK d c r).1 v∧∀(i:Nat) (e:mV) (x:Value),(ZK d c r).2[i]? = some e→vs[i]? = some x→nN D w' w.heap.size x e
def Tg (P:Program) (g:Nat) (xs:List AV) (r:AV):Prop :=
 ∀(w:World) (h0:Nat→Obj→Prop) (vs:Array Value),(∀b o,h0 b o→w.heap[b]? = some o)→lE (bare h0) xs vs.toList →
  Calls P g vs w fun e w'=>∃v,e=.returned v∧AH h0 w w' r v∧w.grownBy w' none
def WV (P:Program) (g e sz n:Nat) (cs xs:List AV) (r:AV):Prop :=
 ∀(w:World) (h0:Nat→Obj→Prop) (v0:Value) (ys:List Value) (vs:Array Value),(∀b o,h0 b o→w.heap[b]? = some o)→(∀b o,h0 b o→cW v0≠some b)→mP w 0 e sz v0 n ys→fQ (bare h0) cs ys →
  lE (bare h0) xs vs.toList→Calls P g (#[v0]++vs) w fun en w'=>∃v,en=.returned v∧w.grownBy w' (cW v0) ∧
   match r with
   | .uniq e' sJ n' Ff=>∃zs,mP w' 0 e' sJ v n' zs∧fQ (bare h0) Ff zs∧∀b,cW v=some b→cW v0=some b∨w.heap.size≤b
   | .eG [.uniq e' sJ n' Ff]=>v=.tuple #[]∧∃zs,mP w' 0 e' sJ v0 n' zs∧fQ (bare h0) Ff zs
   | _=>False
def WW (P:Program) (g:Nat) (x:AV) (e sz n:Nat) (cs:List AV) (r:AV):Prop :=
 ∀(w:World) (h0:Nat→Obj→Prop) (v0 v1:Value) (ys:List Value),(∀b o,h0 b o→w.heap[b]? = some o)→(∀b o,h0 b o→cW v1≠some b)→mP w 0 e sz v1 n ys→fQ (bare h0) cs ys →
  cS (bare h0) x v0→Calls P g #[v0,v1] w fun en w'=>∃v,en=.returned v∧AH h0 w w' r v∧w.grownBy w' none
def Ah (P:Program) (g:Nat) (xs:List AV) (r:AV):Prop :=
 match xs with
 | .uniq e sz n cs :: rest=>WV P g e sz n cs rest r
 | [x,.uniq e sz n cs]=>WW P g x e sz n cs r
 | xs=>Tg P g xs r
def xU (P : Program) (g : Nat) : Prop := ∃ fn, P.funcs[g]? = some fn ∧ (fn.name == "runtime.NumGoroutine") = false ∧ fn.body.isSome = true
def pJ (P:Program) (call:Nat→List AV→Option AV):Prop:=∀g xs r,call g xs=some r→xU P g∧Ah P g xs r
theorem JU {f:Nat→AV→AV × List mV}:∀(xs:List AV) (c:Nat),(∀x∈xs,∀c,f c x=(x,[]))→pW f c xs=(xs,[])
 | [],c,_=>rfl
 | x :: xs,c,h=>by
   simp only[pW,h x (by simp),List.length_nil,Nat.add_zero,JU xs c fun y hy=>h y (by simp[hy]),List.nil_append]
theorem Kj {x:AV} (h:Flat x) (d c:Nat):yF d c x=(x,[]):=by cases h<;>rfl
theorem HL {x:AV} (h:Flat x) (d c:Nat):Vu d c x=(x,[]):=by
 cases h with
 | agg cs h=>simp only[Vu,JU (f:=yF d) cs c fun x hx c=>Kj (h x hx) d c]
 | _=>rfl
theorem Iw {x:AV} (h:Flat x) (d c:Nat):ZK d c x=(x,[]):=by
 cases h with
 | eG cs h=>simp only[ZK,JU (f:=Vu d) cs c fun x hx c=>HL (h x hx) d c]
 | agg cs h=>exact HL (.agg cs h) d c
 | _=>rfl
theorem Tj {h0:Nat→Obj→Prop} {w w':World} {r:AV} {v:Value} (hf:Flat r) (h:cS (bare (newHs h0 w w' [])) r v):AH h0 w w' r v :=
 ⟨[],by simp,by simp,by simp,fun d c=>by rw[Iw hf];rfl,fun D d c hD _=>by
  rw[Iw hf];exact⟨h.flat hf hD,by simp⟩⟩
theorem nN.base {C:Ctx} {w:World} {b b':Nat} {v:Value} {e:mV} (h:nN C w b v e) (hb:b'≤b):nN C w b' v e:=by
 cases e with
 | cells cs=>obtain⟨k,arr,T,h1,h2,h3⟩:=h;exact⟨k,arr,T,h1,Nat.le_trans hb h2,h3⟩
 | row e sz n cs=>obtain⟨xs,ho,hc⟩:=h;exact⟨xs,vM ho hb,hc⟩
 | map es=>obtain⟨k,arr,T,h1,h2,h3⟩:=h;exact⟨k,arr,T,h1,Nat.le_trans hb h2,h3⟩
 | yD e sz n cs=>exact h
theorem Qs {w:World} {b b' e sz n:Nat} {v:Value} {xs:List Value} (h:mP w b e sz v n xs) (hb:∀k,cW v=some k→b'≤k):mP w b' e sz v n xs:=by
 refine⟨h.1, ?_⟩
 rcases h.2 with h|⟨g,cap,cur,rfl,h1,h2,h3,h4,h5,h6,hc⟩
 ·exact .inl h
 ·exact .inr ⟨g,cap,cur,rfl,hb g (jE hc),h2,h3,h4,h5,h6,hc⟩
theorem jK {α:Type}:∀(l:List (Option α)) (r:List α),cM l=some r→l=r.map some
 | [],r,h=>by simp[cM] at h;subst h;rfl
 | none :: l,r,h=>by simp[cM] at h
 | some x :: l,r,h=>by
   simp only[cM,Option.map_eq_some_iff] at h;obtain⟨r',h',rfl⟩:=h
   rw[jK l r' h'];rfl
section
variable {P:Program} {h0:Nat→Obj→Prop} {w0:World} {F:Hs} {nt:Nat} {ρ:Nat→Nat→Value} {st:St} {a:Act} {w:World}
def Dx (h0:Nat→Obj→Prop) (w0 w:World):Nat→Obj→Prop:=fun b o=>w.heap[b]? = some o∧(b<w0.heap.size→h0 b o)
theorem Gi {D:Ctx} {base e sz n:Nat} {v:Value} {xs:List Value} {cs:List AV} (hD:∀b o,cW v=some b→base≤b→w.heap[b]? = some o→D.h b o) (h:mP w base e sz v n xs) (hc:fQ D cs xs):cS D (.sl n cs) v:=by
 rcases h.2 with ⟨p,rfl,hn⟩|⟨g,cap,cur,rfl,hb,hg,Wd,_,AI,ht,pT⟩
 ·subst hn;have:xs.length=0:=by rw[h.1];simp
  have:=hc.len
  have hnil:=List.length_eq_zero_iff.1 (show cs.length=0 by omega)
  subst hnil;exact .IB 0 0 p (by omega)
 ·have hl:=hc.len
  have hx:=h.1
  have hle:n * sz≤cap * sz:=Nat.mul_le_mul_right _ Wd
  refine .sl n cs g 0 cap cur e (0,0) Wd (hD g _ (jE pT) hb hg) (by omega) (fun i x y Ke hy=>?_) (fun i y hi hy=>?_)
  ·have hi:i<cs.length:=(List.getElem?_eq_some_iff.1 Ke).1
   refine hc.rel i x y Ke ?_
   rw[← ht,List.getElem?_take,if_pos (by omega)]
   simpa using hy
  ·refine hc.one i y ?_
   rw[← ht,List.getElem?_take,if_pos (by omega)]
   simpa using hy
theorem fQ.flat {C D:Ctx} {cs:List AV} {ys:List Value} (h:fQ C cs ys) (hf:∀c∈cs,Flat c) (hh:∀b o,C.h b o→D.h b o):fQ D cs ys :=
 ⟨h.len,fun i x y hx hy=>(h.rel i x y hx hy).flat (hf x (List.mem_of_getElem? hx)) hh,h.one⟩
theorem Dy (b:Nat) (o:Obj) (h:(ctx h0 w0 ρ st w).h b o):(bare (Dx h0 w0 w)).h b o:=⟨h.1,h.2.1⟩
theorem aE1 (S:kJ F h0 w0 nt ρ st a w) {s g o n e sz N:Nat} {cs:List AV} {v:Value} (he:st.heap s g=some (.row e sz N cs)) (hf:∀c∈cs,Flat c) (hle:o+n * sz≤cs.length) (hu:cS (ctx h0 w0 ρ st w) (.vw s g o n) v):cS (bare (Dx h0 w0 w)) (.sl n ((cs.drop o).take (n * sz))) v:=by
 obtain⟨_,ho1,xs,ho,hc⟩:=S.sF s g _ he
 cases hu with
 | vw _ _ _ _ b cap hg hb mY _ =>
   change cW (ρ s g)=some b at hb
   rcases ho.2 with ⟨p,jR,hn⟩|⟨b',DF,cur,jR,wO,hh,_,_,_,ht,pT⟩
   ·exfalso
    rw[jR] at hb;cases p<;>cases hb
   ·rw[jR,jE pT] at hb;simp only[Option.some.injEq] at hb;subst hb;have hc':=hc.flat (D:=bare (Dx h0 w0 w)) hf Dy
    have hl:=hc.len
    have hxl:xs.length≤cur.size:=by rw[← ht];simp;omega
    have H0:∀i,i<n * sz→cur[o+i]? = xs[o+i]?:=fun i hi=>by
     rw[← ht,List.getElem?_take,if_pos (by rw[← ho.1];omega)]
     simp
    refine .sl _ _ b' o cap cur e (0,0) mY ⟨hh,fun aY=>by omega⟩ (by simp;omega) (fun i x y hx hy=>?_) (fun i y hi hy=>?_)
    ·rw[List.getElem?_take] at hx;split at hx
     ·rename_i hi;rw[List.getElem?_drop] at hx;rw[H0 i hi] at hy;exact hc'.rel _ x y hx hy
     ·cases hx
    ·simp only[List.length_take,List.length_drop] at hi;rw[H0 i (by omega)] at hy
     exact hc.one _ y hy
theorem PY (S:kJ F h0 w0 nt ρ st a w) {x y:AV} {v:Value} (hu:cS (ctx h0 w0 ρ st w) x v) (h:xW st x=some y):cS (bare (Dx h0 w0 w)) y v:=by
 unfold xW at h;split at h
 ·rename_i hf;simp only[Option.some.injEq] at h;subst h;exact hu.flat hf Dy
 ·split at h
  ·split at h
   ·rename_i e sz n cs he;split at h
    ·rename_i hf;simp only[Option.some.injEq] at h;subst h;obtain⟨_,ho1,xs,ho,hc⟩:=S.sF _ _ _ he
     cases hu with
     | own s g hg h1=>exact Gi (fun b o _ hb PZ=>⟨PZ,fun aY=>by omega⟩) ho (hc.flat hf Dy)
    ·cases h
   ·cases h
  ·rename_i s g o n _;split at h
   ·rename_i e sz N cs he;split at h
    ·rename_i hf;obtain⟨hf,hle⟩:=hf
     simp only[Option.some.injEq] at h;subst h;exact aE1 S he hf hle hu
    ·cases h
   ·cases h
  ·cases h
theorem WX {x y:AV} (h:xW st x=some y):Flat y:=by
 unfold xW at h;split at h
 ·rename_i hf;simp only[Option.some.injEq] at h;subst h;exact hf
 ·split at h
  ·split at h
   ·split at h
    ·rename_i hf;simp only[Option.some.injEq] at h;subst h;exact .sl _ _ hf
    ·cases h
   ·cases h
  ·split at h
   ·split at h
    ·rename_i hf;simp only[Option.some.injEq] at h;subst h;exact .sl _ _ fun c hc=>hf.1 c (List.mem_of_mem_drop (List.mem_of_mem_take hc))
    ·cases h
   ·cases h
  ·cases h
theorem xE (S:kJ F h0 w0 nt ρ st a w) {x y:AV} {v:Value} (hu:cS (ctx h0 w0 ρ st w) x v) (h:cF st x=some y):cS (bare (Dx h0 w0 w)) y v∧(v.oneCell'=true∨y=x):=by
 unfold cF at h;split at h
 ·rename_i hf;simp only[Option.some.injEq] at h;subst h;exact⟨hu.flat hf Dy,.inr rfl⟩
 ·split at h
  ·rename_i s g _;split at h
   ·rename_i e sz n cs he;split at h
    ·rename_i hf;simp only[Option.some.injEq] at h;subst h;obtain⟨_,ho1,xs,ho,hc⟩:=S.sF s g _ he
     cases hu with
     | own s g hg h1=>exact⟨Gi (fun b o _ hb PZ=>⟨PZ,fun aY=>by omega⟩) ho (hc.flat hf Dy),.inl h1⟩
    ·cases h
   ·cases h
  ·rename_i s g o n _;split at h
   ·rename_i e sz N cs he;split at h
    ·rename_i hf;obtain⟨hf,hle⟩:=hf
     simp only[Option.some.injEq] at h;subst h;cases hu with
     | vw _ _ _ _ b cap hg hb mY zJ=>exact⟨aE1 S he hf hle (.vw s g o n b cap hg hb mY zJ),.inl rfl⟩
    ·cases h
   ·cases h
  ·rename_i s g off _;split at h
   ·rename_i cs he;simp only[Option.map_eq_some_iff] at h;obtain⟨ds,Tk,rfl⟩:=h
    have hm:=jK _ _ Tk
    have hlen:ds.length=cs.length:=by have:=congrArg List.length hm;simpa using this.symm
    obtain⟨_,_,b',arr,T,jR,oC,hh,hc⟩:=S.sF s g _ he
    cases hu with
    | ptr s g off b hg hb =>
      have wO:b'=b:=by
       have h2:cW (ρ s g)=some b:=hb
       rw[jR] at h2;simpa [cW] using h2
      subst wO;have hl:=hc.len
      simp only[Array.length_toList] at hl;have:=cS.ip (C:=bare (Dx h0 w0 w)) ds off b' 0 arr T (0,0) ⟨hh,fun aY=>by omega⟩ (by omega) (fun i x y hx hy=>by
       have hi:i<cs.length:=by have:=(List.getElem?_eq_some_iff.1 hx).1;omega
       have Ke:xW st cs[i]=some x:=by
        have:=congrArg (·[i]?) hm
        simp only[List.getElem?_map,hx,List.getElem?_eq_getElem hi,Option.map_some,Option.some.injEq] at this;exact this
       exact PY S (hc.rel i cs[i] y (by simp[hi]) (by simpa using hy)) Ke) (fun i y hi hy=>hc.one i y (by simpa using hy))
      rw[Nat.zero_add] at this;exact⟨this,.inl rfl⟩
   ·cases h
  ·cases h
theorem Nw (S:kJ F h0 w0 nt ρ st a w) {x y:AV} {v:Value} (hu:cS (ctx h0 w0 ρ st w) x v) (h:fG st x=some y):cS (bare (Dx h0 w0 w)) y v:=by
 unfold fG at h;split at h
 ·rename_i hf;simp only[Option.some.injEq] at h;subst h;exact hu.flat hf Dy
 ·split at h
  ·rename_i cs _;simp only[Option.map_eq_some_iff] at h;obtain⟨ds,Tk,rfl⟩:=h
   have hm:=jK _ _ Tk
   cases hu with
   | agg cs ar hl hr h1 =>
     have hlen:ds.length=cs.length:=by have:=congrArg List.length hm;simpa using this.symm
     refine .agg ds ar (by omega) (fun i x y hx hy=>?_) h1
     have hi:i<cs.length:=by have:=(List.getElem?_eq_some_iff.1 hx).1;omega
     have Ke:cF st cs[i]=some x:=by
      have:=congrArg (·[i]?) hm
      simp only[List.getElem?_map,hx,List.getElem?_eq_getElem hi,Option.map_some,Option.some.injEq] at this;exact this
     exact (xE S (hr i cs[i] y (by simp[hi]) hy) Ke).1
  ·rename_i f oY _;simp only[Option.map_eq_some_iff] at h;obtain⟨ds,Tk,rfl⟩:=h
   have hm:=jK _ _ Tk
   cases hu with
   | Da f cs ar hl hr =>
     have hlen:ds.length=oY.length:=by have:=congrArg List.length hm;simpa using this.symm
     refine .Da f ds ar (by omega) (fun i x y hx hy=>?_)
     have hi:i<oY.length:=by have:=(List.getElem?_eq_some_iff.1 hx).1;omega
     have Ke:cF st oY[i]=some x:=by
      have:=congrArg (·[i]?) hm
      simp only[List.getElem?_map,hx,List.getElem?_eq_getElem hi,Option.map_some,Option.some.injEq] at this;exact this
     exact (xE S (hr i oY[i] y (by simp[hi]) hy) Ke).1
  ·exact (xE S hu h).1
theorem pK {α β:Type} {p:β→Prop} {f:α→Option β} (hp:∀a b,f a=some b→p b):∀(l:List α) (r:List β),cM (l.map f)=some r→∀b∈r,p b
 | [],r,h=>by simp[cM] at h;subst h;simp
 | a :: l,r,h=>by
   simp only[List.map_cons] at h;cases ha:f a with
   | none=>simp[ha,cM] at h
   | some b =>
     simp only[ha,cM,Option.map_eq_some_iff] at h;obtain⟨r',h',rfl⟩:=h
     intro c hc;rcases List.mem_cons.1 hc with rfl|hc
     ·exact hp _ _ ha
     ·exact pK hp l r' h' c hc
theorem Aj {x y:AV} (h:cF st x=some y):Flat y:=by
 unfold cF at h;split at h
 ·rename_i hf;simp only[Option.some.injEq] at h;subst h;exact hf
 ·split at h
  ·split at h
   ·split at h
    ·rename_i hf;simp only[Option.some.injEq] at h;subst h;exact .sl _ _ hf
    ·cases h
   ·cases h
  ·split at h
   ·split at h
    ·rename_i hf;simp only[Option.some.injEq] at h;subst h;exact .sl _ _ fun c hc=>hf.1 c (List.mem_of_mem_drop (List.mem_of_mem_take hc))
    ·cases h
   ·cases h
  ·split at h
   ·simp only[Option.map_eq_some_iff] at h;obtain⟨ds,Tk,rfl⟩:=h
    exact .ip _ _ (pK (fun a b h=>WX h) _ _ Tk)
   ·cases h
  ·cases h
theorem Kk {x y:AV} (h:fG st x=some y):Flat y:=by
 unfold fG at h;split at h
 ·rename_i hf;simp only[Option.some.injEq] at h;subst h;exact hf
 ·split at h
  ·simp only[Option.map_eq_some_iff] at h;obtain⟨ds,Tk,rfl⟩:=h
   exact .agg _ (pK (fun a b h=>Aj h) _ _ Tk)
  ·simp only[Option.map_eq_some_iff] at h;obtain⟨ds,Tk,rfl⟩:=h
   exact .Da _ _ (pK (fun a b h=>Aj h) _ _ Tk)
  ·exact Aj h
theorem Vg (S:kJ F h0 w0 nt ρ st a w) {x y:AV} {v:Value} (hu:cS (ctx h0 w0 ρ st w) x v) (h:Dc st x=some y):cS (bare (Dx h0 w0 w)) y v:=by
 unfold Dc at h;split at h
 ·rename_i s g;split at h
  ·rename_i e sz n cs he;simp only[Option.map_eq_some_iff] at h;obtain⟨ds,Tk,rfl⟩:=h
   have hm:=jK _ _ Tk
   obtain⟨_,ho1,xs,ho,hc⟩:=S.sF s g _ he
   cases hu with
   | own s g hg h1 =>
     have hlen:ds.length=cs.length:=by have:=congrArg List.length hm;simpa using this.symm
     refine Gi (fun b o _ hb PZ=>⟨PZ,fun aY=>by omega⟩) ho ⟨by rw[hlen];exact hc.len,fun i x y hx hy=>?_,hc.one⟩
     have hi:i<cs.length:=by have:=(List.getElem?_eq_some_iff.1 hx).1;omega
     have Ke:cF st cs[i]=some x:=by
      have:=congrArg (·[i]?) hm
      simp only[List.getElem?_map,hx,List.getElem?_eq_getElem hi,Option.map_some,Option.some.injEq] at this;exact this
     exact (xE S (hc.rel i cs[i] y (by simp[hi]) hy) Ke).1
  ·cases h
 ·exact (xE S hu h).1
theorem QA (S:kJ F h0 w0 nt ρ st a w) {x y:AV} {v:Value} (hu:cS (ctx h0 w0 ρ st w) x v) (h:Oz st x=some y):cS (bare (Dx h0 w0 w)) y v:=by
 unfold Oz at h;split at h
 ·rename_i cs;simp only[Option.map_eq_some_iff] at h;obtain⟨ds,Tk,rfl⟩:=h
  have hm:=jK _ _ Tk
  cases hu with
  | agg cs ar hl hr h1 =>
    have hlen:ds.length=cs.length:=by have:=congrArg List.length hm;simpa using this.symm
    refine .agg ds ar (by omega) (fun i x y hx hy=>?_) h1
    have hi:i<cs.length:=by have:=(List.getElem?_eq_some_iff.1 hx).1;omega
    have Ke:Dc st cs[i]=some x:=by
     have:=congrArg (·[i]?) hm
     simp only[List.getElem?_map,hx,List.getElem?_eq_getElem hi,Option.map_some,Option.some.injEq] at this;exact this
    exact Vg S (hr i cs[i] y (by simp[hi]) hy) Ke
 ·exact Vg S hu h
theorem QB (S:kJ F h0 w0 nt ρ st a w) {x y:AV} {v:Value} (hu:cS (ctx h0 w0 ρ st w) x v) (h:Dd st x=some y):cS (bare (Dx h0 w0 w)) y v:=by
 unfold Dd at h;split at h
 ·rename_i z hz;simp only[Option.some.injEq] at h;subst h;exact Nw S hu hz
 ·exact QA S hu h
theorem AJ {x y:AV} (h:Dc st x=some y):Flat y:=by
 unfold Dc at h;split at h
 ·split at h
  ·simp only[Option.map_eq_some_iff] at h;obtain⟨ds,Tk,rfl⟩:=h
   exact .sl _ _ (pK (fun a b h=>Aj h) _ _ Tk)
  ·cases h
 ·exact Aj h
theorem WY {x y:AV} (h:Dd st x=some y):Flat y:=by
 unfold Dd at h;split at h
 ·rename_i z hz;simp only[Option.some.injEq] at h;subst h;exact Kk hz
 ·unfold Oz at h;split at h
  ·simp only[Option.map_eq_some_iff] at h;obtain⟨ds,Tk,rfl⟩:=h
   exact .agg _ (pK (fun a b h=>AJ h) _ _ Tk)
  ·exact AJ h
theorem Dz {x y:AV} (h:fG st x=some y):Dd st x=some y:=by unfold Dd;rw[h]
theorem WZ {x:AV} (h:fG st x=none):Dd st x=Oz st x:=by unfold Dd;rw[h]
end
end Go.Ab
end
section
namespace Go.Ab
open Classical
def Ix (es:List mV):Prop:=∀e∈es,∃a b n cs,e=.row a b n cs∧∀c∈cs,fR c
theorem AK {x:AV} (h:UL x) (d c:Nat):Ti (yF d c x).1∧Ix (yF d c x).2:=by
 cases x
 case uniq e sz n cs=>exact⟨.own _ _,fun e he=>by simp[yF] at he;exact⟨_,_,_,_,he,h⟩⟩
 all_goals exact⟨fR.aCM h,fun e he=>by simp[yF] at he⟩
theorem Nx {f:Nat→AV→AV × List mV}:∀(xs:List AV) (c:Nat),(∀x∈xs,∀c,Ti (f c x).1∧Ix (f c x).2)→(∀y∈(pW f c xs).1,Ti y)∧Ix (pW f c xs).2
 | [],c,_=>⟨by simp[pW],fun e he=>by simp[pW] at he⟩
 | x :: xs,c,h=>by
   obtain⟨h1,h2⟩:=h x (by simp) c
   obtain⟨h3,h4⟩:=Nx xs (c+(f c x).2.length) fun y hy=>h y (by simp[hy])
   simp only[pW];refine⟨fun y hy=>?_,fun e he=>?_⟩
   ·rcases List.mem_cons.1 hy with rfl|hy
    ·exact h1
    ·exact h3 y hy
   ·rcases List.mem_append.1 he with he|he
    ·exact h2 e he
    ·exact h4 e he
theorem AL {x:AV} (h:UM x) (d c:Nat):Ti (Vu d c x).1∧Ix (Vu d c x).2:=by
 cases x
 case agg cs =>
  obtain⟨h1,h2⟩:=Nx (f:=yF d) cs c fun x hx c=>AK (h x hx) d c
  exact⟨.agg _ h1,h2⟩
 all_goals
  refine @AK _ ?_ d c
  exact h
theorem Tl {x:AV} (h:Xr x) (d c:Nat):Ti (ZK d c x).1∧Ix (ZK d c x).2:=by
 cases x
 case eG cs =>
  obtain⟨h1,h2⟩:=Nx (f:=Vu d) cs c fun x hx c=>AL (h x hx) d c
  exact⟨.eG _ h1,h2⟩
 all_goals
  refine @AL _ ?_ d c
  exact h
theorem fQ.Qr {C D:Ctx} {cs:List AV} {ys:List Value} (h:fQ C cs ys) (hm:∀c∈cs,fR c):fQ D cs ys :=
 ⟨h.len,fun i x y hx hy=>(h.rel i x y hx hy).Qr (hm x (List.mem_of_getElem? hx)),h.one⟩
theorem nN.free {C D:Ctx} {w:World} {b:Nat} {v:Value} {e:mV} (h:nN C w b v e) (hf:∃a s n cs,e=.row a s n cs∧∀c∈cs,fR c):nN D w b v e:=by
 obtain⟨a,s,n,cs,rfl,hm⟩:=hf
 obtain⟨xs,ho,hc⟩:=h
 exact⟨xs,ho,hc.Qr hm⟩
section
variable {P:Program} {h0:Nat→Obj→Prop} {w0:World} {F:Hs} {nt:Nat} {ρ:Nat→Nat→Value} {st:St} {a:Act} {w:World} {K:Act→World→Prop} {Q:Exit→Act→World→Prop}
theorem HM {C D:Ctx} {xs:List AV} {vs:List Value} (h:lE C xs vs) (hf:∀x∈xs,Flat x) (hh:∀b o,C.h b o→D.h b o):lE D xs vs :=
 ⟨h.len,fun i x y hx hy=>(h.rel i x y hx hy).flat (hf x (List.mem_of_getElem? hx)) hh⟩
theorem uM (S:kJ F h0 w0 nt ρ st a w) {H:Nat→Obj→Prop} {w':World} {r:AV} {v:Value} {dst:Option Nat} {e:qE} (hr:AH H w w' r v) (hg:w.grownBy w' none)
 (hH:(∀b o,H b o→(ctx h0 w0 ρ st w).h b o)∨Xr r) (h:iU r st dst=some e) (hd:∀d,dst=some d→d<nt)
 (hK:∀nY a' w',kJ F h0 w0 nt nY (e.apply st) a' w'→K a' w'):K (a.put dst v) w':=by
 obtain⟨vs,v1,v2,v3,v4,v5⟩:=hr
 unfold iU at h;split at h
 ·rename_i hf;simp only[Option.some.injEq] at h;subst h;have hl:=v4 0 0
  rw[Iw hf] at hl;have Y5:vs=[]:=List.length_eq_zero_iff.1 hl.symm
  subst Y5;obtain⟨S',k⟩:=S.grow hg
  refine hK ρ _ _ (S'.put dst hd ?_)
  rcases hH with hH|hH
  ·have:=(v5 (ctx h0 w0 ρ st w') 0 0 (fun b o hb=>by
    by_cases aY:b<w.heap.size
    ·exact k.h _ _ (hH _ _ (hb.2.1 aY))
    ·exact⟨hb.1,fun h=>by have:=S.ext.size;omega,fun s g e he=>jS S he (by omega)⟩) (by simp)).1
   rw[Iw hf] at this;exact this
  ·have:=(v5 ⟨newHs H w w' [],ρ,st.aP⟩ 0 0 (fun b o hb=>hb) (by simp)).1
   have hn:=(Tl hH 0 0).1
   rw[Iw hf] at this hn;exact this.aCM hn (fun _=>Nat.le_refl _) (fun _ _ _=>rfl)
 ·cases dst with
  | none=>cases h
  | some d =>
    simp only[Option.some.injEq] at h;subst h;obtain⟨S',k,hh,oZ⟩:=S.news hg d (ZK d (st.aP d) r).2 vs (v4 _ _) v1 v3 v2 (fun C kC hC jR i e x hi hx=>by
     rcases hH with hH|hH
     ·exact ((v5 C d (st.aP d) (fun b o hb=>by
       by_cases aY:b<w.heap.size
       ·exact kC.h _ _ (hH _ _ (hb.2.1 aY))
       ·exact hC b o (by omega) hb.1 hb.2.2) jR).2 i e x hi hx).base S.ext.size
     ·have:=((v5 ⟨newHs H w w' vs,C.ρ,C.aP⟩ d (st.aP d) (fun b o hb=>hb) jR).2 i e x hi hx).base S.ext.size
      exact this.free ((Tl hH d (st.aP d)).2 e (List.mem_of_getElem? hi)))
    refine hK _ _ _ (S'.put (some d) hd ?_)
    rcases hH with hH|hH
    ·exact (v5 (ctx h0 w0 (Gu ρ d (st.aP d) vs) (st.news d (ZK d (st.aP d) r).2) w') d (st.aP d) (fun b o hb=>by
      by_cases aY:b<w.heap.size
      ·exact k.h _ _ (hH _ _ (hb.2.1 aY))
      ·exact hh b o (by omega) hb.1 hb.2.2) oZ).1
    ·have:=(v5 ⟨newHs H w w' vs,Gu ρ d (st.aP d) vs,(st.news d (ZK d (st.aP d) r).2).aP⟩ d (st.aP d) (fun b o hb=>hb) oZ).1
     exact this.aCM (Tl hH d (st.aP d)).1 (fun _=>Nat.le_refl _) (fun _ _ _=>rfl)
theorem AM {P:Program} {g:Nat} {args:List AV} {r:AV} (h:Ah P g args r) (hn:∀x∈args,Flat x):Tg P g args r:=by
 unfold Ah at h;split at h
 ·rename_i e sz n cs rest;have:=hn _ (List.mem_cons_self ..)
  cases this
 ·rename_i x e sz n cs _;have:=hn (.uniq e sz n cs) (by simp)
  cases this
 ·exact h
theorem yL (S:kJ F h0 w0 nt ρ st a w) {call:Nat→List AV→Option AV} (iX:pJ P call) {g:Nat} {args:List AV} {vs:Array Value} {dst:Option Nat} {e:qE}
 (h:aM call g args st dst=some e) (eY:lE (ctx h0 w0 ρ st w) args vs.toList) (hd:∀d,dst=some d→d<nt)
 (hK:∀nY a' w',kJ F h0 w0 nt nY (e.apply st) a' w'→K a' w') :
 xU P g∧Calls P g vs w fun en w'=>∃v,en=.returned v∧K (a.put dst v) w':=by
 unfold aM at h;split at h
 ·rename_i hf;cases hc:call g args with
  | none=>simp[hc,cH] at h
  | some r =>
    obtain⟨XA,hs⟩:=iX g args r hc
    refine⟨XA, ?_⟩
    simp only[hc,cH] at h;refine ((AM hs hf) w (ctx h0 w0 ρ st w).h vs (fun b o hb=>hb.1) (HM eY hf fun b o hb=>hb)).mono ?_
    rintro en w' ⟨v,rfl,hr,hg⟩
    exact⟨v,rfl,uM S hr hg (.inl fun b o hb=>hb) h hd hK⟩
 ·split at h
  ·rename_i xs DS;cases hc:call g xs with
   | none=>simp[hc,cH] at h
   | some r =>
     obtain⟨XA,hs⟩:=iX g xs r hc
     refine⟨XA, ?_⟩
     simp only[hc,cH] at h;split at h
     ·rename_i hm;have hmm:=jK _ _ DS
      have IQ:∀x∈xs,Flat x:=pK (fun a b h=>Kk h) _ _ DS
      have hlen:xs.length=args.length:=by have:=congrArg List.length hmm;simpa using this.symm
      have Qt:lE (bare (Dx h0 w0 w)) xs vs.toList:=⟨by rw[hlen];exact eY.len,fun i x y hx hy=>by
       have hi:i<args.length:=by have:=(List.getElem?_eq_some_iff.1 hx).1;omega
       have Ke:fG st args[i]=some x:=by
        have:=congrArg (·[i]?) hmm
        simp only[List.getElem?_map,hx,List.getElem?_eq_getElem hi,Option.map_some,Option.some.injEq] at this;exact this
       exact Nw S (eY.rel i args[i] y (by simp[hi]) hy) Ke⟩
      refine ((AM hs IQ) w (Dx h0 w0 w) vs (fun b o hb=>hb.1) Qt).mono ?_
      rintro en w' ⟨v,rfl,hr,hg⟩
      exact⟨v,rfl,uM S hr hg (.inr hm) h hd hK⟩
     ·cases h
  ·cases h
theorem kJ.drop (S:kJ F h0 w0 nt ρ st a w) (s k:Nat):kJ F h0 w0 nt ρ (st.jA s k none) a w∧(ctx h0 w0 ρ st w).Le (ctx h0 w0 ρ (st.jA s k none) w):=by
 have hs:∀s' g' e,(st.jA s k none).heap s' g'=some e→st.heap s' g'=some e:=fun s' g' e h=>by
  simp only[St.jA] at h;split at h
  ·cases h
  ·exact h
 have kk:(ctx h0 w0 ρ st w).Le (ctx h0 w0 ρ (st.jA s k none) w):=⟨fun b o hb=>⟨hb.1,hb.2.1,fun s' g' e he=>hb.2.2 s' g' e (hs s' g' e he)⟩,fun _=>Nat.le_refl _,fun _ _ _=>rfl⟩
 exact⟨⟨fun t=>(S.env t).le kk,fun s' g' e he=>⟨(S.sF s' g' e (hs s' g' e he)).1,(S.sF s' g' e (hs s' g' e he)).2.1,nN.world (r:=none) (S.sF s' g' e (hs s' g' e he)).2.2 kk ⟨rfl,rfl,rfl,Nat.le_refl _,fun _ _ _=>rfl⟩ (by cases cW (ρ s' g')<;>simp)⟩,
  fun s1 g1 s2 g2 e1 e2 b h1 h2=>S.inj s1 g1 s2 g2 e1 e2 b (hs _ _ _ h1) (hs _ _ _ h2),S.ext,S.size,S.defers,⟨fun x v h=>(S.Ov.1 x v h).le kk,fun b o h=>kk.h b o (S.Ov.2.1 b o h),S.Ov.2.2⟩⟩,kk⟩
theorem aMr (S:kJ F h0 w0 nt ρ st a w) {s k:Nat} {c y:AV} {v:Value} (hc:Flat c∨c=.own s k) (hu:cS (ctx h0 w0 ρ st w) c v) (h:cF st c=some y):cS (bare (ctx h0 w0 ρ (st.jA s k none) w).h) y v∧(v.oneCell'=true∨y=c):=by
 have kk:=(S.drop s k).2
 rcases hc with hf|rfl
 ·unfold cF at h;rw[if_pos hf] at h;simp only[Option.some.injEq] at h;subst h;exact⟨hu.flat hf kk.h,.inr rfl⟩
 ·unfold cF at h;rw[if_neg (by intro h;cases h)] at h
  simp only at h
  split at h
  ·rename_i e sz n cs he;split at h
   ·rename_i hf;simp only[Option.some.injEq] at h;subst h;obtain⟨_,ho1,xs,ho,hc⟩:=S.sF s k _ he
    cases hu with
    | own s g hg h1 =>
      refine⟨Gi (fun b o hv hb PZ=>⟨PZ,fun aY=>by omega,fun s' g' e' yP wO=>?_⟩) ho (hc.flat hf kk.h),.inl h1⟩
      simp only[St.jA] at yP
      split at yP
      ·cases yP
      ·rename_i gN;have:=S.inj s' g' s k e' _ b yP he wO hv
       exact gN this
   ·cases h
  ·cases h
theorem Y9 (S:kJ F h0 w0 nt ρ st a w) {s k:Nat} {x y:AV} {v:Value} (hx:ZL x) (hk:∀p∈jD x,p=(s,k)) (hu:cS (ctx h0 w0 ρ st w) x v) (h:fG st x=some y):cS (bare (ctx h0 w0 ρ (st.jA s k none) w).h) y v:=by
 have kk:=(S.drop s k).2
 by_cases hf:Flat x
 ·unfold fG at h;rw[if_pos hf] at h;simp only[Option.some.injEq] at h;subst h;exact hu.flat hf kk.h
 ·rcases hx with hx|⟨s',k',rfl⟩|⟨cs,rfl,AI⟩
  ·exact absurd hx hf
  ·have:=hk (s',k') (by simp[jD,gI])
   simp only[Prod.mk.injEq] at this;obtain⟨rfl,rfl⟩:=this
   unfold fG at h;rw[if_neg hf] at h;exact (aMr S (.inr rfl) hu h).1
  ·have hc:∀c∈cs,Flat c∨c=.own s k:=fun c hc=>by
    rcases AI c hc with h|⟨s',k',rfl⟩
    ·exact .inl h
    ·have:=hk (s',k') (by simp only[jD];exact List.mem_flatMap.2 ⟨_,hc,by simp[gI]⟩)
     simp only[Prod.mk.injEq] at this;obtain⟨rfl,rfl⟩:=this
     exact .inr rfl
   unfold fG at h;rw[if_neg hf] at h;simp only[Option.map_eq_some_iff] at h;obtain⟨ys,We,rfl⟩:=h
   have hmm:=jK _ _ We
   have hlen:ys.length=cs.length:=by have:=congrArg List.length hmm;simpa using this.symm
   cases hu with
   | agg _ arr hl hr h1 =>
     refine .agg ys arr (by omega) (fun i y z hy hz=>?_) h1
     have hi:i<cs.length:=by have:=(List.getElem?_eq_some_iff.1 hy).1;omega
     have Ke:cF st cs[i]=some y:=by
      have:=congrArg (·[i]?) hmm
      simp only[List.getElem?_map,hy,List.getElem?_eq_getElem hi,Option.map_some,Option.some.injEq] at this;exact this
     exact (aMr S (hc _ (List.getElem_mem hi)) (hr i cs[i] z (by simp[hi]) hz) Ke).1
theorem Qu {r:AV} {dst:Option Nat} {s k:Nat} {e:qE} (h:Fl r st dst s k=some e) :
 (Flat r∧e={ dst:=dst,val:=r,dJ:=some (s,k,none)}) ∨
 (¬Flat r∧∃e1 sz n cs d,r=.uniq e1 sz n cs∧dst=some d∧(∀c∈cs,fR c)∧e={ dst:=some d,val:=.own d (st.aP d),dJ:=some (s,k,none),new:=some (d,[.row e1 sz n cs])}):=by
 unfold Fl at h;split at h
 ·rename_i hf;simp only[Option.some.injEq] at h;exact .inl ⟨hf,h.symm⟩
 ·rename_i hf;split at h
  ·rename_i e1 sz n cs d;split at h
   ·rename_i hc;simp only[Option.some.injEq] at h;exact .inr ⟨hf,e1,sz,n,cs,d,rfl,rfl,hc,h.symm⟩
   ·cases h
  ·cases h
theorem DT (S:kJ F h0 w0 nt ρ st a w) {call:Nat→List AV→Option AV} (iX:pJ P call) {g:Nat} {args:List AV} {vs:Array Value} {dst:Option Nat} {e:qE}
 (h:eI call g args st dst=some e) (eY:lE (ctx h0 w0 ρ st w) args vs.toList) (hd:∀d,dst=some d→d<nt)
 (hK:∀nY a' w',kJ F h0 w0 nt nY (e.apply st) a' w'→K a' w') :
 xU P g∧Calls P g vs w fun en w'=>∃v,en=.returned v∧K (a.put dst v) w':=by
 unfold eI at h;split at h
 ·rename_i s k Qo;split at h
  ·rename_i oR;split at h
   ·rename_i xs DS;cases hc:call g xs with
    | none=>simp[hc,cH] at h
    | some r =>
      obtain⟨XA,hs⟩:=iX g xs r hc
      refine⟨XA, ?_⟩
      simp only[hc,cH] at h;have h:=Qu h
      have hmm:=jK _ _ DS
      have IQ:∀x∈xs,Flat x:=pK (fun a b h=>Kk h) _ _ DS
      have hlen:xs.length=args.length:=by have:=congrArg List.length hmm;simpa using this.symm
      obtain⟨S1,kk⟩:=S.drop s k
      have Qt:lE (bare (ctx h0 w0 ρ (st.jA s k none) w).h) xs vs.toList:=⟨by rw[hlen];exact eY.len,fun i x y hx hy=>by
       have hi:i<args.length:=by have:=(List.getElem?_eq_some_iff.1 hx).1;omega
       have Ke:fG st args[i]=some x:=by
        have:=congrArg (·[i]?) hmm
        simp only[List.getElem?_map,hx,List.getElem?_eq_getElem hi,Option.map_some,Option.some.injEq] at this;exact this
       refine Y9 S (oR _ (List.getElem_mem hi)) (fun p hp=>?_) (eY.rel i args[i] y (by simp[hi]) hy) Ke
       have:p∈args.flatMap jD:=List.mem_flatMap.2 ⟨_,List.getElem_mem hi,hp⟩
       rw[Qo] at this;simpa using this⟩
      refine ((AM hs IQ) w (ctx h0 w0 ρ (st.jA s k none) w).h vs (fun b o hb=>hb.1) Qt).mono ?_
      rintro en w' ⟨v,rfl,hr,hg⟩
      rcases h with ⟨UE,rfl⟩|⟨UE,e1,sz,n,cs,d,rfl,rfl,AI,rfl⟩
      ·refine⟨v,rfl,uM (e:={ dst:=dst,val:=r }) S1 hr hg (.inl fun b o hb=>hb) ?_ hd (fun nY a' w2 hS=>hK nY a' w2 hS)⟩
       unfold iU;rw[if_pos UE]
      ·refine⟨v,rfl,uM (e:={ dst:=some d,val:=.own d (st.aP d),new:=some (d,[.row e1 sz n cs])}) S1 hr hg (.inr AI) ?_ hd (fun nY a' w2 hS=>hK nY a' w2 hS)⟩
       unfold iU;rw[if_neg UE];rfl
   ·cases h
  ·cases h
 ·exact yL S iX h eY hd hK
theorem JV (S:kJ F h0 w0 nt ρ st a w) {call:Nat→List AV→Option AV} (iX:pJ P call) {g:Nat} {args:List AV} {vs:Array Value} {dst:Option Nat} {e:qE}
 (h:nK call g args st dst=some e) (eY:lE (ctx h0 w0 ρ st w) args vs.toList) (hd:∀d,dst=some d→d<nt)
 (hK:∀nY a' w',kJ F h0 w0 nt nY (e.apply st) a' w'→K a' w') :
 xU P g∧Calls P g vs w fun en w'=>∃v,en=.returned v∧K (a.put dst v) w':=by
 unfold nK at h;split at h
 ·rename_i x s k;split at h
  ·rename_i e0 sz n cs he;split at h
   ·rename_i AI;obtain⟨IQ,AI⟩:=AI
    have Y5:∃v0,vs=#[v0,ρ s k]∧cS (ctx h0 w0 ρ st w) x v0:=by
     have hl:=eY.len
     cases hv:vs.toList with
     | nil=>rw[hv] at hl;simp at hl
     | cons v0 r=>cases r with
       | nil=>rw[hv] at hl;simp at hl
       | cons v1 r=>cases r with
         | cons _ _=>rw[hv] at hl;simp at hl
         | nil =>
           rw[hv] at eY;have h1:=eY.rel 1 _ v1 rfl rfl
           have h2:v1=ρ s k:=by cases h1;rfl
           subst h2;exact⟨v0,Array.ext' hv,eY.head⟩
    obtain⟨v0,rfl,hv0⟩:=Y5
    obtain⟨hk1,hk2,ys,ho,oA⟩:=S.sF s k _ he
    split at h
    ·rename_i r hr;split at h
     ·rename_i UE;obtain⟨XA,hs⟩:=iX _ _ _ hr
      refine⟨XA, ?_⟩
      have hs:WW P g x e0 sz n cs r:=by
       cases IQ<;>exact hs
      refine (hs w (ctx h0 w0 ρ st w).h v0 (ρ s k) ys (fun b o hb=>hb.1) (fun b o hb=>hb.2.2 s k _ he) (vM ho (Nat.zero_le _)) (oA.flat AI fun b o hb=>hb) (hv0.flat IQ fun b o hb=>hb)).mono ?_
      rintro en w' ⟨v,rfl,hr,hg⟩
      refine⟨v,rfl,uM S hr hg (.inl fun b o hb=>hb) ?_ hd hK⟩
      unfold iU;rw[if_pos UE];exact h
     ·cases h
    ·cases h
   ·cases h
  ·cases h
 ·split at h
  ·exact yL S iX h eY hd hK
  ·cases h
theorem JW (S:kJ F h0 w0 nt ρ st a w) {call:Nat→List AV→Option AV} (iX:pJ P call) {g:Nat} {args:List AV} {vs:Array Value} {dst:Option Nat} {e:qE}
 (h:lI call g args st dst=some e) (eY:lE (ctx h0 w0 ρ st w) args vs.toList) (hd:∀d,dst=some d→d<nt)
 (hK:∀nY a' w',kJ F h0 w0 nt nY (e.apply st) a' w'→K a' w') :
 xU P g∧Calls P g vs w fun en w'=>∃v,en=.returned v∧K (a.put dst v) w':=by
 unfold lI at h;split at h
 ·rename_i s k rest;split at h
  ·rename_i e0 sz n cs he;split at h
   ·rename_i AI;obtain⟨AI,UE⟩:=AI
    have Y5:∃v0 vr,vs=#[v0]++vr∧cS (ctx h0 w0 ρ st w) (.own s k) v0∧lE (ctx h0 w0 ρ st w) rest vr.toList:=by
     have hl:=eY.len
     cases hv:vs.toList with
     | nil=>rw[hv] at hl;simp at hl
     | cons v0 vr =>
       rw[hv] at eY;refine⟨v0,vr.toArray, ?_,eY.head,by simpa using eY.tail⟩
       apply Array.ext'
       rw[hv];simp
    obtain⟨v0,vr,rfl,hv0,hrest⟩:=Y5
    have hv0':v0=ρ s k:=by cases hv0;rfl
    subst hv0'
    obtain⟨hk1,hk2,ys,ho,oA⟩:=S.sF s k _ he
    have run:∀r,call g (.uniq e0 sz n cs :: rest)=some r→xU P g ∧
     Calls P g (#[ρ s k]++vr) w fun en w'=>∃v,en=.returned v∧w.grownBy w' (cW (ρ s k)) ∧
      match r with
      | .uniq e' sJ n' Ff=>∃zs,mP w' 0 e' sJ v n' zs∧fQ (bare (ctx h0 w0 ρ st w).h) Ff zs∧∀b,cW v=some b→cW (ρ s k)=some b∨w.heap.size≤b
      | .eG [.uniq e' sJ n' Ff]=>v=.tuple #[]∧∃zs,mP w' 0 e' sJ (ρ s k) n' zs∧fQ (bare (ctx h0 w0 ρ st w).h) Ff zs
      | _=>False:=by
     intro r hr;obtain⟨XA,hs⟩:=iX _ _ _ hr
     refine⟨XA, ?_⟩
     have hs:WV P g e0 sz n cs rest r:=hs
     exact hs w (ctx h0 w0 ρ st w).h (ρ s k) ys vr (fun b o hb=>hb.1) (fun b o hb=>hb.2.2 s k _ he) (vM ho (Nat.zero_le _)) (oA.flat AI fun b o hb=>hb) (HM hrest UE fun b o hb=>hb)
    have bareLe:∀C:Ctx,(ctx h0 w0 ρ st w).Le C→(bare (ctx h0 w0 ρ st w).h).Le C:=fun C kC=>⟨kC.h,fun _=>Nat.zero_le _,fun _ _ h=>absurd h (by simp[bare])⟩
    have xD:∀b,cW (ρ s k)=some b→w0.heap.size≤b:=fun b hb=>(vN ho b hb).1
    split at h
    ·rename_i e' sJ n' Ff hr
     obtain⟨XA,hc⟩:=run _ hr
     refine⟨XA,hc.mono ?_⟩
     rintro en w' ⟨v,rfl,hg,zs,hz,Z0,hzb⟩
     cases dst with
     | none=>cases h
     | some d =>
       simp only[Option.some.injEq] at h;subst h;refine⟨v,rfl, ?_⟩
       obtain⟨S',kk,oZ⟩:=S.O8 he hg d (.row e' sJ n' Ff) v (pS hz) hzb (fun C kC=>⟨zs,Qs hz (fun b hb=>by
        rcases hzb b hb with h|h
        ·exact xD b h
        ·have:=S.ext.size;omega),Z0.le (bareLe C kC)⟩)
       have happ:qE.apply { dst:=some d,val:=.own d (st.aP d),dJ:=some (s,k,none),new:=some (d,[.row e' sJ n' Ff])} st=((st.jA s k none).new d (.row e' sJ n' Ff)).put (some d) (.own d (st.aP d)):=by
        simp only[qE.apply,Xy]
       have aY:st.aP d<(ctx h0 w0 (uC ρ d (st.aP d) v) ((st.jA s k none).new d (.row e' sJ n' Ff)) w').aP d:=by simp[ctx,St.new,St.jA]
       have jR:(ctx h0 w0 (uC ρ d (st.aP d) v) ((st.jA s k none).new d (.row e' sJ n' Ff)) w').ρ d (st.aP d)=v:=oZ
       have:=cS.own (C:=ctx h0 w0 (uC ρ d (st.aP d) v) ((st.jA s k none).new d (.row e' sJ n' Ff)) w') d (st.aP d) aY (by rw[jR];exact pS hz)
       rw[jR] at this;have hS:=S'.put (some d) hd this
       rw[← happ] at hS;exact hK _ _ _ hS
    ·rename_i e' sJ n' Ff hr
     obtain⟨XA,hc⟩:=run _ hr
     refine⟨XA,hc.mono ?_⟩
     rintro en w' ⟨v,rfl,hg,rfl,zs,hz,Z0⟩
     simp only[Option.some.injEq] at h;subst h;have S':=S.O7 (e':=.row e' sJ n' Ff) he hg (fun C kC=>⟨zs,Qs hz xD,Z0.le (bareLe C kC)⟩)
     exact⟨_,rfl,hK ρ _ _ (S'.put dst hd (.eG [] #[] rfl (by simp)))⟩
    ·cases h
   ·cases h
  ·cases h
 ·split at h
  ·exact yL S iX h eY hd hK
  ·cases h
end
end Go.Ab
end
section
namespace Go.Ab
open Classical
section
variable {P:Program} {h0:Nat→Obj→Prop} {w0:World} {F:Hs} {nt:Nat} {ρ:Nat→Nat→Value} {st:St} {a:Act} {w:World} {K:Act→World→Prop} {Q:Exit→Act→World→Prop}
theorem upon_value {o:Oper} {v:Value} {w':World} (h:(execOp a.eval o).run P w=.ok (.value v) w') (hk:K (a.put o.dst v) w'):o.wp P a w K Q:=by
 unfold Oper.wp;rw[h];exact hk
theorem kJ.newVar (S:kJ F h0 w0 nt ρ st a w) (d:Nat) (hd:d<nt) (cs:List AV) (arr:Array Value) (T:Nat) (hc:fQ (ctx h0 w0 ρ st w) cs arr.toList) :
 ∃nY,kJ F h0 w0 nt nY ((st.new d (.cells cs)).put (some d) (.ptr d (st.aP d) 0)) (a.put (some d) (.pointer (some ⟨w.heap.size,0,none⟩))) (w.alloc (.cells arr T)):=by
 obtain⟨S',k,oZ⟩:=S.new (World.grownBy_alloc w (.cells arr T) none) d (.cells cs) (.pointer (some ⟨w.heap.size,0,none⟩)) rfl (fun b hb=>by simp[cW] at hb;omega)
  (fun C k _=>⟨w.heap.size,arr,T,rfl,S.ext.size,heap_alloc_new w _,hc.le k⟩)
 exact⟨_,S'.put (some d) (fun t ht=>by cases ht;exact hd) (.ptr d (st.aP d) 0 w.heap.size (by simp[ctx,St.new]) (by show cW (uC _ _ _ _ _ _)=_;rw[oZ];rfl))⟩
theorem kJ.newRow (S:kJ F h0 w0 nt ρ st a w) (d:Nat) (hd:d<nt) {w':World} (hg:w.grownBy w' none) (e sz n:Nat) (cs:List AV) (xs:List Value) (v:Value) (ho:mP w' w.heap.size e sz v n xs) (hc:fQ (ctx h0 w0 ρ st w) cs xs) :
 ∃nY,kJ F h0 w0 nt nY ((st.new d (.row e sz n cs)).put (some d) (.own d (st.aP d))) (a.put (some d) v) w':=by
 obtain⟨S',k,oZ⟩:=S.new hg d (.row e sz n cs) v (pS ho) (fun b hb=>(vN ho b hb).1) (fun C k _=>⟨xs,vM ho S.ext.size,hc.le k⟩)
 refine⟨_,S'.put (some d) (fun t ht=>by cases ht;exact hd) ?_⟩
 have aY:st.aP d<(ctx h0 w0 (uC ρ d (st.aP d) v) (st.new d (.row e sz n cs)) w').aP d:=by simp[ctx,St.new]
 have jR:(ctx h0 w0 (uC ρ d (st.aP d) v) (st.new d (.row e sz n cs)) w').ρ d (st.aP d)=v:=oZ
 have:=cS.own (C:=ctx h0 w0 (uC ρ d (st.aP d) v) (st.new d (.row e sz n cs)) w') d (st.aP d) aY (by rw[jR];exact pS ho)
 rw[jR] at this;exact this
theorem Iy (z:Array Value) (n:Nat):((Array.range (n * z.size)).map (z[· % z.size]!)).toList=(List.range n).flatMap fun _=>z.toList:=by
 rw[Array.toList_map];have:(Array.range (n * z.size)).toList=List.range (n * z.size):=by simp
 rw[this];clear this
 induction n with
 | zero=>simp
 | succ n ih =>
   rw[Nat.succ_mul,List.range_add,List.map_append,ih,List.range_succ,List.flatMap_append];congr 1
   simp only[List.flatMap_cons,List.flatMap_nil,List.append_nil,List.map_map];apply List.ext_getElem?
   intro i;by_cases hi:i<z.size
   ·simp[hi,Nat.mod_eq_of_lt hi,Nat.mul_comm n z.size]
   ·simp[hi]
theorem Kl {C:Ctx} {z:List Value} (h1:∀y∈z,y.oneCell'=true) (n:Nat):fQ C ((List.range n).flatMap fun _=>z.map .v) ((List.range n).flatMap fun _=>z):=by
 generalize List.range n=l
 induction l with
 | nil=>exact .nil C
 | cons x l ih=>simp only[List.flatMap_cons];exact (fQ.vs C z h1).app ih
theorem Tm (S:kJ F h0 w0 nt ρ st a w) {T n e sz by_:Nat} {parts:Array (Nat × Operand)} {z:List Value} {cs:List AV} (hs:dL P T=some (e,sz,by_)) (hz:dW P e=some z)
 (hn:0<n∨parts=#[]) (hlim:n * sz≤2 ^ 24) (sG:(parts.toList.all fun p=>(st.ev p.2).jQ)=true)
 (hf:gR (fun i=>some (i * sz,sz)) ((List.range n).flatMap fun _=>z.map .v) (parts.toList.map fun p=>(p.1,st.ev p.2))=some cs) :
 ∃v w' xs,(Instr.buildSlice T n (parts.map fun (i,x)=>(i,a.eval x))).run P w=.ok v w'∧w.grownBy w' none∧mP w' w.heap.size e sz v n xs∧fQ (ctx h0 w0 ρ st w) cs xs:=by
 obtain⟨ei,ez,hT,Cw,DG,rfl,Uw,rfl,Cl⟩:=jY hs
 obtain⟨i',zv,Dg,PU,rfl,Y2⟩:=Ai hz
 rw[Cw] at Dg
 cases Dg
 rw[DG] at PU;cases PU
 rcases Nat.eq_zero_or_pos n with h0'|hn
 ·subst h0'
  have hp:parts=#[]:=by
   rcases hn with h|h
   ·omega
   ·exact h
  subst hp;simp[gR] at hf
  subst hf;refine⟨.slice (some ⟨w.heap.size,0,none⟩) 0 0,w.alloc (.cells #[] e),[], ?_,World.grownBy_alloc w _ none,⟨by simp,.inl ⟨_,rfl,rfl⟩⟩,.nil _⟩
  simp[Instr.buildSlice,run_underlying hT,sizeOf,typeInfo,zeroValue,Cw,Instr.fill,newRow]
  rw[show Array.map (fun x=>(default:Value)) (Array.range 0)=#[] from by simp[Array.range]]
 have eY:lE (ctx h0 w0 ρ st w) ((parts.toList.map fun p=>(p.1,st.ev p.2)).map (·.2)) ((parts.toList.map fun p=>(p.1,a.eval p.2)).map (·.2)):=by
  simp only[List.map_map];exact lE.map _ _ _ fun p _=>S.ev p.2
 have hnz:¬n * ei.size=0:=by
  have:=Nat.mul_pos hn Cl
  omega
 have XB:((Array.range (n * ei.size)).map (ez.cells[· % ez.cells.size]!)).toList=(List.range n).flatMap fun _=>ez.cells.toList:=by
  rw[← Uw];exact Iy ez.cells n
 obtain⟨cells,PV,oA⟩:=Nu (place:=fun i=>some (i * ei.size,ei.size)) (parts.toList.map fun p=>(p.1,st.ev p.2)) (parts.toList.map fun p=>(p.1,a.eval p.2)) _ ((Array.range (n * ei.size)).map (ez.cells[· % ez.cells.size]!)) cs (by simp) eY
  (fun p hp'=>by
   obtain⟨q,hq,rfl⟩:=List.mem_map.1 hp'
   exact List.all_eq_true.1 sG q hq) (by rw[XB];exact Kl Y2 n) hf
 have hr:=run_buildSlice (P:=P) w T e n (parts.map fun (i,x)=>(i,a.eval x)) cells ei ez hT Cw DG (by omega) hnz (by simpa using PV)
 have hsz:cells.size=n * ei.size:=by
  have hlen:∀(place:Nat→Option (Nat × Nat)) (ps:List (Nat × AV)) (c out:List AV),gR place c ps=some out→out.length=c.length:=by
   intro place ps;induction ps with
   | nil=>intro c out h;simp[gR] at h;rw[h]
   | cons p ps ih =>
     intro c out h;obtain⟨i,x⟩:=p
     unfold gR at h;split at h
     ·cases h
     ·split at h
      ·rename_i hc;have:=ih _ _ h
       rw[this];simp
       omega
      ·cases h
  have h1:=hlen _ _ _ _ hf
  have h2:=oA.len
  have h3:=(Kl (C:=ctx h0 w0 ρ st w) Y2 n).len
  rw[← XB] at h3;simp only[Array.length_toList,Array.size_map,Array.size_range] at h2 h3;omega
 refine⟨_,_,cells.toList,hr,World.grownBy_alloc w _ none,Hx ?_,oA⟩
 refine⟨by simp[hsz],.inr ⟨w.heap.size,n,cells,rfl,Nat.le_refl _,heap_alloc_new w _,Nat.le_refl _, ?_,hsz, ?_⟩⟩
 ·have:n≤n * ei.size:=Nat.le_mul_of_pos_right n Cl
  simp only[maxLen];omega
 ·rw[← hsz,← Array.length_toList,List.take_length]
theorem Wf (C:Ctx) {T e sz by_:Nat} {z:List Value} {n:Nat} (hs:dL P T=some (e,sz,by_)) (hz:dW P e=some z)
 (hb:n * by_≤140737488355328) (hm:n≤maxLen) :
 ∃v w' xs,(Instr.makeSlice T (.int .i64 n) (.int .i64 n)).run P w=.ok v w'∧w.grownBy w' none∧mP w' w.heap.size e sz v n xs∧fQ C ((List.range n).flatMap fun _=>z.map .v) xs:=by
 obtain⟨ei,ez,hT,Cw,DG,rfl,Uw,rfl,Cl⟩:=jY hs
 obtain⟨i',zv,Dg,PU,rfl,Y2⟩:=Ai hz
 rw[Cw] at Dg
 cases Dg
 rw[DG] at PU;cases PU
 obtain⟨w',hr,ho,hg⟩:=run_make_full (P:=P) w w.heap.size T e ei ez ei.size hT Cw DG rfl .i64 .i64 n (by rw[Nat.mul_comm];omega) hm (Nat.le_refl _)
 have XB:(madeCells ez.cells (n * ei.size)).toList=(List.range n).flatMap fun _=>ez.cells.toList:=by
  unfold madeCells;rw[← Uw];exact Iy ez.cells n
 exact⟨_,w',_,hr,hg,Hx ho,by rw[XB];exact Kl Y2 n⟩
theorem QC (S:kJ F h0 w0 nt ρ st a w) {T:Nat} {x y:AV} {s g:Nat} {e:mV} {u v:Value} (h:pV P st T x y=some (s,g,e)) (hu:cS (ctx h0 w0 ρ st w) x u) (hv:cS (ctx h0 w0 ρ st w) y v) :
 ∃w',(Instr.storeAt T u v).run P w=.ok () w'∧kJ F h0 w0 nt ρ (st.jA s g (some e)) a w':=by
 unfold pV at h;split at h
 ·rename_i s' g' off
  split at h
  ·rename_i ba k hld;split at h
   ·rename_i hc;obtain⟨c1,c2⟩:=hc
    obtain⟨i,d,hi,hd,kU,rfl⟩:=Bh hld
    have JX:=hv.cells c2
    have hlen:=JX.len
    simp only[Array.length_toList] at hlen;cases hu with
    | ptr _ _ _ b hg hb =>
      have oC:cW (ρ s' g')=some b:=hb
      have main:∀(arr:Array Value) (B:Nat),w.heap[b]? = some (.cells arr B (0,0))→off+i.size≤arr.size →
       (Instr.storeAt T (.pointer (some ⟨b,off,none⟩)) v).run P w=.ok () (w.setRow b (arr.toList.take off++v.cells.toList++arr.toList.drop (off+i.size)).toArray):=by
       intro arr B hh hle;have sG:=run_storeCells_at P b off B v.cells.toList 0 arr w hh (by simp;omega) (fun y hy=>by
        obtain⟨j,hj,rfl⟩:=List.getElem_of_mem hy
        exact JX.one j _ (by simp))
       simp only[Nat.add_zero,Array.length_toList] at sG;simp only[Instr.storeAt,Instr.sureAddr];rw[dH (Sem.run_pure P w _)];simp only[storeVar,dH (run_sizeOf w hi)];rw[if_neg (by omega),show off+i.size=off+v.cells.size by omega]
       exact sG
      have grown:∀(cs:Array Value),w.grownBy (w.setRow b cs) (some b):=fun cs=>⟨rfl,rfl,rfl,by simp,fun k _ hk=>setRow_other w b k cs (fun e=>hk (by rw[e]))⟩
      cases he:st.heap s' g' with
      | none=>simp[he] at h
      | some e' =>
        obtain⟨_,_,her⟩:=S.sF s' g' _ he
        cases e' with
        | cells cs =>
          simp only[he] at h;split at h
          ·rename_i hle;simp only[Option.some.injEq,Prod.mk.injEq] at h;obtain⟨rfl,rfl,rfl⟩:=h
           obtain⟨b',arr,B,jR,xD,hh,hc⟩:=her
           have wO:b'=b:=by rw[jR] at oC;simpa [cW] using oC
           subst wO;have hl:=hc.len
           simp only[Array.length_toList] at hl;refine⟨_,main arr B hh (by omega),S.store he oC (grown _) fun C k=>⟨b',_,B,jR,xD,setRow_heap w b' arr _ B (0,0) hh, ?_⟩⟩
           exact (((hc.take off).app JX).app (hc.drop _)).le k
          ·cases h
        | row e2 sz n cs =>
          simp only[he] at h;split at h
          ·rename_i hle;simp only[Option.some.injEq,Prod.mk.injEq] at h;obtain⟨rfl,rfl,rfl⟩:=h
           obtain⟨xs,ho,hc⟩:=her
           have ho':=ho
           rcases ho.2 with ⟨p,jR,_⟩|⟨b',cap,cur,jR,xD,hh,Wd,G6,AI,ht,pT⟩
           ·rw[jR,oE] at oC;cases oC
           ·have wO:b'=b:=by rw[jR,jE pT] at oC;simpa using oC
            subst wO;have hl:=hc.len
            have hx:=ho.1
            have hle2:n * sz≤cap * sz:=Nat.mul_le_mul_right _ Wd
            refine⟨_,main cur e2 hh (by omega),S.store he oC (grown _) fun C k=>⟨xs.take off++v.cells.toList++xs.drop (off+i.size), ?_,(((hc.take off).app JX).app (hc.drop _)).le k⟩⟩
            refine⟨by simp;omega,.inr ⟨b',cap,_,jR,xD,setRow_heap w b' cur _ e2 (0,0) hh,Wd,G6,by simp;omega, ?_,pT⟩⟩
            simp only
            rw[← ht];have Ay:cur.toList.length=cur.size:=rfl
            have hvl:v.cells.toList.length=v.cells.size:=rfl
            have l1:(cur.toList.take off++v.cells.toList).length=off+i.size:=by simp;omega
            rw[List.take_append,l1,List.take_of_length_le (by omega),List.drop_take,List.take_take,Nat.min_eq_left (by omega)]
          ·cases h
        | map es=>simp[he] at h
        | yD e sz n cs=>simp[he] at h
   ·cases h
  ·cases h
 ·cases h
end
end Go.Ab
end
