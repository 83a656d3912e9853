/-
  Part 2 of the proof: an evaluator of programs, its soundness, and what functions of this program compute.
-/
import Derived.Test.YtmcjkemalibacaaGreatK1
import Derived.Laws.Tables
import Derived.Laws.OwnMore
import Derived.Great.BuildSlice
import Derived.MapKept
set_option linter.all false
set_option maxRecDepth 20000
set_option maxHeartbeats 40000000
section
namespace Go.Ab
open Classical
theorem foldl_set (off:Nat):∀(vs:List Value) (k:Nat) (cs:Array Value),off+k+vs.length<=cs.size ->
 ((vs.zipIdx k).foldl (fun cs (x:Value × Nat)=>cs.setIfInBounds (off+x.2) x.1) cs).toList=cs.toList.take (off+k)++vs++cs.toList.drop (off+k+vs.length)
 | [],k,cs,h=>by simp
 | v :: vs,k,cs,h=>by
   simp only[List.zipIdx_cons,List.foldl_cons];simp only[List.length_cons] at h;rw[foldl_set off vs (k+1) (cs.setIfInBounds (off+k) v) (by simp;omega)]
   have aZ:off+k<cs.size:=by omega
   have PE:off+k<cs.toList.length:=by simpa using aZ
   have e1:(cs.setIfInBounds (off+k) v).toList=cs.toList.set (off+k) v:=by simp
   rw[e1,show off+(k+1)=off+k+1 by omega]
   have e2:cs.toList.set (off+k) v=cs.toList.take (off+k)++v :: cs.toList.drop (off+k+1):=by
    rw[List.set_eq_take_append_cons_drop,if_pos PE]
   have l1:(cs.toList.take (off+k)).length=off+k:=by simp;omega
   have e3:(cs.toList.set (off+k) v).take (off+k+1)=cs.toList.take (off+k)++[v]:=by
    rw[e2,List.take_append,l1,List.take_of_length_le (by rw[l1];omega),show off+k+1-(off+k)=1 by omega]
    simp
   have e4:(cs.toList.set (off+k) v).drop (off+k+1+vs.length)=cs.toList.drop (off+k+(vs.length+1)):=by
    rw[e2,List.drop_append,l1,List.drop_of_length_le (by rw[l1];omega),show off+k+1+vs.length-(off+k)=vs.length+1 by omega]
    simp only[List.drop_succ_cons,List.nil_append,List.drop_drop];congr 1
    omega
   rw[e3,e4];simp
section
variable {P:Program} {h0:Nat->Obj->Prop} {w0:World} {F:Hx} {nt:Nat} {ρ:Nat->Nat->Value} {st:St} {a:Act} {w:World}
theorem Ok {C:Ctx} {place:Nat->Option (Nat × Nat)}:∀(parts:List (Nat × AV)) (pv:List (Nat × Value)) (cells:List AV) (ys:Array Value) (out:List AV),
 parts.map (·.1)=pv.map (·.1)->lA C (parts.map (·.2)) (pv.map (·.2))->(∀p∈parts,p.2.jO=true)->fQ C cells ys.toList->gM place cells parts=some out ->
 ∃zs,Instr.fill place ys pv=some zs/\fQ C out zs.toList
 | [],pv,cells,ys,out,h1,h2,h3,h4,h5=>by
   cases pv with
   | nil=>simp[gM] at h5;subst h5;exact⟨ys,rfl,h4⟩
   | cons p pv=>simp at h1
 | (i,x) :: parts,[],cells,ys,out,h1,_,_,_,_=>by simp at h1
 | (i,x) :: parts,(i',v) :: pv,cells,ys,out,h1,h2,h3,h4,h5=>by
   simp only[List.map_cons,List.cons.injEq] at h1;obtain⟨rfl,h1⟩:=h1
   simp only[List.map_cons] at h2;have hx:=h2.head
   have hc:=hx.cells (h3 (i,x) (by simp))
   unfold gM at h5;unfold Instr.fill;cases hp:place i with
   | none=>simp[hp] at h5
   | some os =>
     obtain⟨off,size⟩:=os
     simp only[hp] at h5 ⊢;split at h5
     ·rename_i aBU;obtain⟨c1,c2⟩:=aBU
      have hl:=hc.len
      have hl4:=h4.len
      simp only[Array.length_toList] at hl hl4;have gI:¬(v.cells.size≠size\/off+v.cells.size > ys.size):=by omega
      have hne':(decide (v.cells.size≠size) || decide (off+v.cells.size > ys.size))=false:=by simp;omega
      rw[if_neg (by simpa using gI)]
      refine Ok parts pv _ _ out h1 h2.tail (fun p hp'=>h3 p (by simp[hp'])) ?_ h5
      have e:=foldl_set off v.cells.toList 0 ys (by simp;omega)
      simp only[Nat.add_zero,Array.length_toList] at e;have e2:(v.cells.zipIdx.foldl (fun cs (x:Value × Nat)=>cs.setIfInBounds (off+x.2) x.1) ys).toList=ys.toList.take off++v.cells.toList++ys.toList.drop (off+v.cells.size):=by
       rw[<- e,<- Array.foldl_toList,Array.toList_zipIdx]
      show fQ C _ (v.cells.zipIdx.foldl (fun cs (x:Value × Nat)=>cs.setIfInBounds (off+x.2) x.1) ys).toList
      rw[e2];have e3:off+size=off+v.cells.size:=by omega
      rw[e3];exact ((h4.take off).app hc).app (h4.drop _)
     ·cases h5
theorem Aw {T:Nat} {z:List Value} (h:dU P T=some z):∃i zv,P.info? T=some i/\i.zero=some zv/\z=zv.cells.toList/\∀y∈z,y.oneCell'=true:=by
 unfold dU at h;split at h
 ·rename_i i hi;cases hz:i.zero with
  | none=>simp[hz] at h
  | some zv =>
    simp only[hz] at h;split at h
    ·rename_i h1;simp only[Option.some.injEq] at h;subst h;exact⟨i,zv,hi,hz,rfl,List.all_eq_true.1 h1⟩
    ·cases h
 ·cases h
theorem RZ (S:kM F h0 w0 nt ρ st a w) {T:Nat} {parts:Array (Nat × Operand)} {z:AV} (h:iU P st T parts.toList=some z) :
 ∃r,(Instr.build T (parts.map fun (i,x)=>(i,a.eval x))).run P w=.ok r w/\cK (ctx h0 w0 ρ st w) z r:=by
 unfold iU at h;cases hz:dU P T with
 | none=>simp[hz] at h
 | some zs =>
   cases hp:placeOf P T with
   | none=>simp[hz,hp] at h
   | some place =>
     simp only[hz,hp] at h;split at h
     ·rename_i xV;simp only[Option.map_eq_some_iff] at h;obtain⟨out,hf,rfl⟩:=h
      obtain⟨i,zv,hi,SA,rfl,hz1⟩:=Aw hz
      have eM:lA (ctx h0 w0 ρ st w) ((parts.toList.map fun p=>(p.1,st.ev p.2)).map (·.2)) ((parts.toList.map fun p=>(p.1,a.eval p.2)).map (·.2)):=by
       simp only[List.map_map];exact lA.map _ _ _ fun p _=>S.ev p.2
      obtain⟨cells,SC,lZ⟩:=Ok (place:=place) (parts.toList.map fun p=>(p.1,st.ev p.2)) (parts.toList.map fun p=>(p.1,a.eval p.2)) _ zv.cells out (by simp) eM
       (fun p hp'=>by
        obtain⟨q,hq,rfl⟩:=List.mem_map.1 hp'
        exact List.all_eq_true.1 xV q hq) (fQ.vs _ _ hz1) hf
      have hbuilt:P.built T (parts.map fun (i,x)=>(i,a.eval x)).toList=some cells:=by
       unfold Program.built;unfold placeOf at hp;split at hp
       ·rename_i fs hu;split at hp
        ·rename_i Ol;simp only[Option.some.injEq] at hp;simp only[hi,hu,SA];have hm:fs.toList.mapM (fun f=>(P.info? f.type).map fun i=>(f.offset,i.size))=some (fs.toList.map fun f=>(f.offset,P.cellsOf f.type)):=by
          have aBW:∀f∈fs.toList,(P.info? f.type).isSome=true:=fun f hf=>Array.all_eq_true_iff_forall_mem.1 Ol f (Array.mem_toList_iff.1 hf)
          generalize fs.toList=l at aBW
          induction l with
          | nil=>rfl
          | cons f l ih =>
            obtain⟨j,hj⟩:=Option.isSome_iff_exists.1 (aBW f (by simp))
            rw[List.mapM_cons,ih fun g hg=>aBW g (by simp[hg])]
            simp[hj,rU hj]
         rw[hm];simp only
         have:(fun x=>(fs.toList.map fun f=>(f.offset,P.cellsOf f.type)).toArray[x]?)=place:=by
          rw[<- hp];funext j
          simp
         rw[this];simpa using SC
        ·cases hp
       ·rename_i n e hu;split at hp
        ·rename_i hsome;obtain⟨ie,Da⟩:=Option.isSome_iff_exists.1 hsome
         simp only[Option.some.injEq] at hp;simp only[hi,hu,SA,Da];rw[<- hp] at SC;simpa [rU Da] using SC
        ·cases hp
       ·cases hp
      refine⟨_,run_build w T _ cells hbuilt, ?_⟩
      exact .agg _ _ (by simpa using lZ.len) (fun j x y hx hy=>lZ.rel j x y hx (by simpa using hy)) (fun j y hy=>lZ.one j y (by simpa using hy))
     ·cases h
end
end Go.Ab
end
section
namespace Go.Ab
open Classical
section
variable {P:Program}
noncomputable def yM (x:Value):List MapEntry->Nat->Option (Nat × Value)
 | [],_=>none
 | e :: r,i=>if x=e.key then some (i,e.val) else yM x r (i+1)
theorem mk_inj {agg:Bool} {l:List Bool} {us vs:List Value} (h:gA l us vs) (ha:agg=false->l.length=1):mk agg us=mk agg vs↔us=vs:=by
 cases agg with
 | true=>simp[mk]
 | false =>
   have h1:=ha rfl
   obtain⟨e1,e2⟩:=lJ _ _ _ h
   obtain⟨a,rfl⟩:=List.length_eq_one_iff.1 (e1.trans h1)
   obtain⟨b,rfl⟩:=List.length_eq_one_iff.1 (e2.trans h1)
   simp[mk]
theorem Xh (w:World) {k:Nat} {l:List Bool} {us vs:List Value} (hl:eI P 20 k=some l) (h:gA l us vs) :
 (Op.equal k (mk (cX P k) us) (mk (cX P k) vs)).run P w=.ok (decide (mk (cX P k) us=mk (cX P k) vs)) w:=by
 have:=Ct (P:=P) 20 10000 (by omega) w k l hl us vs h
 unfold Op.equal Op.maxDepth;rw[this];congr 1
 rw[Bool.eq_iff_iff];simp[mk_inj h (oG 20 k l hl)]
def aBX (P:Program) (k:Nat) (l:List Bool) (us:List Value) (es:List MapEntry):Prop:=∀e∈es,∃vs,e.key=mk (cX P k) vs/\gA l us vs
theorem Jj (w:World) {k:Nat} {l:List Bool} {us:List Value} (hl:eI P 20 k=some l):∀(es:List MapEntry) (i:Nat),aBX P k l us es ->
 (Instr.findAsking k (mk (cX P k) us) es i).run P w=.ok (yM (mk (cX P k) us) es i) w
 | [],i,_=>by simp[Instr.findAsking,yM]
 | e :: es,i,h=>by
   obtain⟨vs,hk,hv⟩:=h e (by simp)
   have ih:=Jj w hl es (i+1) (fun x hx=>h x (by simp[hx]))
   have he:=Xh w hl hv
   simp only[Instr.findAsking,hk,Sem.run_bind,he,Result.andThen_ok,yM];by_cases hq:mk (cX P k) us=mk (cX P k) vs
   ·simp[hq]
   ·simp[hq,ih]
theorem Wf {q k0:IntKind} {a:Int}:∀(es:List MapEntry) (i:Nat),(∀e∈es,∃b,e.key=.int k0 b)->Instr.findNow (.int q) (.int k0 a) es i=some (yM (.int k0 a) es i)
 | [],i,_=>rfl
 | e :: es,i,h=>by
   obtain⟨b,hk⟩:=h e (by simp)
   have ih:=Wf (q:=q) (a:=a) es (i+1) (fun x hx=>h x (by simp[hx]))
   simp only[Instr.findNow,Instr.sameNow,hk,if_true,yM];by_cases hq:a=b
   ·subst hq;simp
   ·have:(a == b)=false:=by simp[hq]
    simp[this,ih,hq]
theorem Ra {a:Bool}:∀(es:List MapEntry) (i:Nat),(∀e∈es,∃b,e.key=.bool b)->Instr.findNow .bool (.bool a) es i=some (yM (.bool a) es i)
 | [],i,_=>rfl
 | e :: es,i,h=>by
   obtain⟨b,hk⟩:=h e (by simp)
   have ih:=Ra (a:=a) es (i+1) (fun x hx=>h x (by simp[hx]))
   simp only[Instr.findNow,Instr.sameNow,hk,yM];by_cases hq:a=b
   ·subst hq;simp
   ·have:(a == b)=false:=by simp[hq]
    simp[this,ih,hq]
theorem Mx {l:List Bool} {k:Nat} (h:Di P l k=true):(∃q,P.underlying k=some (.int q))\/P.underlying k=some .bool \/
 ∃n e q i,P.underlying k=some (.array n e)/\P.underlying e=some (.int q)/\P.info? e=some i/\i.size=1/\l.length=n:=by
 unfold Di at h;split at h
 ·rename_i q hq;exact .inl ⟨q,hq⟩
 ·rename_i hq;exact .inr (.inl hq)
 ·rename_i n e hu;split at h
  ·rename_i q hq;simp only[Bool.and_eq_true,decide_eq_true_eq] at h;obtain⟨⟨⟨h1,h2⟩,h3⟩,_⟩:=h
   obtain⟨i,hi⟩:=Option.isSome_iff_exists.1 h3
   exact .inr (.inr ⟨n,e,q,i,hu,hq,hi,by rw[<- rU hi];exact h1,h2⟩)
  ·cases h
 ·cases h
theorem Rb (w:World) {k:Nat} {l:List Bool} {us:List Value} (hl:eI P 20 k=some l) (hm:Di P l k=true) (hu:gA l us us) {es:List MapEntry} (h:aBX P k l us es) :
 (Instr.findKey k (mk (cX P k) us) es).run P w=.ok (yM (mk (cX P k) us) es 0) w:=by
 rcases Mx hm with ⟨q,hk⟩|hk|⟨n,e,q,i,hk,_⟩
 ·have kS:cX P k=false:=by simp[cX,hk]
  have Hz:l=[true]:=by simpa [eI,hk] using hl.symm
  subst Hz
  have hus:∀vs,gA [true] us vs->∃k0 a b,us=[.int k0 a]/\vs=[.int k0 b]:=fun vs h=>by
   cases us with
   | nil=>simp[gA] at h
   | cons u us=>cases vs with
     | nil=>cases u<;>simp[gA] at h
     | cons v vs =>
       cases u<;>cases v<;>simp[gA] at h
       cases us<;>cases vs<;>simp[gA] at h
       subst h;exact⟨_,_,_,rfl,rfl⟩
  obtain⟨k0,a,_,e1,_⟩:=hus us hu
  have Rc:∀e∈es,∃b,e.key=.int k0 b:=fun e he=>by
   obtain⟨vs,h1,h2⟩:=h e he
   obtain⟨k1,a1,b1,e2,e3⟩:=hus vs h2
   rw[e1] at e2;simp at e2
   exact⟨b1,by rw[h1,kS,e3];simp[mk,e2.1]⟩
  have hx:mk (cX P k) us=.int k0 a:=by rw[kS,e1];rfl
  rw[hx];simp only[Instr.findKey,Sem.run_bind,aW hk,Result.andThen_ok,Wf es 0 Rc];rfl
 ·have kS:cX P k=false:=by simp[cX,hk]
  have Hz:l=[false]:=by simpa [eI,hk] using hl.symm
  subst Hz
  have hus:∀vs,gA [false] us vs->∃a b,us=[.bool a]/\vs=[.bool b]:=fun vs h=>by
   cases us with
   | nil=>simp[gA] at h
   | cons u us=>cases vs with
     | nil=>cases u<;>simp[gA] at h
     | cons v vs =>
       cases u<;>cases v<;>simp[gA] at h
       cases us<;>cases vs<;>simp[gA] at h
       exact⟨_,_,rfl,rfl⟩
  obtain⟨a,_,e1,_⟩:=hus us hu
  have Rc:∀e∈es,∃b,e.key=.bool b:=fun e he=>by
   obtain⟨vs,h1,h2⟩:=h e he
   obtain⟨a1,b1,e2,e3⟩:=hus vs h2
   exact⟨b1,by rw[h1,kS,e3];rfl⟩
  have hx:mk (cX P k) us=.bool a:=by rw[kS,e1];rfl
  rw[hx];simp only[Instr.findKey,Sem.run_bind,aW hk,Result.andThen_ok,Ra es 0 Rc];rfl
 ·have kS:cX P k=true:=by simp[cX,hk]
  cases es with
  | nil =>
    simp[Instr.findKey,aW hk,Instr.findNow,yM]
  | cons m es =>
    have hn:Instr.findNow (.array n e) (mk (cX P k) us) (m :: es) 0=none:=by
     simp[Instr.findNow,Instr.sameNow]
    simp only[Instr.findKey,Sem.run_bind,aW hk,Result.andThen_ok,hn];exact Jj w hl (m :: es) 0 h
theorem My (w:World) {k:Nat} {l:List Bool} {us:List Value} (hl:eI P 20 k=some l) (hm:Di P l k=true) (hu:gA l us us) (em:Bool) :
 (Instr.checkKey em 10000 k (mk (cX P k) us)).run P w=.ok () w:=by
 have plain:∀(n t:Nat) (q:IntKind) (x:Value),P.underlying t=some (.int q)->(Instr.checkKey em (n+1) t x).run P w=.ok () w:=fun n t q x ht=>by
  simp[Instr.checkKey,aW ht]
 rcases Mx hm with ⟨q,hk⟩|hk|⟨n,e,q,i,hk,he,hi,hs,hn⟩
 ·exact plain 9999 k q _ hk
 ·have plainB:∀(n t:Nat) (x:Value),P.underlying t=some .bool->(Instr.checkKey em (n+1) t x).run P w=.ok () w:=fun n t x ht=>by
   simp[Instr.checkKey,aW ht]
  exact plainB 9999 k _ hk
 ·have kS:cX P k=true:=by simp[cX,hk]
  have hea:cX P e=false:=by simp[cX,he]
  have hlen:=(lJ _ _ _ hu).1
  rw[kS];simp only[mk,if_true];rw[show (10000:Nat)=9999+1 from rfl,Instr.checkKey];simp only[Sem.run_bind,aW hk,Result.andThen_ok];simp only[Std.Legacy.Range.forIn_eq_forIn_range',Std.Legacy.Range.size,Nat.sub_zero,Nat.add_one_sub_one,Nat.div_one];have each:∀j∈List.range' 0 n,j<us.length:=fun j hj=>by
   have:=List.mem_range'_1.1 hj
   omega
  generalize List.range' 0 n=is at each
  induction is with
  | nil=>simp
  | cons j is ih =>
    have hj:=each j (by simp)
    have p1:=Ik w he hi us j (fun _=>hs) (by omega)
    simp only[List.forIn_cons,Sem.run_bind,run_sizeOf w hi,hs,Nat.mul_one,Result.andThen_ok,p1,plain 9998 e q _ he,Sem.run_pure];exact ih fun y hy=>each y (by simp[hy])
theorem xA:∀(l:List Bool) (us:List Value),gA l us us->∀x∈us,∀n,Instr.sameBits n x x=true
 | [],[],_,x,hx,n=>by simp at hx
 | true :: l,.int k a :: us,h,x,hx,n=>by
   rcases List.mem_cons.1 hx with rfl|hx
   ·cases n<;>simp[Instr.sameBits]
   ·exact xA l us h.2 x hx n
 | false :: l,.bool a :: us,h,x,hx,n=>by
   rcases List.mem_cons.1 hx with rfl|hx
   ·cases n<;>simp[Instr.sameBits]
   ·exact xA l us h x hx n
theorem P4 (w:World) {agg:Bool} {l:List Bool} {us:List Value} (hu:gA l us us) (ha:agg=false->l.length=1):(Instr.keyThatStays (mk agg us) (mk agg us)).run P w=.ok (mk agg us) w:=by
 have hs:Instr.sameBits 10000 (mk agg us) (mk agg us)=true:=by
  cases agg with
  | true =>
    simp only[mk,if_true];show Instr.sameBits (9999+1) _ _=true
    simp only[Instr.sameBits,beq_self_eq_true,Bool.true_and];have Ol:∀x∈us,Instr.sameBits 9999 x x=true:=fun x hx=>xA l us hu x hx 9999
    clear hu
    induction us with
    | nil=>rfl
    | cons x us ih =>
      simp only[List.zip_cons_cons,List.all_cons,Bool.and_eq_true];exact⟨Ol x (by simp),ih fun y hy=>Ol y (by simp[hy])⟩
  | false =>
    obtain⟨a,rfl⟩:=List.length_eq_one_iff.1 ((lJ _ _ _ hu).1.trans (ha rfl))
    exact xA l [a] hu a (by simp) 10000
 simp[Instr.keyThatStays,hs]
theorem Rd {k:Nat} {x y:AV} {C:Ctx} {u v:Value} (h:Fp P k x y) (hu:cK C x u) (hv:cK C y v) :
 ∃l us vs,eI P 20 k=some l/\gA l us vs/\u=mk (cX P k) us/\v=mk (cX P k) vs/\(x=y↔u=v):=by
 unfold Fp at h;cases hl:eI P 20 k with
 | none=>simp[hl] at h
 | some l =>
   simp only[hl] at h;obtain⟨h1,h2,h3⟩:=h
   cases kS:cX P k with
   | true =>
     obtain⟨⟨cs,rfl⟩,ds,rfl⟩:=h2 kS
     obtain⟨us,vs,e1,e2,e3⟩:=Dl _ _ _ h1
     simp only[AV.cells] at e1 e2;subst e1;subst e2;have eu:=Bt hu
     have ev:=Bt hv
     refine⟨l,us,vs,rfl,e3,by rw[eu];rfl,by rw[ev];rfl, ?_⟩
     rw[eu,ev];simp[HI]
   | false =>
     obtain⟨⟨a,rfl⟩,b,rfl⟩:=h3 kS
     obtain⟨us,vs,e1,e2,e3⟩:=Dl _ _ _ h1
     have eu:=iI hu
     have ev:=iI hv
     subst eu;subst ev;have f1:us=[u]:=by
      cases us with
      | nil=>simp[AV.cells] at e1
      | cons c us=>simp[AV.cells] at e1;simp[e1.1,<- e1.2]
     have f2:vs=[v]:=by
      cases vs with
      | nil=>simp[AV.cells] at e2
      | cons c vs=>simp[AV.cells] at e2;simp[e2.1,<- e2.2]
     subst f1;subst f2;exact⟨l,_,_,rfl,e3,rfl,rfl,by simp⟩
theorem BW {k:Nat} {x:AV} {C:Ctx} {u:Value} {l:List Bool} {us:List Value} (hl:eI P 20 k=some l) (hu:cK C x u) (he:u=mk (cX P k) us) (hx:gA l us us):∀ {es:List (AV × AV)} {ms:List MapEntry},
 (∀p∈es,Fp P k x p.1)->Zc C es ms->aBX P k l us ms
 | [],[],_,_=>fun e h=>by simp at h
 | p :: es,m :: ms,hk,h=>by
   have ih:=BW hl hu he hx (es:=es) (ms:=ms) (fun q hq=>hk q (by simp[hq])) h.2.2
   intro e hem;rcases List.mem_cons.1 hem with rfl|hem
   ·obtain⟨l',us',vs,e1,e2,e3,e4,_⟩:=Rd (hk p (by simp)) hu h.1
    rw[hl] at e1;cases e1
    refine⟨vs,e4, ?_⟩
    have:us'=us:=by
     rw[he] at e3;have hlen1:=(lJ _ _ _ hx).1
     have hlen2:=(lJ _ _ _ e2).1
     cases kS:cX P k with
     | true=>rw[kS] at e3;simpa [mk] using e3.symm
     | false =>
       have h1:=oG 20 k l hl kS
       obtain⟨a,rfl⟩:=List.length_eq_one_iff.1 (hlen1.trans h1)
       obtain⟨b,rfl⟩:=List.length_eq_one_iff.1 (hlen2.trans h1)
       rw[kS] at e3;simpa [mk] using e3.symm
    rw[<- this];exact e2
   ·exact ih e hem
 | [],_ :: _,_,h=>h.elim
 | _ :: _,[],_,h=>h.elim
theorem IY {k:Nat} {x:AV} {C:Ctx} {u:Value} (hu:cK C x u):∀ {es:List (AV × AV)} {ms:List MapEntry} (i:Nat),(∀p∈es,Fp P k x p.1)->Zc C es ms ->
 (X7 es x=none/\yM u ms i=none)\/∃v y j,X7 es x=some v/\yM u ms i=some (i+j,y)/\cK C v y/\j<ms.length
 | [],[],i,_,_=>.inl ⟨rfl,rfl⟩
 | p :: es,m :: ms,i,hk,h=>by
   obtain⟨l',us',vs,e1,e2,e3,e4,e5⟩:=Rd (hk p (by simp)) hu h.1
   simp only[X7,yM];by_cases hq:x=p.1
   ·rw[if_pos hq.symm,if_pos (e5.1 hq)];exact .inr ⟨_,_,0,rfl,rfl,h.2.1,by simp⟩
   ·rw[if_neg (Ne.symm hq),if_neg (fun h'=>hq (e5.2 h'))]
    rcases IY hu (es:=es) (ms:=ms) (i+1) (fun q hq=>hk q (by simp[hq])) h.2.2 with ⟨h1,h2⟩|⟨v,y,j,h1,h2,h3,h4⟩
    ·exact .inl ⟨h1,h2⟩
    ·exact .inr ⟨v,y,j+1,h1,by rw[h2];congr 2;omega,h3,by simp;omega⟩
 | [],_ :: _,_,_,h=>h.elim
 | _ :: _,[],_,_,h=>h.elim
theorem IZ {k:Nat} {x z:AV} {C:Ctx} {u y:Value} (hu:cK C x u) (hz:cK C z y):∀ {es:List (AV × AV)} {ms:List MapEntry} (i:Nat),(∀p∈es,Fp P k x p.1)->Zc C es ms ->
 (yM u ms i=none/\∀c,Zc C (X8 es x z) (ms++[{ key:=u,val:=y,born:=c }])) \/
 ∃v j,yM u ms i=some (i+j,v)/\(∃m,ms[j]? = some m/\m.key=u)/\Zc C (X8 es x z) (ms.modify j fun e=>{ e with key:=u,val:=y })
 | [],[],i,_,_=>.inl ⟨rfl,fun c=>⟨hu,hz,trivial⟩⟩
 | p :: es,m :: ms,i,hk,h=>by
   obtain⟨l',us',vs,e1,e2,e3,e4,e5⟩:=Rd (hk p (by simp)) hu h.1
   simp only[X8,yM];by_cases hq:x=p.1
   ·rw[if_pos hq.symm,if_pos (e5.1 hq)];exact .inr ⟨_,0,rfl,⟨m,rfl,(e5.1 hq).symm⟩,by simp[List.modify];exact⟨hu,hz,h.2.2⟩⟩
   ·rw[if_neg (Ne.symm hq),if_neg (fun h'=>hq (e5.2 h'))]
    rcases IZ hu hz (es:=es) (ms:=ms) (i+1) (fun q hq=>hk q (by simp[hq])) h.2.2 with ⟨h1,h2⟩|⟨v,j,h1,h2,h3⟩
    ·exact .inl ⟨h1,fun c=>⟨h.1,h.2.1,h2 c⟩⟩
    ·exact .inr ⟨v,j+1,by rw[h1];congr 2;omega,by simpa using h2,by simp[List.modify_succ_cons];exact⟨h.1,h.2.1,h3⟩⟩
 | [],_ :: _,_,_,h=>h.elim
 | _ :: _,[],_,_,h=>h.elim
theorem Re {T k:Nat} {z:AV} (h:Yc P T=some (k,z)):∃e l zv,P.underlying T=some (.map k e)/\eI P 20 k=some l/\Di P l k=true /\
 (∀w,(zeroValue e).run P w=.ok zv w)/\∀C:Ctx,cK C z zv:=by
 unfold Yc at h;split at h
 ·rename_i k' e hT
  split at h
  ·rename_i l z' hl hz
   split at h
   ·rename_i hm;simp only[Option.some.injEq,Prod.mk.injEq] at h;obtain⟨rfl,rfl⟩:=h
    unfold aGw at hz;split at hz
    ·rename_i i hi;split at hz
     ·rename_i cs SA;split at hz
      ·rename_i Ol;simp only[Option.some.injEq] at hz;subst hz;refine⟨e,l,_,hT,hl,hm,fun w=>Cs w hi SA,fun C=>?_⟩
       have hc:=fQ.vs C cs.toList (List.all_eq_true.1 Ol)
       exact .agg _ _ (by simp) (fun j x y hx hy=>hc.rel j x y hx (by simpa using hy)) (fun j y hy=>hc.one j y (by simpa using hy))
      ·cases hz
     ·rename_i y hy SA;split at hz
      ·simp only[Option.some.injEq] at hz;subst hz;exact⟨e,l,_,hT,hl,hm,fun w=>Cs w hi SA,fun C=>.v _⟩
      ·cases hz
     ·cases hz
    ·cases hz
   ·cases h
  ·cases h
 ·cases h
end
section
variable {P:Program} {h0:Nat->Obj->Prop} {w0:World} {F:Hx} {nt:Nat} {ρ:Nat->Nat->Value} {st:St} {a:Act} {w:World}
theorem ZI (S:kM F h0 w0 nt ρ st a w) {T:Nat} {m x z:AV} {ok:Bool} {mv xv:Value} (h:Vo P st T m x ok=some z) (hm:cK (ctx h0 w0 ρ st w) m mv) (hx:cK (ctx h0 w0 ρ st w) x xv) :
 ∃r,(Instr.lookup T mv xv ok).run P w=.ok r w/\cK (ctx h0 w0 ρ st w) z r:=by
 unfold Vo at h;split at h
 ·rename_i s g;split at h
  ·rename_i es k zd he hi;split at h
   ·rename_i hk;obtain⟨e,l,zv,hT,hl,hmk,hz,hzr⟩:=Re hi
    obtain⟨_,_,b,arr,clock,jP,_,hh,hml⟩:=S.rT s g _ he
    obtain⟨l',us,vs,e1,e2,e3,e4,_⟩:=Rd hk.1 hx hx
    rw[hl] at e1;cases e1
    have F7:vs=us:=by
     rw[e3] at e4;have hlen:=lJ _ _ _ e2
     cases kS:cX P k with
     | true=>rw[kS] at e4;simpa [mk] using e4.symm
     | false =>
       have h1:=oG 20 k l hl kS
       obtain⟨p,rfl⟩:=List.length_eq_one_iff.1 (hlen.1.trans h1)
       obtain⟨q,rfl⟩:=List.length_eq_one_iff.1 (hlen.2.trans h1)
       rw[kS] at e4;simpa [mk] using e4.symm
    subst F7;have Rc:=BW hl hx e3 e2 hk.2 hml
    cases hm with
    | mp _ _ hg ho =>
      show ∃r,(Instr.lookup T (ρ s g) xv ok).run P w=.ok r w/\_
      rw[jP,e3];have hck:=My w hl hmk e2 arr.isEmpty
      have hfk:=Rb w hl hmk e2 Rc
      rcases IY hx 0 hk.2 hml with ⟨h1,h2⟩|⟨v,y,j,h1,h2,h3,_⟩
      ·rw[h1] at h;simp only[Option.some.injEq] at h;subst h;rw[e3] at h2;rw[h2] at hfk;refine⟨if ok=true then .tuple #[zv,.bool false] else zv,by
        simp[Instr.lookup,aW hT,MapKept.run_getObj_map hh,hck,hfk,hz w], ?_⟩
       cases ok
       ·exact hzr _
       ·exact .dX _ _ rfl fun i x y hx hy=>by
         match i with
         | 0=>simp at hx hy;subst hx;subst hy;exact hzr _
         | 1=>simp at hx hy;subst hx;subst hy;exact .v _
         | i+2=>simp at hx
      ·rw[h1] at h;simp only[Option.some.injEq] at h;subst h;rw[e3] at h2;rw[h2] at hfk;refine⟨if ok=true then .tuple #[y,.bool true] else y,by
        simp[Instr.lookup,aW hT,MapKept.run_getObj_map hh,hck,hfk], ?_⟩
       cases ok
       ·exact h3
       ·exact .dX _ _ rfl fun i x y hx hy=>by
         match i with
         | 0=>simp at hx hy;subst hx;subst hy;exact h3
         | 1=>simp at hx hy;subst hx;subst hy;exact .v _
         | i+2=>simp at hx
   ·cases h
  ·cases h
 ·cases h
theorem LM (S:kM F h0 w0 nt ρ st a w) {T s g:Nat} {m x y:AV} {e:jC} {mv xv yv:Value} (h:uG P st T m x y=some (s,g,e))
 (hm:cK (ctx h0 w0 ρ st w) m mv) (hx:cK (ctx h0 w0 ρ st w) x xv) (hy:cK (ctx h0 w0 ρ st w) y yv) :
 ∃w',(Instr.mapUpdate T mv xv yv).run P w=.ok () w'/\kM F h0 w0 nt ρ (st.gT s g (some e)) a w':=by
 unfold uG at h;split at h
 ·rename_i s' g'
  split at h
  ·rename_i es k zd he hi;split at h
   ·rename_i hk;obtain⟨hk,xV⟩:=hk
    simp only[Option.some.injEq,Prod.mk.injEq] at h;obtain⟨rfl,rfl,rfl⟩:=h
    obtain⟨e,l,zv,hT,hl,hmk,hz,hzr⟩:=Re hi
    obtain⟨_,_,b,arr,clock,jP,uU,hh,hml⟩:=S.rT s' g' _ he
    obtain⟨l',us,vs,e1,e2,e3,e4,_⟩:=Rd hk.1 hx hx
    rw[hl] at e1;cases e1
    have F7:vs=us:=by
     rw[e3] at e4;have hlen:=lJ _ _ _ e2
     cases kS:cX P k with
     | true=>rw[kS] at e4;simpa [mk] using e4.symm
     | false =>
       have h1:=oG 20 k l hl kS
       obtain⟨p,rfl⟩:=List.length_eq_one_iff.1 (hlen.1.trans h1)
       obtain⟨q,rfl⟩:=List.length_eq_one_iff.1 (hlen.2.trans h1)
       rw[kS] at e4;simpa [mk] using e4.symm
    subst F7;have Rc:=BW hl hx e3 e2 hk.2 hml
    clear e4
    subst e3;have nA:cM (ρ s' g')=some b:=by rw[jP];rfl
    have grown:∀o,w.grownBy { w with heap:=w.heap.setIfInBounds b o } (some b):=fun o=>⟨rfl,rfl,rfl,by simp,fun k _ hk=>by
     have gI:b≠k:=fun e=>hk (by rw[e])
     simp[gI]⟩
    cases hm with
    | mp _ _ hg ho =>
      show ∃w',(Instr.mapUpdate T (ρ s' g') _ yv).run P w=.ok () w'/\_
      have hck:=My w hl hmk e2 false
      have hfk:=Rb w hl hmk e2 Rc
      have aZ:b<w.heap.size:=(Array.getElem?_eq_some_iff.1 hh).1
      rcases IZ (z:=y) hx hy 0 hk.2 hml with ⟨h1,h2⟩|⟨v,j,h1,⟨m0,hm0,hmk0⟩,h3⟩
      ·rw[h1] at hfk;refine⟨_,by
        rw[jP];simp only[Instr.mapUpdate,Sem.run_bind,aW hT,MapKept.run_getObj_map hh,Result.andThen_ok,hck,hfk,MapKept.run_setObj_map _ hh];rfl,S.store he nA (grown _) fun C kk=>?_⟩
       refine⟨b,arr.push { key:=mk (cX P k) vs,val:=yv,born:=clock },clock+1,jP,uU,by simp[aZ], ?_⟩
       have:=(h2 clock).le kk
       simpa using this
      ·rw[h1] at hfk;have xV:=P4 (P:=P) w (agg:=cX P k) e2 (oG 20 k l hl)
       have hm0':arr[j]? = some m0:=by simpa using hm0
       have hkey:((arr[0+j]?).map (·.key)).getD (mk (cX P k) vs)=mk (cX P k) vs:=by
        rw[Nat.zero_add,hm0'];simp[hmk0]
       refine⟨_,by
        rw[jP];simp only[Instr.mapUpdate,Sem.run_bind,aW hT,MapKept.run_getObj_map hh,Result.andThen_ok,hck,hfk,hkey,xV,MapKept.run_setObj_map _ hh];rfl,S.store he nA (grown _) fun C kk=>?_⟩
       refine⟨b,arr.modify (0+j) fun e=>{ e with key:=mk (cX P k) vs,val:=yv },clock,jP,uU,by simp[aZ], ?_⟩
       have:=h3.le kk
       simpa [Array.toList_modify] using this
   ·cases h
  ·cases h
 ·cases h
end
end Go.Ab
end
section
namespace Go.Ab
open Classical
section
variable {P:Program} {h0:Nat->Obj->Prop} {w0:World} {F:Hx} {nt:Nat} {ρ:Nat->Nat->Value} {st:St} {a:Act} {w:World}
theorem SE (S:kM F h0 w0 nt ρ st a w) {T:Nat} {x z:AV} {lo hi:Option Operand} {u:Value} (h:dA P st T x lo hi=some z) (hu:cK (ctx h0 w0 ρ st w) x u) :
 ∃r,(Instr.sliceAt T u (lo.map a.eval) (hi.map a.eval) none).run P w=.ok r w/\cK (ctx h0 w0 ρ st w) z r:=by
 unfold dA at h;cases hs:dI P T with
 | none =>
   simp only[hs] at h;split at h
   ·rename_i n sz s g o ha;obtain⟨e,ei,hT,hi,rfl,gI⟩:=Pv ha
    cases he:st.heap s g with
    | none=>simp[he] at h
    | some en =>
      cases en with
      | cells es =>
        simp only[he,Option.some.injEq] at h;subst h;obtain⟨_,_,b1,arr,T1,jP,_⟩:=S.rT s g _ he
        cases hu with
        | ptr _ _ _ b hg hb =>
          refine⟨.slice (some ⟨b,o,none⟩) n n, ?_,.vw s g o n b n hg hb (Nat.le_refl _) (fun ho p n0 c0 hc=>by
           have h2:ρ s g=.slice p n0 c0:=hc
           rw[jP] at h2;cases h2)⟩
          simp[Instr.sliceAt,aW hT,Instr.sureAddr,Instr.sliceBounds,run_sizeOf w hi,lB]
      | _=>simp[he] at h
   ·cases h
 | some t =>
   obtain⟨e,sz,by_⟩:=t
   simp only[hs] at h;obtain⟨ei,ez,hT,Da,Yg,rfl,Xa,rfl,Cu⟩:=kD hs
   have hiv:∀(o:Option Operand) (n:Int) (k:IntKind) (i:Int),(match o with|some h=>st.ev h|none=>AV.v (.int .i64 n))=.v (.int k i) ->
    (match o with|some h=>a.eval h|none=>Value.int .i64 n)=.int k i:=fun o n k i ho=>by
    cases o with
    | none=>simp only at ho ⊢;cases ho;rfl
    | some p =>
      simp only at ho ⊢
      have:=S.ev p
      rw[ho] at this;exact iI this
   have qL:∀(p:Option Addr) (n cap:Nat) (kh kl:IntKind) (H L:Int),n<=cap->(match hi with|some h=>a.eval h|none=>Value.int .i64 n)=.int kh H->(match lo with|some l=>a.eval l|none=>Value.int .i64 0)=.int kl L ->
    0<=L->L<=H->H<=n ->
    (Instr.sliceAt T (.slice p n cap) (lo.map a.eval) (hi.map a.eval) none).run P w=.ok (.slice (if cap=L.toNat then p else p.map (·.add (L.toNat * ei.size))) (H.toNat-L.toNat) (cap-L.toNat)) w:=by
    intro p n cap kh kl H L mZ hh hl l0 l1 l2;have b1:H<=(cap:Int):=by omega
    have b2:L<=((H.toNat:Nat):Int):=by omega
    have b3:0<=H:=by omega
    have b6:max H 0=H:=by omega
    cases hi with
    | none =>
      simp only[Value.int.injEq] at hh;obtain⟨rfl,rfl⟩:=hh
      cases lo with
      | none =>
        simp only[Value.int.injEq] at hl;obtain⟨rfl,rfl⟩:=hl
        simp[Instr.sliceAt,Instr.slice,Instr.sliceBounds,aW hT,run_sizeOf w Da]
      | some l =>
        simp only at hl
        simp[Instr.sliceAt,Instr.slice,Instr.sliceBounds,Instr.sliceBound,asIntOf,aW hT,run_sizeOf w Da,hl,l0,l1]
    | some h =>
      simp only at hh
      cases lo with
      | none =>
        simp only[Value.int.injEq] at hl;obtain⟨rfl,rfl⟩:=hl
        simp[Instr.sliceAt,Instr.slice,Instr.sliceBounds,Instr.sliceBound,asIntOf,aW hT,run_sizeOf w Da,hh,b3,b1]
      | some l =>
        simp only at hl
        simp[Instr.sliceAt,Instr.slice,Instr.sliceBounds,Instr.sliceBound,asIntOf,aW hT,run_sizeOf w Da,hh,hl,l0,b3,b1,b6,l1]
   cases x with
   | sl n cs =>
     simp only at h
     split at h
     ·rename_i kh H kl L e1 e2;split at h
      ·rename_i hc;obtain⟨c1,c2,c3,c4⟩:=hc
       simp only[Option.some.injEq] at h;subst h;have e1':=hiv hi n kh H e1
       have e2':=hiv lo 0 kl L e2
       have hHL:(H-L).toNat=H.toNat-L.toNat:=by omega
       cases hu with
       | JQ n cap p mZ =>
         refine⟨_,qL p n cap kh kl H L mZ e1' e2' c1 c2 c3, ?_⟩
         rw[hHL];simp only[List.drop_nil,List.take_nil];exact .JQ _ _ _ (by omega)
       | sl n cs b off cap arr T' fr mZ hb hle hr h1 =>
         refine⟨_,qL _ n cap kh kl H L mZ e1' e2' c1 c2 c3, ?_⟩
         rw[hHL];by_cases hm:cap=L.toNat
         ·have hz:H.toNat-L.toNat=0:=by omega
          rw[if_pos hm,hz];simp only[Nat.zero_mul,List.take_zero];exact .JQ _ _ _ (by omega)
         ·rw[if_neg hm];simp only[Option.map_some,lB];have hbound:L.toNat * ei.size+(H.toNat-L.toNat) * ei.size<=cs.length:=by
           rw[c4,<- Nat.add_mul];exact Nat.mul_le_mul_right _ (by omega)
          refine .sl _ _ b (off+L.toNat * ei.size) _ arr T' fr (by omega) hb (by simp;omega) (fun i x y hx hy=>?_) (fun i y Dm hy=>?_)
          ·rw[List.getElem?_take] at hx;split at hx
           ·rw[List.getElem?_drop] at hx;exact hr _ x y hx (by rw[<- Nat.add_assoc];exact hy)
           ·cases hx
          ·simp only[List.length_take,List.length_drop] at Dm
           exact h1 (L.toNat * ei.size+i) y (by omega) (by rw[<- Nat.add_assoc];exact hy)
      ·cases h
     ·cases h
   | v xv =>
     split at h
     ·rename_i heq;cases heq
     ·rename_i heq;cases heq
      split at h
      ·rename_i kh H kl L e1 e2;split at h
       ·rename_i hc;obtain⟨rfl,rfl⟩:=hc
        simp only[Option.some.injEq] at h;subst h;have:=iI hu
        subst this;have e1':=hiv hi 0 kh 0 e1
        have e2':=hiv lo 0 kl 0 e2
        refine⟨_,qL none 0 0 kh kl 0 0 (Nat.le_refl _) e1' e2' (by omega) (by omega) (by omega), ?_⟩
        simp
        exact .v _
       ·cases h
      ·cases h
     ·rename_i heq;cases heq
     ·rename_i heq;cases heq
     ·cases h
   | own s g =>
     simp only at h
     cases he:st.heap s g with
     | none=>simp[he] at h
     | some en =>
       cases en with
       | row e' rS n es =>
         simp only[he] at h;split at h
         ·rename_i kh H kl L e1 e2;split at h
          ·rename_i hc;obtain⟨c1,c2,c3⟩:=hc
           have e1':=hiv hi n kh H e1
           have e2':=hiv lo 0 kl L e2
           have hHL:(H-L).toNat=H.toNat-L.toNat:=by omega
           obtain⟨aZ,_,xs,ho,Bl⟩:=S.rT s g _ he
           cases hu with
           | own _ _ hg h1 =>
             show ∃r,(Instr.sliceAt T (ρ s g) (lo.map a.eval) (hi.map a.eval) none).run P w=.ok r w/\_
             rcases ho.2 with ⟨p,jP,hn⟩|⟨b',cap,cur,jP,_,hh,We,_,_,ht,oV⟩
             ·rw[jP];subst hn;have hLH:L=H:=by omega
              rw[if_pos ⟨hLH,by omega⟩] at h
              simp only[Option.some.injEq] at h;subst h;have hz:H.toNat-L.toNat=0:=by omega
              refine⟨_,qL p 0 0 kh kl H L (Nat.le_refl _) e1' e2' c1 c2 c3, ?_⟩
              rw[hz];exact .JQ _ _ _ (by omega)
             ·rw[jP];refine⟨_,qL _ n cap kh kl H L We e1' e2' c1 c2 c3, ?_⟩
              split at h
              ·rename_i hLH;simp only[Option.some.injEq] at h;subst h;have hz:H.toNat-L.toNat=0:=by omega
               rw[hz];exact .JQ _ _ _ (by omega)
              ·rename_i hLH;simp only[Option.some.injEq] at h;subst h;rw[if_neg (by omega),hHL]
               simp only[Option.map_some,lB,Nat.zero_add];exact .vw s g _ _ b' _ hg (by show cM (ρ s g)=_;rw[jP,gV oV]) (by omega) (fun hz p n0 c0 hc=>by
                have h3:L.toNat=0:=(Nat.mul_eq_zero.1 hz).resolve_right (by omega)
                have h2:ρ s g=.slice p n0 c0:=hc
                rw[jP] at h2;simp only[Value.slice.injEq] at h2;omega)
          ·cases h
         ·cases h
       | _=>simp[he] at h
   | vw s g o k =>
     cases o with
     | succ o=>simp at h
     | zero =>
     simp only at h
     split at h
     ·rename_i e' rS n es ho' Hz he
      split at h
      ·rename_i kh H kl L e1 e2;split at h
       ·rename_i hc;obtain⟨c1,c2,c3⟩:=hc
        simp only[Option.some.injEq] at h;subst h;obtain⟨aZ,_,xs,ho,Bl⟩:=S.rT s g _ he
        cases hu with
        | vw _ _ _ _ b cap hg hb mZ zZ =>
          have nA:cM (ρ s g)=some b:=hb
          rcases ho.2 with ⟨p,jP,hn⟩|⟨b',ES,cur,jP,_,hh,We,_,_,ht,oV⟩
          ·rw[jP,oE] at nA;cases nA
          ·have vI:b'=b:=by rw[jP,gV oV] at nA;simpa using nA
           subst vI;have hcc:cap=ES:=zZ rfl _ _ _ jP
           subst hcc;have f1:a.eval ho'=.int kh H:=by
            have:=S.ev ho'
            rw[e1] at this;exact iI this
           have f2:a.eval Hz=.int kl L:=by
            have:=S.ev Hz
            rw[e2] at this;exact iI this
           have b1:H<=(cap:Int):=by omega
           have b2:L<=((H.toNat:Nat):Int):=by omega
           have b3:0<=H:=by omega
           have b6:max H 0=H:=by omega
           have b7:¬cap=L.toNat:=by omega
           refine⟨.slice (some ⟨b',L.toNat * ei.size,none⟩) (H.toNat-L.toNat) (cap-L.toNat), ?_, ?_⟩
           ·simp[Instr.sliceAt,Instr.slice,Instr.sliceBounds,Instr.sliceBound,asIntOf,aW hT,run_sizeOf w Da,f1,f2,c1,b3,b1,b6,b2,b7,lB,show L<=H by omega]
           ·rw[show (H-L).toNat=H.toNat-L.toNat by omega]
            exact .vw s g _ _ b' _ hg hb (by omega) (fun hz p n0 c0 hc=>by
             have h3:L.toNat=0:=(Nat.mul_eq_zero.1 hz).resolve_right (by omega)
             have h2:ρ s g=.slice p n0 c0:=hc
             rw[jP] at h2;simp only[Value.slice.injEq] at h2;omega)
       ·cases h
      ·cases h
     ·cases h
   | _=>first|(simp at h;done)|(cases h;done)
theorem LN (S:kM F h0 w0 nt ρ st a w) {T:Nat} {x z:AV} {lo:Option Operand} {hi mx:Operand} {u:Value} (h:Bq P st T x lo hi mx=some z) (hu:cK (ctx h0 w0 ρ st w) x u) :
 ∃r,(Instr.sliceAt T u (lo.map a.eval) (some (a.eval hi)) (some (a.eval mx))).run P w=.ok r w/\cK (ctx h0 w0 ρ st w) z r:=by
 unfold Bq at h;cases hs:dI P T with
 | none=>simp[hs] at h
 | some t =>
   obtain⟨e,sz,by_⟩:=t
   simp only[hs] at h;obtain⟨ei,ez,hT,Da,Yg,rfl,Xa,rfl,Cu⟩:=kD hs
   have pX:∀(o:Operand) (k:IntKind) (i:Int),st.ev o=.v (.int k i)->a.eval o=.int k i:=fun o k i ho=>by
    have:=S.ev o
    rw[ho] at this;exact iI this
   split at h
   ·rename_i kh H km M kl L e1 e2 e3;have f1:=pX _ _ _ e1
    have f2:=pX _ _ _ e2
    have qL:∀(p:Option Addr) (n cap:Nat),n<=cap->0<=L->L<=H->H=M->H<=n ->
     (Instr.sliceAt T (.slice p n cap) (lo.map a.eval) (some (a.eval hi)) (some (a.eval mx))).run P w=.ok (.slice (if H.toNat=L.toNat then p else p.map (·.add (L.toNat * ei.size))) (H.toNat-L.toNat) (H.toNat-L.toNat)) w:=by
     intro p n cap mZ l0 l1 l2 l3;subst l2;have b1:H<=(cap:Int):=by omega
     have b2:L<=((H.toNat:Nat):Int):=by omega
     have b3:0<=H:=by omega
     have b4:H<=((H.toNat:Nat):Int):=by omega
     have b6:max H 0=H:=by omega
     cases lo with
     | none =>
       simp only[AV.v.injEq,Value.int.injEq] at e3;obtain⟨rfl,rfl⟩:=e3
       simp[Instr.sliceAt,Instr.slice,Instr.sliceBounds,Instr.sliceBound,asIntOf,aW hT,run_sizeOf w Da,f1,f2,b3,b1,b4,b6]
     | some l =>
       simp only at e3
       have f3:=pX _ _ _ e3
       simp[Instr.sliceAt,Instr.slice,Instr.sliceBounds,Instr.sliceBound,asIntOf,aW hT,run_sizeOf w Da,f1,f2,f3,l0,l1,b3,b1,b2,b4,b6]
    split at h
    ·rename_i n cs;split at h
     ·rename_i hc;obtain⟨c1,c2,c3,c4,c5⟩:=hc
      simp only[Option.some.injEq] at h;subst h;have hHL:(H-L).toNat=H.toNat-L.toNat:=by omega
      cases hu with
      | JQ n cap p mZ =>
        refine⟨_,qL p n cap mZ c1 c2 c3 c4, ?_⟩
        rw[hHL];simp only[List.drop_nil,List.take_nil];exact .cl0 _ _
      | sl n cs b off cap arr T' fr mZ hb hle hr h1 =>
        refine⟨_,qL _ n cap mZ c1 c2 c3 c4, ?_⟩
        rw[hHL];by_cases hm:H.toNat=L.toNat
        ·have hz:H.toNat-L.toNat=0:=by omega
         rw[if_pos hm,hz];simp only[Nat.zero_mul,List.take_zero];exact .cl0 _ _
        ·rw[if_neg hm];simp only[Option.map_some,lB];have hbound:L.toNat * ei.size+(H.toNat-L.toNat) * ei.size<=cs.length:=by
          rw[c5,<- Nat.add_mul];exact Nat.mul_le_mul_right _ (by omega)
         refine .cl _ _ b (off+L.toNat * ei.size) arr T' fr hb (by simp;omega) (fun i x y hx hy=>?_) (fun i y Dm hy=>?_)
         ·rw[List.getElem?_take] at hx;split at hx
          ·rw[List.getElem?_drop] at hx;exact hr _ x y hx (by rw[<- Nat.add_assoc];exact hy)
          ·cases hx
         ·simp only[List.length_take,List.length_drop] at Dm
          exact h1 (L.toNat * ei.size+i) y (by omega) (by rw[<- Nat.add_assoc];exact hy)
     ·cases h
    ·split at h
     ·rename_i hc;obtain⟨c1,c2,c3⟩:=hc
      simp only[Option.some.injEq] at h;subst h;have:=iI hu
      subst this;refine⟨_,qL none 0 0 (Nat.le_refl _) (by omega) (by omega) (by omega) (by omega), ?_⟩
      subst c2;simp
      exact .v _
     ·cases h
    ·rename_i s g;cases he:st.heap s g with
     | none=>simp[he] at h
     | some en =>
       cases en with
       | row e' rS n es =>
         simp only[he] at h;split at h
         ·rename_i hc;obtain⟨c1,c2,c3,c4⟩:=hc
          simp only[Option.some.injEq] at h;subst h;obtain⟨aZ,_,xs,ho,Bl⟩:=S.rT s g _ he
          have hrun3:∀(p:Option Addr) (cap:Nat),n<=cap->∃q,(Instr.sliceAt T (.slice p n cap) (lo.map a.eval) (some (a.eval hi)) (some (a.eval mx))).run P w=.ok (.slice q (H.toNat-L.toNat) (M.toNat-L.toNat)) w:=by
           intro p cap mZ;have b1:M<=(cap:Int):=by omega
           have b2:L<=((H.toNat:Nat):Int):=by omega
           have b3:0<=H:=by omega
           have b4:H<=((M.toNat:Nat):Int):=by omega
           have b5:0<=M:=by omega
           have b6:max M 0=M:=by omega
           have b7:max H 0=H:=by omega
           cases lo with
           | none =>
             simp only[AV.v.injEq,Value.int.injEq] at e3;obtain⟨rfl,rfl⟩:=e3
             exact⟨_,by simp[Instr.sliceAt,Instr.slice,Instr.sliceBounds,Instr.sliceBound,asIntOf,aW hT,run_sizeOf w Da,f1,f2,b3,b1,b4,b5,b6,b7,c3]<;>rfl⟩
           | some l =>
             simp only at e3
             have f3:=pX _ _ _ e3
             exact⟨_,by simp[Instr.sliceAt,Instr.slice,Instr.sliceBounds,Instr.sliceBound,asIntOf,aW hT,run_sizeOf w Da,f1,f2,f3,c1,c2,c3,b3,b1,b2,b4,b5,b6,b7]<;>rfl⟩
          cases hu with
          | own _ _ hg h1 =>
            show ∃r,(Instr.sliceAt T (ρ s g) _ _ _).run P w=.ok r w/\_
            have WK:∃p cap,ρ s g=.slice p n cap/\n<=cap:=by
             rcases ho.2 with ⟨p,jP,hn⟩|⟨b',cap,cur,jP,_,hh,We,_⟩
             ·exact⟨p,0,by rw[jP,hn],by omega⟩
             ·exact⟨_,cap,jP,We⟩
            obtain⟨p,cap,jP,We⟩:=WK
            rw[jP];obtain⟨q,hq⟩:=hrun3 p cap We
            exact⟨_,hq,by rw[show (H-L).toNat=H.toNat-L.toNat by omega];exact .JQ _ _ _ (by omega)⟩
         ·cases h
       | _=>simp[he] at h
    ·cases h
   ·cases h
theorem aBZ {C:Ctx} {s g off:Nat} {v:Value} (h:cK C (.ptr s g off) v):∃b off,v=.pointer (some ⟨b,off,none⟩):=by
 cases h;exact⟨_,_,rfl⟩
theorem aE5 {C:Ctx} {cs:List AV} {o:Nat} {v:Value} (h:cK C (.ip cs o) v):∃b off,v=.pointer (some ⟨b,off,none⟩):=by
 cases h;exact⟨_,_,rfl⟩
theorem aB0 {C:Ctx} {vs:List AV} {v:Value} (h:cK C (.dX vs) v):∃ar,v=.tuple ar/\vs.length=ar.size/\∀(i:Nat) (x:AV) (y:Value),vs[i]? = some x->ar[i]? = some y->cK C x y:=by
 cases h with
 | dX cs a hl hr=>exact⟨a,rfl,hl,hr⟩
theorem SF (S:kM F h0 w0 nt ρ st a w) {o:Oper} {x:AV} (h:iP P st o.op=some x) :
 ∃v,(execOp a.eval o).run P w=.ok (.value v) w/\cK (ctx h0 w0 ρ st w) x v:=by
 cases pX:o.op with
 | move y=>rw[pX] at h;simp[iP] at h;subst h;exact⟨_,by simp[execOp,pX],S.ev y⟩
 | assign y=>rw[pX] at h;simp[iP] at h;subst h;exact⟨_,by simp[execOp,pX],S.ev y⟩
 | pick c y z =>
   rw[pX] at h;simp only[iP] at h;split at h
   ·rename_i t hc;simp only[Option.some.injEq] at h;subst h;have:=S.ev c
    rw[hc] at this;have:=iI this
    refine⟨if t=true then a.eval y else a.eval z,by simp[execOp,pX,this,asBool], ?_⟩
    cases t
    ·exact S.ev z
    ·exact S.ev y
   ·cases h
 | binOp op T y z yT =>
   rw[pX] at h;simp only[iP] at h;obtain⟨r,hr,eM⟩:=WR (w:=w) y z h (S.ev y) (S.ev z)
   exact⟨r,by simp only[execOp,pX];rw[dF hr];rfl,eM⟩
 | unOp op T y =>
   rw[pX] at h;simp only[iP] at h;obtain⟨r,hr,eM⟩:=I3 (P:=P) (w:=w) h (S.ev y)
   exact⟨r,by simp only[execOp,pX];rw[dF hr];rfl,eM⟩
 | convert src dst y =>
   rw[pX] at h;simp only[iP] at h;split at h
   ·rename_i k' n k ks hy hk hks
    simp only[Option.some.injEq] at h;subst h;have:=S.ev y
    rw[hy] at this;have hv:=iI this
    have hu:∀ {t:Nat} {k:IntKind},intKind P t=some k->P.underlying t=some (.int k):=fun {t k} hk=>by
     unfold intKind at hk;split at hk
     ·rename_i hu;cases hk;exact hu
     ·cases hk
    refine⟨_, ?_,.v _⟩
    simp[execOp,pX,hv,convert,aW (hu hk),aW (hu hks),Conv.intToInt]
   ·cases h
 | nilCheck y =>
   rw[pX] at h;simp only[iP] at h;split at h
   ·rename_i s g off hy;simp only[Option.some.injEq] at h;subst h;have hr:=S.ev y
    rw[hy] at hr;obtain⟨b,off',hv⟩:=aBZ hr
    exact⟨a.eval y,by simp[execOp,pX,hv],hr⟩
   ·rename_i cs o hy;simp only[Option.some.injEq] at h;subst h;have hr:=S.ev y
    rw[hy] at hr;obtain⟨b,off',hv⟩:=aE5 hr
    exact⟨a.eval y,by simp[execOp,pX,hv],hr⟩
   ·cases h
 | fieldAddr T y f =>
   rw[pX] at h;simp only[iP] at h;split at h
   ·rename_i k hf;obtain⟨r,hr,eM⟩:=Wy (w:=w) hf h (S.ev y)
    exact⟨r,by simp only[execOp,pX];rw[dF hr];rfl,eM⟩
   ·cases h
 | field T y f =>
   rw[pX] at h;simp only[iP] at h;unfold Nn at h;split at h
   ·rename_i cs hy;have hr:=S.ev y
    rw[hy] at hr;obtain⟨u,hu⟩:∃u,a.eval y=u:=⟨_,rfl⟩
    rw[hu] at hr;cases hr with
    | agg _ ar hl eM h1 =>
      have key:∀off b k,fieldInfo P T f=some (off,b,k)->∃fs fd i d,P.underlying T=some (.struct fs)/\fs[f]? = some fd/\fd.offset=off/\P.info? fd.type=some i/\P.underlying fd.type=some d/\cX P fd.type=b/\i.size=k/\(b=true\/k=1):=fun off b k hf=>by
       unfold fieldInfo at hf;split at hf
       ·rename_i fs hT;split at hf
        ·rename_i fd hfd;split at hf
         ·rename_i b' k' hld
          split at hf
          ·rename_i hc;simp only[Option.some.injEq,Prod.mk.injEq] at hf;obtain⟨rfl,rfl,rfl⟩:=hf
           obtain⟨i,d,hi,hd,kS,hk⟩:=Bu hld
           exact⟨fs,fd,i,d,hT,hfd,rfl,hi,hd,kS,hk,hc⟩
          ·cases hf
         ·cases hf
        ·cases hf
       ·cases hf
      split at h
      ·rename_i off k hf;obtain⟨fs,fd,i,d,hT,hfd,rfl,hi,hd,kS,rfl,_⟩:=key _ _ _ hf
       split at h
       ·rename_i hle;simp only[Option.some.injEq] at h;subst h;have hp:=Ik w hd hi ar.toList fd.offset (by rw[kS];simp) (by simp;omega)
        rw[kS] at hp;simp only[mk,if_true,Array.toArray_toList] at hp;refine⟨_,by
         simp only[execOp,pX,hu];rw[dF (show (Instr.field T (Value.agg ar) f).run P w=.ok _ w by
          simp only[Instr.field,Sem.run_bind,aW hT,Result.andThen_ok,hfd,asAgg,Sem.run_pure];exact hp)]
         rfl,.agg _ _ (by simp[hl]) (fun j x z hx hz=>?_) fun j z hz=>?_⟩
        ·rw[List.getElem?_take] at hx;split at hx
         ·rename_i hj;rw[List.getElem?_drop] at hx;refine eM _ x z hx ?_
          simpa [hj,List.getElem?_take,List.getElem?_drop] using hz
         ·cases hx
        ·have hz':ar[fd.offset+j]? = some z:=by
          simp only[List.getElem?_toArray,List.getElem?_take,List.getElem?_drop] at hz;split at hz
          ·simpa using hz
          ·cases hz
         exact h1 _ z hz'
       ·cases h
      ·rename_i off k hf;obtain⟨fs,fd,i,d,hT,hfd,rfl,hi,hd,kS,rfl,hk⟩:=key _ _ _ hf
       have hk1:i.size=1:=by simpa using hk
       have aZ:fd.offset<cs.length:=(List.getElem?_eq_some_iff.1 h).1
       have hp:=Ik w hd hi ar.toList fd.offset (fun _=>hk1) (by simp;omega)
       rw[kS] at hp;simp only[mk,Bool.false_eq_true,if_false,Array.toArray_toList] at hp;refine⟨_,by
        simp only[execOp,pX,hu];rw[dF (show (Instr.field T (Value.agg ar) f).run P w=.ok _ w by
         simp only[Instr.field,Sem.run_bind,aW hT,Result.andThen_ok,hfd,asAgg,Sem.run_pure];exact hp)]
        rfl, ?_⟩
       refine eM fd.offset x _ h ?_
       have:fd.offset<ar.size:=by omega
       rw[hk1,List.take_one];simp[List.head?_drop,this]
      ·cases h
   ·cases h
 | indexAddr T y i =>
   rw[pX] at h;simp only[iP] at h;obtain⟨r,hr,eM⟩:=Wz S h (S.ev y) (S.ev i)
   exact⟨r,by simp only[execOp,pX];rw[dF hr];rfl,eM⟩
 | load T y =>
   rw[pX] at h;simp only[iP] at h;cases hra:qP st (st.ev y) with
   | none=>simp[hra,cA] at h
   | some cs =>
     simp only[hra,cA] at h;obtain⟨r,hr,eM⟩:=Zg S hra h (S.ev y)
     exact⟨r,by simp only[execOp,pX];rw[dF hr];rfl,eM⟩
 | extract t i =>
   rw[pX] at h;simp only[iP] at h;split at h
   ·rename_i vs ht;have hr:=S.ev t
    rw[ht] at hr;obtain⟨ar,hv,hl,eM⟩:=aB0 hr
    have hi:i<vs.length:=(List.getElem?_eq_some_iff.1 h).1
    have Dm:i<ar.size:=by omega
    refine⟨ar[i], ?_,eM i x ar[i] h (by simp[Dm])⟩
    simp[execOp,pX,hv,Instr.extract,Dm]
   ·cases h
 | build T parts =>
   rw[pX] at h;simp only[iP] at h;obtain⟨r,hr,eM⟩:=RZ S h
   exact⟨r,by simp only[execOp,pX];rw[dF hr];rfl,eM⟩
 | slice T y lo hi mx =>
   rw[pX] at h;cases mx with
   | some m =>
     cases hi with
     | none=>simp[iP] at h
     | some hh =>
       simp only[iP] at h;obtain⟨r,hr,eM⟩:=LN S h (S.ev y)
       exact⟨r,by simp only[execOp,pX,Option.map_some];rw[dF hr];rfl,eM⟩
   | none =>
     simp only[iP] at h;obtain⟨r,hr,eM⟩:=SE S h (S.ev y)
     exact⟨r,by simp only[execOp,pX,Option.map_none];rw[dF hr];rfl,eM⟩
 | lookup T y i ok =>
   rw[pX] at h;simp only[iP] at h;obtain⟨r,hr,eM⟩:=ZI S h (S.ev y) (S.ev i)
   exact⟨r,by simp only[execOp,pX];rw[dF hr];rfl,eM⟩
 | makeFunc fn first captured =>
   rw[pX] at h;cases fn with
   | func f =>
     simp only[iP] at h;split at h
     ·rename_i hf;subst hf;simp only[Option.some.injEq] at h;subst h;have eM:lA (ctx h0 w0 ρ st w) (captured.toList.map st.ev) (captured.toList.map a.eval):=lA.map _ _ _ fun p _=>S.ev p
      refine⟨.func (.func f) #[] (captured.map a.eval), ?_,.zC f _ _ (by simp) fun i x y hx hy=>eM.rel i x y hx (by simpa using hy)⟩
      simp[execOp,pX,Instr.makeFunc]
     ·cases h
   | _=>simp[iP] at h
 | _=>rw[pX] at h;simp[iP] at h
end
end Go.Ab
end
section
namespace Go.Ab
open Classical
theorem cK.flat {C D:Ctx} {x:AV} {v:Value} (hf:Flat x) (hr:cK C x v) (hh:∀b o,C.h b o->D.h b o):cK D x v:=by
 induction hr with
 | v x=>exact .v x
 | agg cs a hl _ h1 ih=>cases hf with|agg _ h=>exact .agg cs a hl (fun i x y hx hy=>ih i x y hx hy (h x (List.mem_of_getElem? hx))) h1
 | JQ n cap p mZ=>exact .JQ n cap p mZ
 | sl n cs b off cap arr T fr mZ hb hle _ h1 ih=>cases hf with|sl _ _ h=>exact .sl n cs b off cap arr T fr mZ (hh _ _ hb) hle (fun i x y hx hy=>ih i x y hx hy (h x (List.mem_of_getElem? hx))) h1
 | cl0 n p=>exact .cl0 n p
 | cl n cs b off arr T fr hb hle _ h1 ih=>cases hf with|cl _ _ h=>exact .cl n cs b off arr T fr (hh _ _ hb) hle (fun i x y hx hy=>ih i x y hx hy (h x (List.mem_of_getElem? hx))) h1
 | ip cs o b off arr T fr hb hle _ h1 ih=>cases hf with|ip _ _ h=>exact .ip cs o b off arr T fr (hh _ _ hb) hle (fun i x y hx hy=>ih i x y hx hy (h x (List.mem_of_getElem? hx))) h1
 | ptr=>cases hf
 | own=>cases hf
 | vw=>cases hf
 | mp=>cases hf
 | zC f cs a hl _ ih=>cases hf with|zC _ _ h=>exact .zC f cs a hl (fun i x y hx hy=>ih i x y hx hy (h x (List.mem_of_getElem? hx)))
 | dX cs a hl _ ih=>cases hf with|dX _ h=>exact .dX cs a hl (fun i x y hx hy=>ih i x y hx hy (h x (List.mem_of_getElem? hx)))
theorem cK.Rf {C D:Ctx} {x:AV} {v:Value} (hf:eE x) (hr:cK C x v):cK D x v:=by
 induction hr with
 | v x=>exact .v x
 | agg cs a hl _ h1 ih=>cases hf with|agg _ h=>exact .agg cs a hl (fun i x y hx hy=>ih i x y hx hy (h x (List.mem_of_getElem? hx))) h1
 | dX cs a hl _ ih=>cases hf with|dX _ h=>exact .dX cs a hl (fun i x y hx hy=>ih i x y hx hy (h x (List.mem_of_getElem? hx)))
 | _=>cases hf
def bare (h:Nat->Obj->Prop):Ctx:=⟨h,fun _ _=>undef,fun _=>0⟩
inductive Uf:AV->Prop
 | v (x:Value):Uf (.v x)
 | agg (cs:List AV) (h:∀x∈cs,Uf x):Uf (.agg cs)
 | dX (cs:List AV) (h:∀x∈cs,Uf x):Uf (.dX cs)
 | own (s g:Nat):Uf (.own s g)
theorem eE.aE6 {x:AV} (h:eE x):Uf x:=by
 induction h with
 | v x=>exact .v x
 | agg cs _ ih=>exact .agg cs ih
 | dX cs _ ih=>exact .dX cs ih
theorem cK.aE6 {C D:Ctx} {x:AV} {v:Value} (hf:Uf x) (hr:cK C x v) (hc:∀s,C.aK s<=D.aK s) (jP:∀s g,g<C.aK s->D.ρ s g=C.ρ s g):cK D x v:=by
 induction hr with
 | v x=>exact .v x
 | agg cs a hl _ h1 ih=>cases hf with|agg _ h=>exact .agg cs a hl (fun i x y hx hy=>ih i x y hx hy (h x (List.mem_of_getElem? hx))) h1
 | dX cs a hl _ ih=>cases hf with|dX _ h=>exact .dX cs a hl (fun i x y hx hy=>ih i x y hx hy (h x (List.mem_of_getElem? hx)))
 | own s g hg ho=>rw[<- jP s g hg];exact .own s g (Nat.lt_of_lt_of_le hg (hc s)) (by rw[jP s g hg];exact ho)
 | _=>cases hf
def newHs (h0:Nat->Obj->Prop) (w w':World) (vs:List Value):Nat->Obj->Prop :=
 fun b o=>w'.heap[b]? = some o/\(b<w.heap.size->h0 b o)/\∀x∈vs,cM x≠some b
def BX (h0:Nat->Obj->Prop) (w w':World) (r:AV) (v:Value):Prop :=
 ∃vs:List Value,(∀x∈vs,x.oneCell'=true)/\(∀(i j:Nat) (x y:Value) (b:Nat),vs[i]? = some x->vs[j]? = some y->cM x=some b->cM y=some b->i=j) /\
  (∀x∈vs,∀b,cM x=some b->w.heap.size<=b)/\(∀d c,(WA d c r).2.length=vs.length) /\
  ∀(D:Ctx) (d c:Nat),(∀b o,newHs h0 w w' vs b o->D.h b o)->(∀(i:Nat) (x:Value),vs[i]? = some x->c+i<D.aK d/\D.ρ d (c+i)=x) ->
   cK D (WA d c r).1 v/\∀(i:Nat) (e:jC) (x:Value),(WA d c r).2[i]? = some e->vs[i]? = some x->nK D w' w.heap.size x e
def Uc (P:Program) (g:Nat) (xs:List AV) (r:AV):Prop :=
 ∀(w:World) (h0:Nat->Obj->Prop) (vs:Array Value),(∀b o,h0 b o->w.heap[b]? = some o)->lA (bare h0) xs vs.toList ->
  Calls P g vs w fun e w'=>∃v,e=.returned v/\BX h0 w w' r v/\w.grownBy w' none
def ZJ (P:Program) (g e sz n:Nat) (cs xs:List AV) (r:AV):Prop :=
 ∀(w:World) (h0:Nat->Obj->Prop) (v0:Value) (ys:List Value) (vs:Array Value),(∀b o,h0 b o->w.heap[b]? = some o)->(∀b o,h0 b o->cM v0≠some b)->lO w 0 e sz v0 n ys->fQ (bare h0) cs ys ->
  lA (bare h0) xs vs.toList->Calls P g (#[v0]++vs) w fun en w'=>∃v,en=.returned v/\w.grownBy w' (cM v0) /\
   match r with
   | .uniq e' rS n' Br=>∃zs,lO w' 0 e' rS v n' zs/\fQ (bare h0) Br zs/\∀b,cM v=some b->cM v0=some b\/w.heap.size<=b
   | .dX [.uniq e' rS n' Br]=>v=.tuple #[]/\∃zs,lO w' 0 e' rS v0 n' zs/\fQ (bare h0) Br zs
   | _=>False
def ZK (P:Program) (g:Nat) (x:AV) (e sz n:Nat) (cs:List AV) (r:AV):Prop :=
 ∀(w:World) (h0:Nat->Obj->Prop) (v0 v1:Value) (ys:List Value),(∀b o,h0 b o->w.heap[b]? = some o)->(∀b o,h0 b o->cM v1≠some b)->lO w 0 e sz v1 n ys->fQ (bare h0) cs ys ->
  cK (bare h0) x v0->Calls P g #[v0,v1] w fun en w'=>∃v,en=.returned v/\BX h0 w w' r v/\w.grownBy w' none
def Av (P:Program) (g:Nat) (xs:List AV) (r:AV):Prop :=
 match xs with
 | .uniq e sz n cs :: rest=>ZJ P g e sz n cs rest r
 | [x,.uniq e sz n cs]=>ZK P g x e sz n cs r
 | xs=>Uc P g xs r
def yF (P : Program) (g : Nat) : Prop := ∃ fn, P.funcs[g]? = some fn ∧ (fn.name == "runtime.NumGoroutine") = false ∧ fn.body.isSome = true
def oP (P:Program) (call:Nat->List AV->Option AV):Prop:=∀g xs r,call g xs=some r->yF P g/\Av P g xs r
theorem LO {f:Nat->AV->AV × List jC}:∀(xs:List AV) (c:Nat),(∀x∈xs,∀c,f c x=(x,[]))->qA f c xs=(xs,[])
 | [],c,_=>rfl
 | x :: xs,c,h=>by
   simp only[qA,h x (by simp),List.length_nil,Nat.add_zero,LO xs c fun y hy=>h y (by simp[hy]),List.nil_append]
theorem Kz {x:AV} (h:Flat x) (d c:Nat):yR d c x=(x,[]):=by cases h<;>rfl
theorem JA {x:AV} (h:Flat x) (d c:Nat):Ww d c x=(x,[]):=by
 cases h with
 | agg cs h=>simp only[Ww,LO (f:=yR d) cs c fun x hx c=>Kz (h x hx) d c]
 | _=>rfl
theorem Jk {x:AV} (h:Flat x) (d c:Nat):WA d c x=(x,[]):=by
 cases h with
 | dX cs h=>simp only[WA,LO (f:=Ww d) cs c fun x hx c=>JA (h x hx) d c]
 | agg cs h=>exact JA (.agg cs h) d c
 | _=>rfl
theorem Ug {h0:Nat->Obj->Prop} {w w':World} {r:AV} {v:Value} (hf:Flat r) (h:cK (bare (newHs h0 w w' [])) r v):BX h0 w w' r v :=
 ⟨[],by simp,by simp,by simp,fun d c=>by rw[Jk hf];rfl,fun D d c hD _=>by
  rw[Jk hf];exact⟨h.flat hf hD,by simp⟩⟩
theorem nK.base {C:Ctx} {w:World} {b b':Nat} {v:Value} {e:jC} (h:nK C w b v e) (hb:b'<=b):nK C w b' v e:=by
 cases e with
 | cells cs=>obtain⟨k,arr,T,h1,h2,h3⟩:=h;exact⟨k,arr,T,h1,Nat.le_trans hb h2,h3⟩
 | row e sz n cs=>obtain⟨xs,ho,hc⟩:=h;exact⟨xs,qQ ho hb,hc⟩
 | map es=>obtain⟨k,arr,T,h1,h2,h3⟩:=h;exact⟨k,arr,T,h1,Nat.le_trans hb h2,h3⟩
 | Dh e sz n cs=>exact h
theorem Gq {w:World} {b b' e sz n:Nat} {v:Value} {xs:List Value} (h:lO w b e sz v n xs) (hb:∀k,cM v=some k->b'<=k):lO w b' e sz v n xs:=by
 refine⟨h.1, ?_⟩
 rcases h.2 with h|⟨g,cap,cur,rfl,h1,h2,h3,h4,h5,h6,hc⟩
 ·exact .inl h
 ·exact .inr ⟨g,cap,cur,rfl,hb g (gV hc),h2,h3,h4,h5,h6,hc⟩
theorem jH {α:Type}:∀(l:List (Option α)) (r:List α),bK l=some r->l=r.map some
 | [],r,h=>by simp[bK] at h;subst h;rfl
 | none :: l,r,h=>by simp[bK] at h
 | some x :: l,r,h=>by
   simp only[bK,Option.map_eq_some_iff] at h;obtain⟨r',h',rfl⟩:=h
   rw[jH l r' h'];rfl
section
variable {P:Program} {h0:Nat->Obj->Prop} {w0:World} {F:Hx} {nt:Nat} {ρ:Nat->Nat->Value} {st:St} {a:Act} {w:World}
def Eg (h0:Nat->Obj->Prop) (w0 w:World):Nat->Obj->Prop:=fun b o=>w.heap[b]? = some o/\(b<w0.heap.size->h0 b o)
theorem Gr {D:Ctx} {base e sz n:Nat} {v:Value} {xs:List Value} {cs:List AV} (hD:∀b o,cM v=some b->base<=b->w.heap[b]? = some o->D.h b o) (h:lO w base e sz v n xs) (hc:fQ D cs xs):cK D (.sl n cs) v:=by
 rcases h.2 with ⟨p,rfl,hn⟩|⟨g,cap,cur,rfl,hb,hg,We,_,Ig,ht,oV⟩
 ·subst hn;have:xs.length=0:=by rw[h.1];simp
  have:=hc.len
  have hnil:=List.length_eq_zero_iff.1 (show cs.length=0 by omega)
  subst hnil;exact .JQ 0 0 p (by omega)
 ·have hl:=hc.len
  have hx:=h.1
  have hle:n * sz<=cap * sz:=Nat.mul_le_mul_right _ We
  refine .sl n cs g 0 cap cur e (0,0) We (hD g _ (gV oV) hb hg) (by omega) (fun i x y Ic hy=>?_) (fun i y hi hy=>?_)
  ·have hi:i<cs.length:=(List.getElem?_eq_some_iff.1 Ic).1
   refine hc.rel i x y Ic ?_
   rw[<- ht,List.getElem?_take,if_pos (by omega)]
   simpa using hy
  ·refine hc.one i y ?_
   rw[<- ht,List.getElem?_take,if_pos (by omega)]
   simpa using hy
theorem fQ.flat {C D:Ctx} {cs:List AV} {ys:List Value} (h:fQ C cs ys) (hf:∀c∈cs,Flat c) (hh:∀b o,C.h b o->D.h b o):fQ D cs ys :=
 ⟨h.len,fun i x y hx hy=>(h.rel i x y hx hy).flat (hf x (List.mem_of_getElem? hx)) hh,h.one⟩
theorem Eh (b:Nat) (o:Obj) (h:(ctx h0 w0 ρ st w).h b o):(bare (Eg h0 w0 w)).h b o:=⟨h.1,h.2.1⟩
theorem aHs (S:kM F h0 w0 nt ρ st a w) {s g o n e sz N:Nat} {cs:List AV} {v:Value} (he:st.heap s g=some (.row e sz N cs)) (hf:∀c∈cs,Flat c) (hle:o+n * sz<=cs.length) (hu:cK (ctx h0 w0 ρ st w) (.vw s g o n) v):cK (bare (Eg h0 w0 w)) (.sl n ((cs.drop o).take (n * sz))) v:=by
 obtain⟨_,ho1,xs,ho,hc⟩:=S.rT s g _ he
 cases hu with
 | vw _ _ _ _ b cap hg hb mZ _ =>
   change cM (ρ s g)=some b at hb
   rcases ho.2 with ⟨p,jP,hn⟩|⟨b',ES,cur,jP,vI,hh,_,_,_,ht,oV⟩
   ·exfalso
    rw[jP] at hb;cases p<;>cases hb
   ·rw[jP,gV oV] at hb;simp only[Option.some.injEq] at hb;subst hb;have hc':=hc.flat (D:=bare (Eg h0 w0 w)) hf Eh
    have hl:=hc.len
    have hxl:xs.length<=cur.size:=by rw[<- ht];simp;omega
    have P5:∀i,i<n * sz->cur[o+i]? = xs[o+i]?:=fun i hi=>by
     rw[<- ht,List.getElem?_take,if_pos (by rw[<- ho.1];omega)]
     simp
    refine .sl _ _ b' o cap cur e (0,0) mZ ⟨hh,fun aZ=>by omega⟩ (by simp;omega) (fun i x y hx hy=>?_) (fun i y hi hy=>?_)
    ·rw[List.getElem?_take] at hx;split at hx
     ·rename_i hi;rw[List.getElem?_drop] at hx;rw[P5 i hi] at hy;exact hc'.rel _ x y hx hy
     ·cases hx
    ·simp only[List.length_take,List.length_drop] at hi;rw[P5 i (by omega)] at hy
     exact hc.one _ y hy
theorem SG (S:kM F h0 w0 nt ρ st a w) {x y:AV} {v:Value} (hu:cK (ctx h0 w0 ρ st w) x v) (h:pN st x=some y):cK (bare (Eg h0 w0 w)) y v:=by
 unfold pN at h;split at h
 ·rename_i hf;simp only[Option.some.injEq] at h;subst h;exact hu.flat hf Eh
 ·split at h
  ·split at h
   ·rename_i e sz n cs he;split at h
    ·rename_i hf;simp only[Option.some.injEq] at h;subst h;obtain⟨_,ho1,xs,ho,hc⟩:=S.rT _ _ _ he
     cases hu with
     | own s g hg h1=>exact Gr (fun b o _ hb SH=>⟨SH,fun aZ=>by omega⟩) ho (hc.flat hf Eh)
    ·cases h
   ·cases h
  ·rename_i s g o n _;split at h
   ·rename_i e sz N cs he;split at h
    ·rename_i hf;obtain⟨hf,hle⟩:=hf
     simp only[Option.some.injEq] at h;subst h;exact aHs S he hf hle hu
    ·cases h
   ·cases h
  ·cases h
theorem ZL {x y:AV} (h:pN st x=some y):Flat y:=by
 unfold pN at h;split at h
 ·rename_i hf;simp only[Option.some.injEq] at h;subst h;exact hf
 ·split at h
  ·split at h
   ·split at h
    ·rename_i hf;simp only[Option.some.injEq] at h;subst h;exact .sl _ _ hf
    ·cases h
   ·cases h
  ·split at h
   ·split at h
    ·rename_i hf;simp only[Option.some.injEq] at h;subst h;exact .sl _ _ fun c hc=>hf.1 c (List.mem_of_mem_drop (List.mem_of_mem_take hc))
    ·cases h
   ·cases h
  ·cases h
theorem xN (S:kM F h0 w0 nt ρ st a w) {x y:AV} {v:Value} (hu:cK (ctx h0 w0 ρ st w) x v) (h:cC st x=some y):cK (bare (Eg h0 w0 w)) y v/\(v.oneCell'=true\/y=x):=by
 unfold cC at h;split at h
 ·rename_i hf;simp only[Option.some.injEq] at h;subst h;exact⟨hu.flat hf Eh,.inr rfl⟩
 ·split at h
  ·rename_i s g _;split at h
   ·rename_i e sz n cs he;split at h
    ·rename_i hf;simp only[Option.some.injEq] at h;subst h;obtain⟨_,ho1,xs,ho,hc⟩:=S.rT s g _ he
     cases hu with
     | own s g hg h1=>exact⟨Gr (fun b o _ hb SH=>⟨SH,fun aZ=>by omega⟩) ho (hc.flat hf Eh),.inl h1⟩
    ·cases h
   ·cases h
  ·rename_i s g o n _;split at h
   ·rename_i e sz N cs he;split at h
    ·rename_i hf;obtain⟨hf,hle⟩:=hf
     simp only[Option.some.injEq] at h;subst h;cases hu with
     | vw _ _ _ _ b cap hg hb mZ zZ=>exact⟨aHs S he hf hle (.vw s g o n b cap hg hb mZ zZ),.inl rfl⟩
    ·cases h
   ·cases h
  ·rename_i s g off _;split at h
   ·rename_i cs he;simp only[Option.map_eq_some_iff] at h;obtain⟨ds,Uh,rfl⟩:=h
    have hm:=jH _ _ Uh
    have hlen:ds.length=cs.length:=by have:=congrArg List.length hm;simpa using this.symm
    obtain⟨_,_,b',arr,T,jP,nA,hh,hc⟩:=S.rT s g _ he
    cases hu with
    | ptr s g off b hg hb =>
      have vI:b'=b:=by
       have h2:cM (ρ s g)=some b:=hb
       rw[jP] at h2;simpa [cM] using h2
      subst vI;have hl:=hc.len
      simp only[Array.length_toList] at hl;have:=cK.ip (C:=bare (Eg h0 w0 w)) ds off b' 0 arr T (0,0) ⟨hh,fun aZ=>by omega⟩ (by omega) (fun i x y hx hy=>by
       have hi:i<cs.length:=by have:=(List.getElem?_eq_some_iff.1 hx).1;omega
       have Ic:pN st cs[i]=some x:=by
        have:=congrArg (·[i]?) hm
        simp only[List.getElem?_map,hx,List.getElem?_eq_getElem hi,Option.map_some,Option.some.injEq] at this;exact this
       exact SG S (hc.rel i cs[i] y (by simp[hi]) (by simpa using hy)) Ic) (fun i y hi hy=>hc.one i y (by simpa using hy))
      rw[Nat.zero_add] at this;exact⟨this,.inl rfl⟩
   ·cases h
  ·cases h
theorem Om (S:kM F h0 w0 nt ρ st a w) {x y:AV} {v:Value} (hu:cK (ctx h0 w0 ρ st w) x v) (h:eW st x=some y):cK (bare (Eg h0 w0 w)) y v:=by
 unfold eW at h;split at h
 ·rename_i hf;simp only[Option.some.injEq] at h;subst h;exact hu.flat hf Eh
 ·split at h
  ·rename_i cs _;simp only[Option.map_eq_some_iff] at h;obtain⟨ds,Uh,rfl⟩:=h
   have hm:=jH _ _ Uh
   cases hu with
   | agg cs ar hl hr h1 =>
     have hlen:ds.length=cs.length:=by have:=congrArg List.length hm;simpa using this.symm
     refine .agg ds ar (by omega) (fun i x y hx hy=>?_) h1
     have hi:i<cs.length:=by have:=(List.getElem?_eq_some_iff.1 hx).1;omega
     have Ic:cC st cs[i]=some x:=by
      have:=congrArg (·[i]?) hm
      simp only[List.getElem?_map,hx,List.getElem?_eq_getElem hi,Option.map_some,Option.some.injEq] at this;exact this
     exact (xN S (hr i cs[i] y (by simp[hi]) hy) Ic).1
  ·rename_i f mH _;simp only[Option.map_eq_some_iff] at h;obtain⟨ds,Uh,rfl⟩:=h
   have hm:=jH _ _ Uh
   cases hu with
   | zC f cs ar hl hr =>
     have hlen:ds.length=mH.length:=by have:=congrArg List.length hm;simpa using this.symm
     refine .zC f ds ar (by omega) (fun i x y hx hy=>?_)
     have hi:i<mH.length:=by have:=(List.getElem?_eq_some_iff.1 hx).1;omega
     have Ic:cC st mH[i]=some x:=by
      have:=congrArg (·[i]?) hm
      simp only[List.getElem?_map,hx,List.getElem?_eq_getElem hi,Option.map_some,Option.some.injEq] at this;exact this
     exact (xN S (hr i mH[i] y (by simp[hi]) hy) Ic).1
  ·exact (xN S hu h).1
theorem pK {α β:Type} {p:β->Prop} {f:α->Option β} (hp:∀a b,f a=some b->p b):∀(l:List α) (r:List β),bK (l.map f)=some r->∀b∈r,p b
 | [],r,h=>by simp[bK] at h;subst h;simp
 | a :: l,r,h=>by
   simp only[List.map_cons] at h;cases ha:f a with
   | none=>simp[ha,bK] at h
   | some b =>
     simp only[ha,bK,Option.map_eq_some_iff] at h;obtain⟨r',h',rfl⟩:=h
     intro c hc;rcases List.mem_cons.1 hc with rfl|hc
     ·exact hp _ _ ha
     ·exact pK hp l r' h' c hc
theorem Ax {x y:AV} (h:cC st x=some y):Flat y:=by
 unfold cC at h;split at h
 ·rename_i hf;simp only[Option.some.injEq] at h;subst h;exact hf
 ·split at h
  ·split at h
   ·split at h
    ·rename_i hf;simp only[Option.some.injEq] at h;subst h;exact .sl _ _ hf
    ·cases h
   ·cases h
  ·split at h
   ·split at h
    ·rename_i hf;simp only[Option.some.injEq] at h;subst h;exact .sl _ _ fun c hc=>hf.1 c (List.mem_of_mem_drop (List.mem_of_mem_take hc))
    ·cases h
   ·cases h
  ·split at h
   ·simp only[Option.map_eq_some_iff] at h;obtain⟨ds,Uh,rfl⟩:=h
    exact .ip _ _ (pK (fun a b h=>ZL h) _ _ Uh)
   ·cases h
  ·cases h
theorem Lb {x y:AV} (h:eW st x=some y):Flat y:=by
 unfold eW at h;split at h
 ·rename_i hf;simp only[Option.some.injEq] at h;subst h;exact hf
 ·split at h
  ·simp only[Option.map_eq_some_iff] at h;obtain⟨ds,Uh,rfl⟩:=h
   exact .agg _ (pK (fun a b h=>Ax h) _ _ Uh)
  ·simp only[Option.map_eq_some_iff] at h;obtain⟨ds,Uh,rfl⟩:=h
   exact .zC _ _ (pK (fun a b h=>Ax h) _ _ Uh)
  ·exact Ax h
theorem Wg (S:kM F h0 w0 nt ρ st a w) {x y:AV} {v:Value} (hu:cK (ctx h0 w0 ρ st w) x v) (h:Dk st x=some y):cK (bare (Eg h0 w0 w)) y v:=by
 unfold Dk at h;split at h
 ·rename_i s g;split at h
  ·rename_i e sz n cs he;simp only[Option.map_eq_some_iff] at h;obtain⟨ds,Uh,rfl⟩:=h
   have hm:=jH _ _ Uh
   obtain⟨_,ho1,xs,ho,hc⟩:=S.rT s g _ he
   cases hu with
   | own s g hg h1 =>
     have hlen:ds.length=cs.length:=by have:=congrArg List.length hm;simpa using this.symm
     refine Gr (fun b o _ hb SH=>⟨SH,fun aZ=>by omega⟩) ho ⟨by rw[hlen];exact hc.len,fun i x y hx hy=>?_,hc.one⟩
     have hi:i<cs.length:=by have:=(List.getElem?_eq_some_iff.1 hx).1;omega
     have Ic:cC st cs[i]=some x:=by
      have:=congrArg (·[i]?) hm
      simp only[List.getElem?_map,hx,List.getElem?_eq_getElem hi,Option.map_some,Option.some.injEq] at this;exact this
     exact (xN S (hc.rel i cs[i] y (by simp[hi]) hy) Ic).1
  ·cases h
 ·exact (xN S hu h).1
theorem SI (S:kM F h0 w0 nt ρ st a w) {x y:AV} {v:Value} (hu:cK (ctx h0 w0 ρ st w) x v) (h:Pq st x=some y):cK (bare (Eg h0 w0 w)) y v:=by
 unfold Pq at h;split at h
 ·rename_i cs;simp only[Option.map_eq_some_iff] at h;obtain⟨ds,Uh,rfl⟩:=h
  have hm:=jH _ _ Uh
  cases hu with
  | agg cs ar hl hr h1 =>
    have hlen:ds.length=cs.length:=by have:=congrArg List.length hm;simpa using this.symm
    refine .agg ds ar (by omega) (fun i x y hx hy=>?_) h1
    have hi:i<cs.length:=by have:=(List.getElem?_eq_some_iff.1 hx).1;omega
    have Ic:Dk st cs[i]=some x:=by
     have:=congrArg (·[i]?) hm
     simp only[List.getElem?_map,hx,List.getElem?_eq_getElem hi,Option.map_some,Option.some.injEq] at this;exact this
    exact Wg S (hr i cs[i] y (by simp[hi]) hy) Ic
 ·exact Wg S hu h
theorem SJ (S:kM F h0 w0 nt ρ st a w) {x y:AV} {v:Value} (hu:cK (ctx h0 w0 ρ st w) x v) (h:zX st x=some y):cK (bare (Eg h0 w0 w)) y v:=by
 unfold zX at h;split at h
 ·rename_i z hz;simp only[Option.some.injEq] at h;subst h;exact Om S hu hz
 ·exact SI S hu h
theorem BY {x y:AV} (h:Dk st x=some y):Flat y:=by
 unfold Dk at h;split at h
 ·split at h
  ·simp only[Option.map_eq_some_iff] at h;obtain⟨ds,Uh,rfl⟩:=h
   exact .sl _ _ (pK (fun a b h=>Ax h) _ _ Uh)
  ·cases h
 ·exact Ax h
theorem ZM {x y:AV} (h:zX st x=some y):Flat y:=by
 unfold zX at h;split at h
 ·rename_i z hz;simp only[Option.some.injEq] at h;subst h;exact Lb hz
 ·unfold Pq at h;split at h
  ·simp only[Option.map_eq_some_iff] at h;obtain⟨ds,Uh,rfl⟩:=h
   exact .agg _ (pK (fun a b h=>BY h) _ _ Uh)
  ·exact BY h
theorem Ei {x y:AV} (h:eW st x=some y):zX st x=some y:=by unfold zX;rw[h]
theorem ZN {x:AV} (h:eW st x=none):zX st x=Pq st x:=by unfold zX;rw[h]
end
end Go.Ab
end
section
namespace Go.Ab
open Classical
def Jl (es:List jC):Prop:=∀e∈es,∃a b n cs,e=.row a b n cs/\∀c∈cs,eE c
theorem BZ {x:AV} (h:JM x) (d c:Nat):Uf (yR d c x).1/\Jl (yR d c x).2:=by
 cases x
 case uniq e sz n cs=>exact⟨.own _ _,fun e he=>by simp[yR] at he;exact⟨_,_,_,_,he,h⟩⟩
 all_goals exact⟨eE.aE6 h,fun e he=>by simp[yR] at he⟩
theorem On {f:Nat->AV->AV × List jC}:∀(xs:List AV) (c:Nat),(∀x∈xs,∀c,Uf (f c x).1/\Jl (f c x).2)->(∀y∈(qA f c xs).1,Uf y)/\Jl (qA f c xs).2
 | [],c,_=>⟨by simp[qA],fun e he=>by simp[qA] at he⟩
 | x :: xs,c,h=>by
   obtain⟨h1,h2⟩:=h x (by simp) c
   obtain⟨h3,h4⟩:=On xs (c+(f c x).2.length) fun y hy=>h y (by simp[hy])
   simp only[qA];refine⟨fun y hy=>?_,fun e he=>?_⟩
   ·rcases List.mem_cons.1 hy with rfl|hy
    ·exact h1
    ·exact h3 y hy
   ·rcases List.mem_append.1 he with he|he
    ·exact h2 e he
    ·exact h4 e he
theorem CA {x:AV} (h:JN x) (d c:Nat):Uf (Ww d c x).1/\Jl (Ww d c x).2:=by
 cases x
 case agg cs =>
  obtain⟨h1,h2⟩:=On (f:=yR d) cs c fun x hx c=>BZ (h x hx) d c
  exact⟨.agg _ h1,h2⟩
 all_goals
  refine @BZ _ ?_ d c
  exact h
theorem Ui {x:AV} (h:Vp x) (d c:Nat):Uf (WA d c x).1/\Jl (WA d c x).2:=by
 cases x
 case dX cs =>
  obtain⟨h1,h2⟩:=On (f:=Ww d) cs c fun x hx c=>CA (h x hx) d c
  exact⟨.dX _ h1,h2⟩
 all_goals
  refine @CA _ ?_ d c
  exact h
theorem fQ.Rf {C D:Ctx} {cs:List AV} {ys:List Value} (h:fQ C cs ys) (hm:∀c∈cs,eE c):fQ D cs ys :=
 ⟨h.len,fun i x y hx hy=>(h.rel i x y hx hy).Rf (hm x (List.mem_of_getElem? hx)),h.one⟩
theorem nK.free {C D:Ctx} {w:World} {b:Nat} {v:Value} {e:jC} (h:nK C w b v e) (hf:∃a s n cs,e=.row a s n cs/\∀c∈cs,eE c):nK D w b v e:=by
 obtain⟨a,s,n,cs,rfl,hm⟩:=hf
 obtain⟨xs,ho,hc⟩:=h
 exact⟨xs,ho,hc.Rf hm⟩
section
variable {P:Program} {h0:Nat->Obj->Prop} {w0:World} {F:Hx} {nt:Nat} {ρ:Nat->Nat->Value} {st:St} {a:Act} {w:World} {K:Act->World->Prop} {Q:Exit->Act->World->Prop}
theorem JB {C D:Ctx} {xs:List AV} {vs:List Value} (h:lA C xs vs) (hf:∀x∈xs,Flat x) (hh:∀b o,C.h b o->D.h b o):lA D xs vs :=
 ⟨h.len,fun i x y hx hy=>(h.rel i x y hx hy).flat (hf x (List.mem_of_getElem? hx)) hh⟩
theorem uV (S:kM F h0 w0 nt ρ st a w) {H:Nat->Obj->Prop} {w':World} {r:AV} {v:Value} {dst:Option Nat} {e:mA} (hr:BX H w w' r v) (hg:w.grownBy w' none)
 (hH:(∀b o,H b o->(ctx h0 w0 ρ st w).h b o)\/Vp r) (h:iG r st dst=some e) (hd:∀d,dst=some d->d<nt)
 (hK:∀nX a' w',kM F h0 w0 nt nX (e.apply st) a' w'->K a' w'):K (a.put dst v) w':=by
 obtain⟨vs,v1,v2,v3,v4,v5⟩:=hr
 unfold iG at h;split at h
 ·rename_i hf;simp only[Option.some.injEq] at h;subst h;have hl:=v4 0 0
  rw[Jk hf] at hl;have F7:vs=[]:=List.length_eq_zero_iff.1 hl.symm
  subst F7;obtain⟨S',k⟩:=S.grow hg
  refine hK ρ _ _ (S'.put dst hd ?_)
  rcases hH with hH|hH
  ·have:=(v5 (ctx h0 w0 ρ st w') 0 0 (fun b o hb=>by
    by_cases aZ:b<w.heap.size
    ·exact k.h _ _ (hH _ _ (hb.2.1 aZ))
    ·exact⟨hb.1,fun h=>by have:=S.ext.size;omega,fun s g e he=>jV S he (by omega)⟩) (by simp)).1
   rw[Jk hf] at this;exact this
  ·have:=(v5 ⟨newHs H w w' [],ρ,st.aK⟩ 0 0 (fun b o hb=>hb) (by simp)).1
   have hn:=(Ui hH 0 0).1
   rw[Jk hf] at this hn;exact this.aE6 hn (fun _=>Nat.le_refl _) (fun _ _ _=>rfl)
 ·cases dst with
  | none=>cases h
  | some d =>
    simp only[Option.some.injEq] at h;subst h;obtain⟨S',k,hh,oF⟩:=S.news hg d (WA d (st.aK d) r).2 vs (v4 _ _) v1 v3 v2 (fun C kC hC jP i e x hi hx=>by
     rcases hH with hH|hH
     ·exact ((v5 C d (st.aK d) (fun b o hb=>by
       by_cases aZ:b<w.heap.size
       ·exact kC.h _ _ (hH _ _ (hb.2.1 aZ))
       ·exact hC b o (by omega) hb.1 hb.2.2) jP).2 i e x hi hx).base S.ext.size
     ·have:=((v5 ⟨newHs H w w' vs,C.ρ,C.aK⟩ d (st.aK d) (fun b o hb=>hb) jP).2 i e x hi hx).base S.ext.size
      exact this.free ((Ui hH d (st.aK d)).2 e (List.mem_of_getElem? hi)))
    refine hK _ _ _ (S'.put (some d) hd ?_)
    rcases hH with hH|hH
    ·exact (v5 (ctx h0 w0 (Hb ρ d (st.aK d) vs) (st.news d (WA d (st.aK d) r).2) w') d (st.aK d) (fun b o hb=>by
      by_cases aZ:b<w.heap.size
      ·exact k.h _ _ (hH _ _ (hb.2.1 aZ))
      ·exact hh b o (by omega) hb.1 hb.2.2) oF).1
    ·have:=(v5 ⟨newHs H w w' vs,Hb ρ d (st.aK d) vs,(st.news d (WA d (st.aK d) r).2).aK⟩ d (st.aK d) (fun b o hb=>hb) oF).1
     exact this.aE6 (Ui hH d (st.aK d)).1 (fun _=>Nat.le_refl _) (fun _ _ _=>rfl)
theorem CB {P:Program} {g:Nat} {args:List AV} {r:AV} (h:Av P g args r) (hn:∀x∈args,Flat x):Uc P g args r:=by
 unfold Av at h;split at h
 ·rename_i e sz n cs rest;have:=hn _ (List.mem_cons_self ..)
  cases this
 ·rename_i x e sz n cs _;have:=hn (.uniq e sz n cs) (by simp)
  cases this
 ·exact h
theorem yZ (S:kM F h0 w0 nt ρ st a w) {call:Nat->List AV->Option AV} (iY:oP P call) {g:Nat} {args:List AV} {vs:Array Value} {dst:Option Nat} {e:mA}
 (h:aN call g args st dst=some e) (eM:lA (ctx h0 w0 ρ st w) args vs.toList) (hd:∀d,dst=some d->d<nt)
 (hK:∀nX a' w',kM F h0 w0 nt nX (e.apply st) a' w'->K a' w') :
 yF P g/\Calls P g vs w fun en w'=>∃v,en=.returned v/\K (a.put dst v) w':=by
 unfold aN at h;split at h
 ·rename_i hf;cases hc:call g args with
  | none=>simp[hc,cA] at h
  | some r =>
    obtain⟨ZO,hs⟩:=iY g args r hc
    refine⟨ZO, ?_⟩
    simp only[hc,cA] at h;refine ((CB hs hf) w (ctx h0 w0 ρ st w).h vs (fun b o hb=>hb.1) (JB eM hf fun b o hb=>hb)).mono ?_
    rintro en w' ⟨v,rfl,hr,hg⟩
    exact⟨v,rfl,uV S hr hg (.inl fun b o hb=>hb) h hd hK⟩
 ·split at h
  ·rename_i xs Xg;cases hc:call g xs with
   | none=>simp[hc,cA] at h
   | some r =>
     obtain⟨ZO,hs⟩:=iY g xs r hc
     refine⟨ZO, ?_⟩
     simp only[hc,cA] at h;split at h
     ·rename_i hm;have hmm:=jH _ _ Xg
      have KE:∀x∈xs,Flat x:=pK (fun a b h=>Lb h) _ _ Xg
      have hlen:xs.length=args.length:=by have:=congrArg List.length hmm;simpa using this.symm
      have Rh:lA (bare (Eg h0 w0 w)) xs vs.toList:=⟨by rw[hlen];exact eM.len,fun i x y hx hy=>by
       have hi:i<args.length:=by have:=(List.getElem?_eq_some_iff.1 hx).1;omega
       have Ic:eW st args[i]=some x:=by
        have:=congrArg (·[i]?) hmm
        simp only[List.getElem?_map,hx,List.getElem?_eq_getElem hi,Option.map_some,Option.some.injEq] at this;exact this
       exact Om S (eM.rel i args[i] y (by simp[hi]) hy) Ic⟩
      refine ((CB hs KE) w (Eg h0 w0 w) vs (fun b o hb=>hb.1) Rh).mono ?_
      rintro en w' ⟨v,rfl,hr,hg⟩
      exact⟨v,rfl,uV S hr hg (.inr hm) h hd hK⟩
     ·cases h
  ·cases h
theorem kM.drop (S:kM F h0 w0 nt ρ st a w) (s k:Nat):kM F h0 w0 nt ρ (st.gT s k none) a w/\(ctx h0 w0 ρ st w).Le (ctx h0 w0 ρ (st.gT s k none) w):=by
 have hs:∀s' g' e,(st.gT s k none).heap s' g'=some e->st.heap s' g'=some e:=fun s' g' e h=>by
  simp only[St.gT] at h;split at h
  ·cases h
  ·exact h
 have kk:(ctx h0 w0 ρ st w).Le (ctx h0 w0 ρ (st.gT s k none) w):=⟨fun b o hb=>⟨hb.1,hb.2.1,fun s' g' e he=>hb.2.2 s' g' e (hs s' g' e he)⟩,fun _=>Nat.le_refl _,fun _ _ _=>rfl⟩
 exact⟨⟨fun t=>(S.env t).le kk,fun s' g' e he=>⟨(S.rT s' g' e (hs s' g' e he)).1,(S.rT s' g' e (hs s' g' e he)).2.1,nK.world (r:=none) (S.rT s' g' e (hs s' g' e he)).2.2 kk ⟨rfl,rfl,rfl,Nat.le_refl _,fun _ _ _=>rfl⟩ (by cases cM (ρ s' g')<;>simp)⟩,
  fun s1 g1 s2 g2 e1 e2 b h1 h2=>S.inj s1 g1 s2 g2 e1 e2 b (hs _ _ _ h1) (hs _ _ _ h2),S.ext,S.size,S.defers,⟨fun x v h=>(S.Pl.1 x v h).le kk,fun b o h=>kk.h b o (S.Pl.2.1 b o h),S.Pl.2.2⟩⟩,kk⟩
theorem aPF (S:kM F h0 w0 nt ρ st a w) {s k:Nat} {c y:AV} {v:Value} (hc:Flat c\/c=.own s k) (hu:cK (ctx h0 w0 ρ st w) c v) (h:cC st c=some y):cK (bare (ctx h0 w0 ρ (st.gT s k none) w).h) y v/\(v.oneCell'=true\/y=c):=by
 have kk:=(S.drop s k).2
 rcases hc with hf|rfl
 ·unfold cC at h;rw[if_pos hf] at h;simp only[Option.some.injEq] at h;subst h;exact⟨hu.flat hf kk.h,.inr rfl⟩
 ·unfold cC at h;rw[if_neg (by intro h;cases h)] at h
  simp only at h
  split at h
  ·rename_i e sz n cs he;split at h
   ·rename_i hf;simp only[Option.some.injEq] at h;subst h;obtain⟨_,ho1,xs,ho,hc⟩:=S.rT s k _ he
    cases hu with
    | own s g hg h1 =>
      refine⟨Gr (fun b o hv hb SH=>⟨SH,fun aZ=>by omega,fun s' g' e' zD vI=>?_⟩) ho (hc.flat hf kk.h),.inl h1⟩
      simp only[St.gT] at zD
      split at zD
      ·cases zD
      ·rename_i gI;have:=S.inj s' g' s k e' _ b zD he vI hv
       exact gI this
   ·cases h
  ·cases h
theorem aB1 (S:kM F h0 w0 nt ρ st a w) {s k:Nat} {x y:AV} {v:Value} (hx:OU x) (hk:∀p∈iV x,p=(s,k)) (hu:cK (ctx h0 w0 ρ st w) x v) (h:eW st x=some y):cK (bare (ctx h0 w0 ρ (st.gT s k none) w).h) y v:=by
 have kk:=(S.drop s k).2
 by_cases hf:Flat x
 ·unfold eW at h;rw[if_pos hf] at h;simp only[Option.some.injEq] at h;subst h;exact hu.flat hf kk.h
 ·rcases hx with hx|⟨s',k',rfl⟩|⟨cs,rfl,Ig⟩
  ·exact absurd hx hf
  ·have:=hk (s',k') (by simp[iV,gD])
   simp only[Prod.mk.injEq] at this;obtain⟨rfl,rfl⟩:=this
   unfold eW at h;rw[if_neg hf] at h;exact (aPF S (.inr rfl) hu h).1
  ·have hc:∀c∈cs,Flat c\/c=.own s k:=fun c hc=>by
    rcases Ig c hc with h|⟨s',k',rfl⟩
    ·exact .inl h
    ·have:=hk (s',k') (by simp only[iV];exact List.mem_flatMap.2 ⟨_,hc,by simp[gD]⟩)
     simp only[Prod.mk.injEq] at this;obtain⟨rfl,rfl⟩:=this
     exact .inr rfl
   unfold eW at h;rw[if_neg hf] at h;simp only[Option.map_eq_some_iff] at h;obtain⟨ys,Ue,rfl⟩:=h
   have hmm:=jH _ _ Ue
   have hlen:ys.length=cs.length:=by have:=congrArg List.length hmm;simpa using this.symm
   cases hu with
   | agg _ arr hl hr h1 =>
     refine .agg ys arr (by omega) (fun i y z hy hz=>?_) h1
     have hi:i<cs.length:=by have:=(List.getElem?_eq_some_iff.1 hy).1;omega
     have Ic:cC st cs[i]=some y:=by
      have:=congrArg (·[i]?) hmm
      simp only[List.getElem?_map,hy,List.getElem?_eq_getElem hi,Option.map_some,Option.some.injEq] at this;exact this
     exact (aPF S (hc _ (List.getElem_mem hi)) (hr i cs[i] z (by simp[hi]) hz) Ic).1
theorem Ri {r:AV} {dst:Option Nat} {s k:Nat} {e:mA} (h:zW r st dst s k=some e) :
 (Flat r/\e={ dst:=dst,val:=r,dG:=some (s,k,none)}) \/
 (¬Flat r/\∃e1 sz n cs d,r=.uniq e1 sz n cs/\dst=some d/\(∀c∈cs,eE c)/\e={ dst:=some d,val:=.own d (st.aK d),dG:=some (s,k,none),new:=some (d,[.row e1 sz n cs])}):=by
 unfold zW at h;split at h
 ·rename_i hf;simp only[Option.some.injEq] at h;exact .inl ⟨hf,h.symm⟩
 ·rename_i hf;split at h
  ·rename_i e1 sz n cs d;split at h
   ·rename_i hc;simp only[Option.some.injEq] at h;exact .inr ⟨hf,e1,sz,n,cs,d,rfl,rfl,hc,h.symm⟩
   ·cases h
  ·cases h
theorem FI (S:kM F h0 w0 nt ρ st a w) {call:Nat->List AV->Option AV} (iY:oP P call) {g:Nat} {args:List AV} {vs:Array Value} {dst:Option Nat} {e:mA}
 (h:eY call g args st dst=some e) (eM:lA (ctx h0 w0 ρ st w) args vs.toList) (hd:∀d,dst=some d->d<nt)
 (hK:∀nX a' w',kM F h0 w0 nt nX (e.apply st) a' w'->K a' w') :
 yF P g/\Calls P g vs w fun en w'=>∃v,en=.returned v/\K (a.put dst v) w':=by
 unfold eY at h;split at h
 ·rename_i s k Rc;split at h
  ·rename_i qK;split at h
   ·rename_i xs Xg;cases hc:call g xs with
    | none=>simp[hc,cA] at h
    | some r =>
      obtain⟨ZO,hs⟩:=iY g xs r hc
      refine⟨ZO, ?_⟩
      simp only[hc,cA] at h;have h:=Ri h
      have hmm:=jH _ _ Xg
      have KE:∀x∈xs,Flat x:=pK (fun a b h=>Lb h) _ _ Xg
      have hlen:xs.length=args.length:=by have:=congrArg List.length hmm;simpa using this.symm
      obtain⟨S1,kk⟩:=S.drop s k
      have Rh:lA (bare (ctx h0 w0 ρ (st.gT s k none) w).h) xs vs.toList:=⟨by rw[hlen];exact eM.len,fun i x y hx hy=>by
       have hi:i<args.length:=by have:=(List.getElem?_eq_some_iff.1 hx).1;omega
       have Ic:eW st args[i]=some x:=by
        have:=congrArg (·[i]?) hmm
        simp only[List.getElem?_map,hx,List.getElem?_eq_getElem hi,Option.map_some,Option.some.injEq] at this;exact this
       refine aB1 S (qK _ (List.getElem_mem hi)) (fun p hp=>?_) (eM.rel i args[i] y (by simp[hi]) hy) Ic
       have:p∈args.flatMap iV:=List.mem_flatMap.2 ⟨_,List.getElem_mem hi,hp⟩
       rw[Rc] at this;simpa using this⟩
      refine ((CB hs KE) w (ctx h0 w0 ρ (st.gT s k none) w).h vs (fun b o hb=>hb.1) Rh).mono ?_
      rintro en w' ⟨v,rfl,hr,hg⟩
      rcases h with ⟨WD,rfl⟩|⟨WD,e1,sz,n,cs,d,rfl,rfl,Ig,rfl⟩
      ·refine⟨v,rfl,uV (e:={ dst:=dst,val:=r }) S1 hr hg (.inl fun b o hb=>hb) ?_ hd (fun nX a' w2 hS=>hK nX a' w2 hS)⟩
       unfold iG;rw[if_pos WD]
      ·refine⟨v,rfl,uV (e:={ dst:=some d,val:=.own d (st.aK d),new:=some (d,[.row e1 sz n cs])}) S1 hr hg (.inr Ig) ?_ hd (fun nX a' w2 hS=>hK nX a' w2 hS)⟩
       unfold iG;rw[if_neg WD];rfl
   ·cases h
  ·cases h
 ·exact yZ S iY h eM hd hK
theorem LP (S:kM F h0 w0 nt ρ st a w) {call:Nat->List AV->Option AV} (iY:oP P call) {g:Nat} {args:List AV} {vs:Array Value} {dst:Option Nat} {e:mA}
 (h:uH call g args st dst=some e) (eM:lA (ctx h0 w0 ρ st w) args vs.toList) (hd:∀d,dst=some d->d<nt)
 (hK:∀nX a' w',kM F h0 w0 nt nX (e.apply st) a' w'->K a' w') :
 yF P g/\Calls P g vs w fun en w'=>∃v,en=.returned v/\K (a.put dst v) w':=by
 unfold uH at h;split at h
 ·rename_i x s k;split at h
  ·rename_i e0 sz n cs he;split at h
   ·rename_i Ig;obtain⟨KE,Ig⟩:=Ig
    have F7:∃v0,vs=#[v0,ρ s k]/\cK (ctx h0 w0 ρ st w) x v0:=by
     have hl:=eM.len
     cases hv:vs.toList with
     | nil=>rw[hv] at hl;simp at hl
     | cons v0 r=>cases r with
       | nil=>rw[hv] at hl;simp at hl
       | cons v1 r=>cases r with
         | cons _ _=>rw[hv] at hl;simp at hl
         | nil =>
           rw[hv] at eM;have h1:=eM.rel 1 _ v1 rfl rfl
           have h2:v1=ρ s k:=by cases h1;rfl
           subst h2;exact⟨v0,Array.ext' hv,eM.head⟩
    obtain⟨v0,rfl,hv0⟩:=F7
    obtain⟨hk1,hk2,ys,ho,lZ⟩:=S.rT s k _ he
    split at h
    ·rename_i r hr;split at h
     ·rename_i WD;obtain⟨ZO,hs⟩:=iY _ _ _ hr
      refine⟨ZO, ?_⟩
      have hs:ZK P g x e0 sz n cs r:=by
       cases KE<;>exact hs
      refine (hs w (ctx h0 w0 ρ st w).h v0 (ρ s k) ys (fun b o hb=>hb.1) (fun b o hb=>hb.2.2 s k _ he) (qQ ho (Nat.zero_le _)) (lZ.flat Ig fun b o hb=>hb) (hv0.flat KE fun b o hb=>hb)).mono ?_
      rintro en w' ⟨v,rfl,hr,hg⟩
      refine⟨v,rfl,uV S hr hg (.inl fun b o hb=>hb) ?_ hd hK⟩
      unfold iG;rw[if_pos WD];exact h
     ·cases h
    ·cases h
   ·cases h
  ·cases h
 ·split at h
  ·exact yZ S iY h eM hd hK
  ·cases h
theorem LQ (S:kM F h0 w0 nt ρ st a w) {call:Nat->List AV->Option AV} (iY:oP P call) {g:Nat} {args:List AV} {vs:Array Value} {dst:Option Nat} {e:mA}
 (h:kN call g args st dst=some e) (eM:lA (ctx h0 w0 ρ st w) args vs.toList) (hd:∀d,dst=some d->d<nt)
 (hK:∀nX a' w',kM F h0 w0 nt nX (e.apply st) a' w'->K a' w') :
 yF P g/\Calls P g vs w fun en w'=>∃v,en=.returned v/\K (a.put dst v) w':=by
 unfold kN at h;split at h
 ·rename_i s k rest;split at h
  ·rename_i e0 sz n cs he;split at h
   ·rename_i Ig;obtain⟨Ig,WD⟩:=Ig
    have F7:∃v0 vr,vs=#[v0]++vr/\cK (ctx h0 w0 ρ st w) (.own s k) v0/\lA (ctx h0 w0 ρ st w) rest vr.toList:=by
     have hl:=eM.len
     cases hv:vs.toList with
     | nil=>rw[hv] at hl;simp at hl
     | cons v0 vr =>
       rw[hv] at eM;refine⟨v0,vr.toArray, ?_,eM.head,by simpa using eM.tail⟩
       apply Array.ext'
       rw[hv];simp
    obtain⟨v0,vr,rfl,hv0,hrest⟩:=F7
    have hv0':v0=ρ s k:=by cases hv0;rfl
    subst hv0'
    obtain⟨hk1,hk2,ys,ho,lZ⟩:=S.rT s k _ he
    have run:∀r,call g (.uniq e0 sz n cs :: rest)=some r->yF P g /\
     Calls P g (#[ρ s k]++vr) w fun en w'=>∃v,en=.returned v/\w.grownBy w' (cM (ρ s k)) /\
      match r with
      | .uniq e' rS n' Br=>∃zs,lO w' 0 e' rS v n' zs/\fQ (bare (ctx h0 w0 ρ st w).h) Br zs/\∀b,cM v=some b->cM (ρ s k)=some b\/w.heap.size<=b
      | .dX [.uniq e' rS n' Br]=>v=.tuple #[]/\∃zs,lO w' 0 e' rS (ρ s k) n' zs/\fQ (bare (ctx h0 w0 ρ st w).h) Br zs
      | _=>False:=by
     intro r hr;obtain⟨ZO,hs⟩:=iY _ _ _ hr
     refine⟨ZO, ?_⟩
     have hs:ZJ P g e0 sz n cs rest r:=hs
     exact hs w (ctx h0 w0 ρ st w).h (ρ s k) ys vr (fun b o hb=>hb.1) (fun b o hb=>hb.2.2 s k _ he) (qQ ho (Nat.zero_le _)) (lZ.flat Ig fun b o hb=>hb) (JB hrest WD fun b o hb=>hb)
    have bareLe:∀C:Ctx,(ctx h0 w0 ρ st w).Le C->(bare (ctx h0 w0 ρ st w).h).Le C:=fun C kC=>⟨kC.h,fun _=>Nat.zero_le _,fun _ _ h=>absurd h (by simp[bare])⟩
    have uU:∀b,cM (ρ s k)=some b->w0.heap.size<=b:=fun b hb=>(tS ho b hb).1
    split at h
    ·rename_i e' rS n' Br hr
     obtain⟨ZO,hc⟩:=run _ hr
     refine⟨ZO,hc.mono ?_⟩
     rintro en w' ⟨v,rfl,hg,zs,hz,hzc,hzb⟩
     cases dst with
     | none=>cases h
     | some d =>
       simp only[Option.some.injEq] at h;subst h;refine⟨v,rfl, ?_⟩
       obtain⟨S',kk,oF⟩:=S.WQ he hg d (.row e' rS n' Br) v (mW hz) hzb (fun C kC=>⟨zs,Gq hz (fun b hb=>by
        rcases hzb b hb with h|h
        ·exact uU b h
        ·have:=S.ext.size;omega),hzc.le (bareLe C kC)⟩)
       have happ:mA.apply { dst:=some d,val:=.own d (st.aK d),dG:=some (s,k,none),new:=some (d,[.row e' rS n' Br])} st=((st.gT s k none).new d (.row e' rS n' Br)).put (some d) (.own d (st.aK d)):=by
        simp only[mA.apply,Ze]
       have aZ:st.aK d<(ctx h0 w0 (sQ ρ d (st.aK d) v) ((st.gT s k none).new d (.row e' rS n' Br)) w').aK d:=by simp[ctx,St.new,St.gT]
       have jP:(ctx h0 w0 (sQ ρ d (st.aK d) v) ((st.gT s k none).new d (.row e' rS n' Br)) w').ρ d (st.aK d)=v:=oF
       have:=cK.own (C:=ctx h0 w0 (sQ ρ d (st.aK d) v) ((st.gT s k none).new d (.row e' rS n' Br)) w') d (st.aK d) aZ (by rw[jP];exact mW hz)
       rw[jP] at this;have hS:=S'.put (some d) hd this
       rw[<- happ] at hS;exact hK _ _ _ hS
    ·rename_i e' rS n' Br hr
     obtain⟨ZO,hc⟩:=run _ hr
     refine⟨ZO,hc.mono ?_⟩
     rintro en w' ⟨v,rfl,hg,rfl,zs,hz,hzc⟩
     simp only[Option.some.injEq] at h;subst h;have S':=S.Y0 (e':=.row e' rS n' Br) he hg (fun C kC=>⟨zs,Gq hz uU,hzc.le (bareLe C kC)⟩)
     exact⟨_,rfl,hK ρ _ _ (S'.put dst hd (.dX [] #[] rfl (by simp)))⟩
    ·cases h
   ·cases h
  ·cases h
 ·split at h
  ·exact yZ S iY h eM hd hK
  ·cases h
end
end Go.Ab
end
section
namespace Go.Ab
open Classical
section
variable {P:Program} {h0:Nat->Obj->Prop} {w0:World} {F:Hx} {nt:Nat} {ρ:Nat->Nat->Value} {st:St} {a:Act} {w:World} {K:Act->World->Prop} {Q:Exit->Act->World->Prop}
theorem upon_value {o:Oper} {v:Value} {w':World} (h:(execOp a.eval o).run P w=.ok (.value v) w') (hk:K (a.put o.dst v) w'):o.wp P a w K Q:=by
 unfold Oper.wp;rw[h];exact hk
theorem kM.newVar (S:kM F h0 w0 nt ρ st a w) (d:Nat) (hd:d<nt) (cs:List AV) (arr:Array Value) (T:Nat) (hc:fQ (ctx h0 w0 ρ st w) cs arr.toList) :
 ∃nX,kM F h0 w0 nt nX ((st.new d (.cells cs)).put (some d) (.ptr d (st.aK d) 0)) (a.put (some d) (.pointer (some ⟨w.heap.size,0,none⟩))) (w.alloc (.cells arr T)):=by
 obtain⟨S',k,oF⟩:=S.new (World.grownBy_alloc w (.cells arr T) none) d (.cells cs) (.pointer (some ⟨w.heap.size,0,none⟩)) rfl (fun b hb=>by simp[cM] at hb;omega)
  (fun C k _=>⟨w.heap.size,arr,T,rfl,S.ext.size,heap_alloc_new w _,hc.le k⟩)
 exact⟨_,S'.put (some d) (fun t ht=>by cases ht;exact hd) (.ptr d (st.aK d) 0 w.heap.size (by simp[ctx,St.new]) (by show cM (sQ _ _ _ _ _ _)=_;rw[oF];rfl))⟩
theorem kM.newRow (S:kM F h0 w0 nt ρ st a w) (d:Nat) (hd:d<nt) {w':World} (hg:w.grownBy w' none) (e sz n:Nat) (cs:List AV) (xs:List Value) (v:Value) (ho:lO w' w.heap.size e sz v n xs) (hc:fQ (ctx h0 w0 ρ st w) cs xs) :
 ∃nX,kM F h0 w0 nt nX ((st.new d (.row e sz n cs)).put (some d) (.own d (st.aK d))) (a.put (some d) v) w':=by
 obtain⟨S',k,oF⟩:=S.new hg d (.row e sz n cs) v (mW ho) (fun b hb=>(tS ho b hb).1) (fun C k _=>⟨xs,qQ ho S.ext.size,hc.le k⟩)
 refine⟨_,S'.put (some d) (fun t ht=>by cases ht;exact hd) ?_⟩
 have aZ:st.aK d<(ctx h0 w0 (sQ ρ d (st.aK d) v) (st.new d (.row e sz n cs)) w').aK d:=by simp[ctx,St.new]
 have jP:(ctx h0 w0 (sQ ρ d (st.aK d) v) (st.new d (.row e sz n cs)) w').ρ d (st.aK d)=v:=oF
 have:=cK.own (C:=ctx h0 w0 (sQ ρ d (st.aK d) v) (st.new d (.row e sz n cs)) w') d (st.aK d) aZ (by rw[jP];exact mW ho)
 rw[jP] at this;exact this
theorem Jm (z:Array Value) (n:Nat):((Array.range (n * z.size)).map (z[· % z.size]!)).toList=(List.range n).flatMap fun _=>z.toList:=by
 rw[Array.toList_map];have:(Array.range (n * z.size)).toList=List.range (n * z.size):=by simp
 rw[this];clear this
 induction n with
 | zero=>simp
 | succ n ih =>
   rw[Nat.succ_mul,List.range_add,List.map_append,ih,List.range_succ,List.flatMap_append];congr 1
   simp only[List.flatMap_cons,List.flatMap_nil,List.append_nil,List.map_map];apply List.ext_getElem?
   intro i;by_cases hi:i<z.size
   ·simp[hi,Nat.mod_eq_of_lt hi,Nat.mul_comm n z.size]
   ·simp[hi]
theorem Lc {C:Ctx} {z:List Value} (h1:∀y∈z,y.oneCell'=true) (n:Nat):fQ C ((List.range n).flatMap fun _=>z.map .v) ((List.range n).flatMap fun _=>z):=by
 generalize List.range n=l
 induction l with
 | nil=>exact .nil C
 | cons x l ih=>simp only[List.flatMap_cons];exact (fQ.vs C z h1).app ih
theorem Uj (S:kM F h0 w0 nt ρ st a w) {T n e sz by_:Nat} {parts:Array (Nat × Operand)} {z:List Value} {cs:List AV} (hs:dI P T=some (e,sz,by_)) (hz:dU P e=some z)
 (hn:0<n\/parts=#[]) (hlim:n * sz<=2 ^ 24) (xV:(parts.toList.all fun p=>(st.ev p.2).jO)=true)
 (hf:gM (fun i=>some (i * sz,sz)) ((List.range n).flatMap fun _=>z.map .v) (parts.toList.map fun p=>(p.1,st.ev p.2))=some cs) :
 ∃v w' xs,(Instr.buildSlice T n (parts.map fun (i,x)=>(i,a.eval x))).run P w=.ok v w'/\w.grownBy w' none/\lO w' w.heap.size e sz v n xs/\fQ (ctx h0 w0 ρ st w) cs xs:=by
 obtain⟨ei,ez,hT,Da,Yg,rfl,Xa,rfl,Cu⟩:=kD hs
 obtain⟨i',zv,Dm,SA,rfl,hz1⟩:=Aw hz
 rw[Da] at Dm
 cases Dm
 rw[Yg] at SA;cases SA
 rcases Nat.eq_zero_or_pos n with h0'|hn
 ·subst h0'
  have hp:parts=#[]:=by
   rcases hn with h|h
   ·omega
   ·exact h
  subst hp;simp[gM] at hf
  subst hf;refine⟨.slice (some ⟨w.heap.size,0,none⟩) 0 0,w.alloc (.cells #[] e),[], ?_,World.grownBy_alloc w _ none,⟨by simp,.inl ⟨_,rfl,rfl⟩⟩,.nil _⟩
  simp[Instr.buildSlice,run_underlying hT,sizeOf,typeInfo,zeroValue,Da,Instr.fill,newRow]
  rw[show Array.map (fun x=>(default:Value)) (Array.range 0)=#[] from by simp[Array.range]]
 have eM:lA (ctx h0 w0 ρ st w) ((parts.toList.map fun p=>(p.1,st.ev p.2)).map (·.2)) ((parts.toList.map fun p=>(p.1,a.eval p.2)).map (·.2)):=by
  simp only[List.map_map];exact lA.map _ _ _ fun p _=>S.ev p.2
 have hnz:¬n * ei.size=0:=by
  have:=Nat.mul_pos hn Cu
  omega
 have ZP:((Array.range (n * ei.size)).map (ez.cells[· % ez.cells.size]!)).toList=(List.range n).flatMap fun _=>ez.cells.toList:=by
  rw[<- Xa];exact Jm ez.cells n
 obtain⟨cells,SC,lZ⟩:=Ok (place:=fun i=>some (i * ei.size,ei.size)) (parts.toList.map fun p=>(p.1,st.ev p.2)) (parts.toList.map fun p=>(p.1,a.eval p.2)) _ ((Array.range (n * ei.size)).map (ez.cells[· % ez.cells.size]!)) cs (by simp) eM
  (fun p hp'=>by
   obtain⟨q,hq,rfl⟩:=List.mem_map.1 hp'
   exact List.all_eq_true.1 xV q hq) (by rw[ZP];exact Lc hz1 n) hf
 have hr:=run_buildSlice (P:=P) w T e n (parts.map fun (i,x)=>(i,a.eval x)) cells ei ez hT Da Yg (by omega) hnz (by simpa using SC)
 have F6:cells.size=n * ei.size:=by
  have hlen:∀(place:Nat->Option (Nat × Nat)) (ps:List (Nat × AV)) (c out:List AV),gM place c ps=some out->out.length=c.length:=by
   intro place ps;induction ps with
   | nil=>intro c out h;simp[gM] at h;rw[h]
   | cons p ps ih =>
     intro c out h;obtain⟨i,x⟩:=p
     unfold gM at h;split at h
     ·cases h
     ·split at h
      ·rename_i hc;have:=ih _ _ h
       rw[this];simp
       omega
      ·cases h
  have h1:=hlen _ _ _ _ hf
  have h2:=lZ.len
  have h3:=(Lc (C:=ctx h0 w0 ρ st w) hz1 n).len
  rw[<- ZP] at h3;simp only[Array.length_toList,Array.size_map,Array.size_range] at h2 h3;omega
 refine⟨_,_,cells.toList,hr,World.grownBy_alloc w _ none,Ij ?_,lZ⟩
 refine⟨by simp[F6],.inr ⟨w.heap.size,n,cells,rfl,Nat.le_refl _,heap_alloc_new w _,Nat.le_refl _, ?_,F6, ?_⟩⟩
 ·have:n<=n * ei.size:=Nat.le_mul_of_pos_right n Cu
  simp only[maxLen];omega
 ·rw[<- F6,<- Array.length_toList,List.take_length]
theorem Xi (C:Ctx) {T e sz by_:Nat} {z:List Value} {n:Nat} (hs:dI P T=some (e,sz,by_)) (hz:dU P e=some z)
 (hb:n * by_<=140737488355328) (hm:n<=maxLen) :
 ∃v w' xs,(Instr.makeSlice T (.int .i64 n) (.int .i64 n)).run P w=.ok v w'/\w.grownBy w' none/\lO w' w.heap.size e sz v n xs/\fQ C ((List.range n).flatMap fun _=>z.map .v) xs:=by
 obtain⟨ei,ez,hT,Da,Yg,rfl,Xa,rfl,Cu⟩:=kD hs
 obtain⟨i',zv,Dm,SA,rfl,hz1⟩:=Aw hz
 rw[Da] at Dm
 cases Dm
 rw[Yg] at SA;cases SA
 obtain⟨w',hr,ho,hg⟩:=run_make_full (P:=P) w w.heap.size T e ei ez ei.size hT Da Yg rfl .i64 .i64 n (by rw[Nat.mul_comm];omega) hm (Nat.le_refl _)
 have ZP:(madeCells ez.cells (n * ei.size)).toList=(List.range n).flatMap fun _=>ez.cells.toList:=by
  unfold madeCells;rw[<- Xa];exact Jm ez.cells n
 exact⟨_,w',_,hr,hg,Ij ho,by rw[ZP];exact Lc hz1 n⟩
theorem SK (S:kM F h0 w0 nt ρ st a w) {T:Nat} {x y:AV} {s g:Nat} {e:jC} {u v:Value} (h:pZ P st T x y=some (s,g,e)) (hu:cK (ctx h0 w0 ρ st w) x u) (hv:cK (ctx h0 w0 ρ st w) y v) :
 ∃w',(Instr.storeAt T u v).run P w=.ok () w'/\kM F h0 w0 nt ρ (st.gT s g (some e)) a w':=by
 unfold pZ at h;split at h
 ·rename_i s' g' off
  split at h
  ·rename_i ba k hld;split at h
   ·rename_i hc;obtain⟨c1,c2⟩:=hc
    obtain⟨i,d,hi,hd,kS,rfl⟩:=Bu hld
    have LR:=hv.cells c2
    have hlen:=LR.len
    simp only[Array.length_toList] at hlen;cases hu with
    | ptr _ _ _ b hg hb =>
      have nA:cM (ρ s' g')=some b:=hb
      have main:∀(arr:Array Value) (B:Nat),w.heap[b]? = some (.cells arr B (0,0))->off+i.size<=arr.size ->
       (Instr.storeAt T (.pointer (some ⟨b,off,none⟩)) v).run P w=.ok () (w.setRow b (arr.toList.take off++v.cells.toList++arr.toList.drop (off+i.size)).toArray):=by
       intro arr B hh hle;have xV:=run_storeCells_at P b off B v.cells.toList 0 arr w hh (by simp;omega) (fun y hy=>by
        obtain⟨j,hj,rfl⟩:=List.getElem_of_mem hy
        exact LR.one j _ (by simp))
       simp only[Nat.add_zero,Array.length_toList] at xV;simp only[Instr.storeAt,Instr.sureAddr];rw[dF (Sem.run_pure P w _)];simp only[storeVar,dF (run_sizeOf w hi)];rw[if_neg (by omega),show off+i.size=off+v.cells.size by omega]
       exact xV
      have grown:∀(cs:Array Value),w.grownBy (w.setRow b cs) (some b):=fun cs=>⟨rfl,rfl,rfl,by simp,fun k _ hk=>setRow_other w b k cs (fun e=>hk (by rw[e]))⟩
      cases he:st.heap s' g' with
      | none=>simp[he] at h
      | some e' =>
        obtain⟨_,_,her⟩:=S.rT s' g' _ he
        cases e' with
        | cells cs =>
          simp only[he] at h;split at h
          ·rename_i hle;simp only[Option.some.injEq,Prod.mk.injEq] at h;obtain⟨rfl,rfl,rfl⟩:=h
           obtain⟨b',arr,B,jP,uU,hh,hc⟩:=her
           have vI:b'=b:=by rw[jP] at nA;simpa [cM] using nA
           subst vI;have hl:=hc.len
           simp only[Array.length_toList] at hl;refine⟨_,main arr B hh (by omega),S.store he nA (grown _) fun C k=>⟨b',_,B,jP,uU,setRow_heap w b' arr _ B (0,0) hh, ?_⟩⟩
           exact (((hc.take off).app LR).app (hc.drop _)).le k
          ·cases h
        | row e2 sz n cs =>
          simp only[he] at h;split at h
          ·rename_i hle;simp only[Option.some.injEq,Prod.mk.injEq] at h;obtain⟨rfl,rfl,rfl⟩:=h
           obtain⟨xs,ho,hc⟩:=her
           have ho':=ho
           rcases ho.2 with ⟨p,jP,_⟩|⟨b',cap,cur,jP,uU,hh,We,LI,Ig,ht,oV⟩
           ·rw[jP,oE] at nA;cases nA
           ·have vI:b'=b:=by rw[jP,gV oV] at nA;simpa using nA
            subst vI;have hl:=hc.len
            have hx:=ho.1
            have hle2:n * sz<=cap * sz:=Nat.mul_le_mul_right _ We
            refine⟨_,main cur e2 hh (by omega),S.store he nA (grown _) fun C k=>⟨xs.take off++v.cells.toList++xs.drop (off+i.size), ?_,(((hc.take off).app LR).app (hc.drop _)).le k⟩⟩
            refine⟨by simp;omega,.inr ⟨b',cap,_,jP,uU,setRow_heap w b' cur _ e2 (0,0) hh,We,LI,by simp;omega, ?_,oV⟩⟩
            simp only
            rw[<- ht];have Bl:cur.toList.length=cur.size:=rfl
            have hvl:v.cells.toList.length=v.cells.size:=rfl
            have l1:(cur.toList.take off++v.cells.toList).length=off+i.size:=by simp;omega
            rw[List.take_append,l1,List.take_of_length_le (by omega),List.drop_take,List.take_take,Nat.min_eq_left (by omega)]
          ·cases h
        | map es=>simp[he] at h
        | Dh e sz n cs=>simp[he] at h
   ·cases h
  ·cases h
 ·cases h
end
end Go.Ab
end
