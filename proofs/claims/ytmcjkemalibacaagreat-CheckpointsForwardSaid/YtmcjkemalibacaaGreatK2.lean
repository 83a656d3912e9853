/-
  Part 2 of the proof: an evaluator of programs, its soundness, and what functions of this program compute.
-/
import Derived.Test.YtmcjkemalibacaaGreatK1
import Derived.Laws.Tables
import Derived.Laws.OwnMore
import Derived.Great.BuildSlice
import Derived.MapKept
set_option linter.all false
set_option maxRecDepth 20000
set_option maxHeartbeats 40000000
open List
noncomputable section
section
namespace Go.Ab
open Classical
def foldl_set (off:Nat):∀(vs:List Value) (k:Nat) (cs:Array Value),off+k+vs.length<=cs.size ->
 ((vs.zipIdx k).foldl (fun cs (x:Value × Nat)=>cs.setIfInBounds (off+x.2) x.1) cs).toList=cs.toList.take (off+k)++vs++cs.toList.drop (off+k+vs.length)
 | [],k,cs,h=>by simp
 | v :: vs,k,cs,h=>by
   simp only[zipIdx_cons,foldl_cons];simp only[length_cons] at h;rw[foldl_set off vs (k+1) (cs.setIfInBounds (off+k) v) (by simp;omega)]
   have aW:off+k<cs.size:=by omega
   have Ij:off+k<cs.toList.length:=by simpa using aW
   have e1:(cs.setIfInBounds (off+k) v).toList=cs.toList.set (off+k) v:=by simp
   rw[e1,show off+(k+1)=off+k+1 by omega]
   have e2:cs.toList.set (off+k) v=cs.toList.take (off+k)++v :: cs.toList.drop (off+k+1):=by
    rw[set_eq_take_append_cons_drop,if_pos Ij]
   have l1:(cs.toList.take (off+k)).length=off+k:=by simp;omega
   have e3:(cs.toList.set (off+k) v).take (off+k+1)=cs.toList.take (off+k)++[v]:=by
    rw[e2,take_append,l1,take_of_length_le (by rw[l1];omega),show off+k+1-(off+k)=1 by omega]
    simp
   have e4:(cs.toList.set (off+k) v).drop (off+k+1+vs.length)=cs.toList.drop (off+k+(vs.length+1)):=by
    rw[e2,drop_append,l1,drop_of_length_le (by rw[l1];omega),show off+k+1+vs.length-(off+k)=vs.length+1 by omega]
    simp only[drop_succ_cons,nil_append,drop_drop];congr 1
    omega
   rw[e3,e4];simp
section
variable {P:Program} {h0:Nat->Obj->Prop} {w0:World} {F:Gs} {nt:Nat} {ρ:Nat->Nat->Value} {st:St} {a:Act} {w:World}
theorem Pk {C:Ctx} {place:Nat->Option (Nat × Nat)}:∀(parts:List (Nat × AV)) (pv:List (Nat × Value)) (cells:List AV) (ys:Array Value) (out:List AV),
 parts.map (·.1)=pv.map (·.1)->lK C (parts.map (·.2)) (pv.map (·.2))->(∀p∈parts,p.2.jH=true)->fU C cells ys.toList->gS place cells parts=some out ->
 ∃zs,Instr.fill place ys pv=some zs/\fU C out zs.toList
 | [],pv,cells,ys,out,h1,h2,h3,h4,h5=>by
   cases pv with
   | nil=>simp[gS] at h5;subst h5;exact⟨ys,rfl,h4⟩
   | cons p pv=>simp at h1
 | (i,x) :: parts,[],cells,ys,out,h1,_,_,_,_=>by simp at h1
 | (i,x) :: parts,(i',v) :: pv,cells,ys,out,h1,h2,h3,h4,h5=>by
   simp only[map_cons,List.cons.injEq] at h1;obtain⟨rfl,h1⟩:=h1
   simp only[map_cons] at h2;have hx:=h2.head
   have hc:=hx.cells (h3 (i,x) (by simp))
   unfold gS at h5;unfold Instr.fill;cases hp:place i with
   | none=>simp[hp] at h5
   | some os =>
     obtain⟨off,size⟩:=os
     simp only[hp] at h5 ⊢;split at h5
     ·rename_i aBM;obtain⟨c1,c2⟩:=aBM
      have hl:=hc.len
      have hl4:=h4.len
      simp only[Array.length_toList] at hl hl4;have gJ:¬(v.cells.size≠size\/off+v.cells.size > ys.size):=by omega
      have hne':(decide (v.cells.size≠size) || decide (off+v.cells.size > ys.size))=false:=by simp;omega
      rw[if_neg (by simpa using gJ)]
      refine Pk parts pv _ _ out h1 h2.tail (fun p XR=>h3 p (by simp[XR])) ?_ h5
      have e:=foldl_set off v.cells.toList 0 ys (by simp;omega)
      simp only[Nat.add_zero,Array.length_toList] at e;have e2:(v.cells.zipIdx.foldl (fun cs (x:Value × Nat)=>cs.setIfInBounds (off+x.2) x.1) ys).toList=ys.toList.take off++v.cells.toList++ys.toList.drop (off+v.cells.size):=by
       rw[<- e,<- Array.foldl_toList,Array.toList_zipIdx]
      show fU C _ (v.cells.zipIdx.foldl (fun cs (x:Value × Nat)=>cs.setIfInBounds (off+x.2) x.1) ys).toList
      rw[e2];have e3:off+size=off+v.cells.size:=by omega
      rw[e3];exact ((h4.take off).app hc).app (h4.drop _)
     ·cases h5
theorem Bk {T:Nat} {z:List Value} (h:eK P T=some z):∃i zv,P.info? T=some i/\i.zero=some zv/\z=zv.cells.toList/\∀y∈z,y.oneCell'=true:=by
 unfold eK at h;split at h
 ·rename_i i hi;cases hz:i.zero with
  | none=>simp[hz] at h
  | some zv =>
    simp only[hz] at h;split at h
    ·rename_i h1;simp only[aAk] at h;subst h;exact⟨i,zv,hi,hz,rfl,all_eq_true.1 h1⟩
    ·cases h
 ·cases h
theorem TG (S:kS F h0 w0 nt ρ st a w) {T:Nat} {parts:Array (Nat × Operand)} {z:AV} (h:iX P st T parts.toList=some z) :
 ∃r,(Instr.build T (parts.map fun (i,x)=>(i,a.eval x))).run P w=.ok r w/\cX (ctx h0 w0 ρ st w) z r:=by
 unfold iX at h;cases hz:eK P T with
 | none=>simp[hz] at h
 | some zs =>
   cases hp:placeOf P T with
   | none=>simp[hz,hp] at h
   | some place =>
     simp only[hz,hp] at h;split at h
     ·rename_i tG;simp only[Option.map_eq_some_iff] at h;obtain⟨out,hf,rfl⟩:=h
      obtain⟨i,zv,hi,TH,rfl,hz1⟩:=Bk hz
      have fC:lK (ctx h0 w0 ρ st w) ((parts.toList.map fun p=>(p.1,st.ev p.2)).map (·.2)) ((parts.toList.map fun p=>(p.1,a.eval p.2)).map (·.2)):=by
       simp only[map_map];exact lK.map _ _ _ fun p _=>S.ev p.2
      obtain⟨cells,TJ,oO⟩:=Pk (place:=place) (parts.toList.map fun p=>(p.1,st.ev p.2)) (parts.toList.map fun p=>(p.1,a.eval p.2)) _ zv.cells out (by simp) fC
       (fun p XR=>by
        obtain⟨q,hq,rfl⟩:=mem_map.1 XR
        exact all_eq_true.1 tG q hq) (fU.vs _ _ hz1) hf
      have hbuilt:P.built T (parts.map fun (i,x)=>(i,a.eval x)).toList=some cells:=by
       unfold Program.built;unfold placeOf at hp;split at hp
       ·rename_i fs hu;split at hp
        ·rename_i Pl;simp only[aAk] at hp;simp only[hi,hu,TH];have hm:fs.toList.mapM (fun f=>(P.info? f.type).map fun i=>(f.offset,i.size))=some (fs.toList.map fun f=>(f.offset,P.cellsOf f.type)):=by
          have aBO:∀f∈fs.toList,(P.info? f.type).isSome=true:=fun f hf=>Array.all_eq_true_iff_forall_mem.1 Pl f (Array.mem_toList_iff.1 hf)
          generalize fs.toList=l at aBO
          induction l with
          | nil=>rfl
          | cons f l ih =>
            obtain⟨j,hj⟩:=Option.isSome_iff_exists.1 (aBO f (by simp))
            rw[mapM_cons,ih fun g hg=>aBO g (by simp[hg])]
            simp[hj,rU hj]
         rw[hm];simp only
         have:(fun x=>(fs.toList.map fun f=>(f.offset,P.cellsOf f.type)).toArray[x]?)=place:=by
          rw[<- hp];funext j
          simp
         rw[this];simpa using TJ
        ·cases hp
       ·rename_i n e hu;split at hp
        ·rename_i hsome;obtain⟨ie,Dx⟩:=Option.isSome_iff_exists.1 hsome
         simp only[aAk] at hp;simp only[hi,hu,TH,Dx];rw[<- hp] at TJ;simpa [rU Dx] using TJ
        ·cases hp
       ·cases hp
      refine⟨_,run_build w T _ cells hbuilt, ?_⟩
      exact .agg _ _ (by simpa using oO.len) (fun j x y hx hy=>oO.rel j x y hx (by simpa using hy)) (fun j y hy=>oO.one j y (by simpa using hy))
     ·cases h
end
end Go.Ab
end
section
namespace Go.Ab
open Classical
section
variable {P:Program}
def zG (x:Value):List MapEntry->Nat->Option (Nat × Value)
 | [],_=>none
 | e :: r,i=>if x=e.key then some (i,e.val) else zG x r (i+1)
theorem mk_inj {agg:Bool} {l:List Bool} {us vs:List Value} (h:gF l us vs) (ha:agg=false->l.length=1):mk agg us=mk agg vs↔us=vs:=by
 cases agg with
 | true=>simp[mk]
 | false =>
   have h1:=ha rfl
   obtain⟨e1,e2⟩:=lR _ _ _ h
   obtain⟨a,rfl⟩:=length_eq_one_iff.1 (e1.trans h1)
   obtain⟨b,rfl⟩:=length_eq_one_iff.1 (e2.trans h1)
   simp[mk]
theorem Ye (w:World) {k:Nat} {l:List Bool} {us vs:List Value} (hl:fD P 20 k=some l) (h:gF l us vs) :
 (Op.equal k (mk (dH P k) us) (mk (dH P k) vs)).run P w=.ok (decide (mk (dH P k) us=mk (dH P k) vs)) w:=by
 have:=Dk (P:=P) 20 10000 (by omega) w k l hl us vs h
 unfold Op.equal Op.maxDepth;rw[this];congr 1
 rw[Bool.eq_iff_iff];simp[mk_inj h (oU 20 k l hl)]
def aBP (P:Program) (k:Nat) (l:List Bool) (us:List Value) (es:List MapEntry):Prop:=∀e∈es,∃vs,e.key=mk (dH P k) vs/\gF l us vs
theorem Kb (w:World) {k:Nat} {l:List Bool} {us:List Value} (hl:fD P 20 k=some l):∀(es:List MapEntry) (i:Nat),aBP P k l us es ->
 (Instr.findAsking k (mk (dH P k) us) es i).run P w=.ok (zG (mk (dH P k) us) es i) w
 | [],i,_=>by simp[Instr.findAsking,zG]
 | e :: es,i,h=>by
   obtain⟨vs,hk,hv⟩:=h e (by simp)
   have ih:=Kb w hl es (i+1) (fun x hx=>h x (by simp[hx]))
   have he:=Ye w hl hv
   simp only[Instr.findAsking,hk,Sem.run_bind,he,Result.andThen_ok,zG];by_cases hq:mk (dH P k) us=mk (dH P k) vs
   ·simp[hq]
   ·simp[hq,ih]
theorem Xh {q k0:IntKind} {a:Int}:∀(es:List MapEntry) (i:Nat),(∀e∈es,∃b,e.key=.int k0 b)->Instr.findNow (.int q) (.int k0 a) es i=some (zG (.int k0 a) es i)
 | [],i,_=>rfl
 | e :: es,i,h=>by
   obtain⟨b,hk⟩:=h e (by simp)
   have ih:=Xh (q:=q) (a:=a) es (i+1) (fun x hx=>h x (by simp[hx]))
   simp only[Instr.findNow,Instr.sameNow,hk,if_true,zG];by_cases hq:a=b
   ·subst hq;simp
   ·have:(a == b)=false:=by simp[hq]
    simp[this,ih,hq]
theorem Rz {a:Bool}:∀(es:List MapEntry) (i:Nat),(∀e∈es,∃b,e.key=.bool b)->Instr.findNow .bool (.bool a) es i=some (zG (.bool a) es i)
 | [],i,_=>rfl
 | e :: es,i,h=>by
   obtain⟨b,hk⟩:=h e (by simp)
   have ih:=Rz (a:=a) es (i+1) (fun x hx=>h x (by simp[hx]))
   simp only[Instr.findNow,Instr.sameNow,hk,zG];by_cases hq:a=b
   ·subst hq;simp
   ·have:(a == b)=false:=by simp[hq]
    simp[this,ih,hq]
theorem Nr {l:List Bool} {k:Nat} (h:Ed P l k=true):(∃q,P.underlying k=some (.int q))\/P.underlying k=some .bool \/
 ∃n e q i,P.underlying k=some (.array n e)/\P.underlying e=some (.int q)/\P.info? e=some i/\i.size=1/\l.length=n:=by
 unfold Ed at h;split at h
 ·rename_i q hq;exact .inl ⟨q,hq⟩
 ·rename_i hq;exact .inr (.inl hq)
 ·rename_i n e hu;split at h
  ·rename_i q hq;simp only[Bool.and_eq_true,decide_eq_true_eq] at h;obtain⟨⟨⟨h1,h2⟩,h3⟩,_⟩:=h
   obtain⟨i,hi⟩:=Option.isSome_iff_exists.1 h3
   exact .inr (.inr ⟨n,e,q,i,hu,hq,hi,by rw[<- rU hi];exact h1,h2⟩)
  ·cases h
 ·cases h
theorem Sa (w:World) {k:Nat} {l:List Bool} {us:List Value} (hl:fD P 20 k=some l) (hm:Ed P l k=true) (hu:gF l us us) {es:List MapEntry} (h:aBP P k l us es) :
 (Instr.findKey k (mk (dH P k) us) es).run P w=.ok (zG (mk (dH P k) us) es 0) w:=by
 rcases Nr hm with ⟨q,hk⟩|hk|⟨n,e,q,i,hk,_⟩
 ·have lB:dH P k=false:=by simp[dH,hk]
  have Iv:l=[true]:=by simpa [fD,hk] using hl.symm
  subst Iv
  have hus:∀vs,gF [true] us vs->∃k0 a b,us=[.int k0 a]/\vs=[.int k0 b]:=fun vs h=>by
   cases us with
   | nil=>simp[gF] at h
   | cons u us=>cases vs with
     | nil=>cases u<;>simp[gF] at h
     | cons v vs =>
       cases u<;>cases v<;>simp[gF] at h
       cases us<;>cases vs<;>simp[gF] at h
       subst h;exact⟨_,_,_,rfl,rfl⟩
  obtain⟨k0,a,_,e1,_⟩:=hus us hu
  have Sb:∀e∈es,∃b,e.key=.int k0 b:=fun e he=>by
   obtain⟨vs,h1,h2⟩:=h e he
   obtain⟨k1,a1,b1,e2,e3⟩:=hus vs h2
   rw[e1] at e2;simp at e2
   exact⟨b1,by rw[h1,lB,e3];simp[mk,e2.1]⟩
  have hx:mk (dH P k) us=.int k0 a:=by rw[lB,e1];rfl
  rw[hx];simp only[Instr.findKey,Sem.run_bind,bA hk,Result.andThen_ok,Xh es 0 Sb];rfl
 ·have lB:dH P k=false:=by simp[dH,hk]
  have Iv:l=[false]:=by simpa [fD,hk] using hl.symm
  subst Iv
  have hus:∀vs,gF [false] us vs->∃a b,us=[.bool a]/\vs=[.bool b]:=fun vs h=>by
   cases us with
   | nil=>simp[gF] at h
   | cons u us=>cases vs with
     | nil=>cases u<;>simp[gF] at h
     | cons v vs =>
       cases u<;>cases v<;>simp[gF] at h
       cases us<;>cases vs<;>simp[gF] at h
       exact⟨_,_,rfl,rfl⟩
  obtain⟨a,_,e1,_⟩:=hus us hu
  have Sb:∀e∈es,∃b,e.key=.bool b:=fun e he=>by
   obtain⟨vs,h1,h2⟩:=h e he
   obtain⟨a1,b1,e2,e3⟩:=hus vs h2
   exact⟨b1,by rw[h1,lB,e3];rfl⟩
  have hx:mk (dH P k) us=.bool a:=by rw[lB,e1];rfl
  rw[hx];simp only[Instr.findKey,Sem.run_bind,bA hk,Result.andThen_ok,Rz es 0 Sb];rfl
 ·have lB:dH P k=true:=by simp[dH,hk]
  cases es with
  | nil =>
    simp[Instr.findKey,bA hk,Instr.findNow,zG]
  | cons m es =>
    have hn:Instr.findNow (.array n e) (mk (dH P k) us) (m :: es) 0=none:=by
     simp[Instr.findNow,Instr.sameNow]
    simp only[Instr.findKey,Sem.run_bind,bA hk,Result.andThen_ok,hn];exact Kb w hl (m :: es) 0 h
theorem Ns (w:World) {k:Nat} {l:List Bool} {us:List Value} (hl:fD P 20 k=some l) (hm:Ed P l k=true) (hu:gF l us us) (em:Bool) :
 (Instr.checkKey em 10000 k (mk (dH P k) us)).run P w=.ok () w:=by
 have plain:∀(n t:Nat) (q:IntKind) (x:Value),P.underlying t=some (.int q)->(Instr.checkKey em (n+1) t x).run P w=.ok () w:=fun n t q x ht=>by
  simp[Instr.checkKey,bA ht]
 rcases Nr hm with ⟨q,hk⟩|hk|⟨n,e,q,i,hk,he,hi,hs,hn⟩
 ·exact plain 9999 k q _ hk
 ·have plainB:∀(n t:Nat) (x:Value),P.underlying t=some .bool->(Instr.checkKey em (n+1) t x).run P w=.ok () w:=fun n t x ht=>by
   simp[Instr.checkKey,bA ht]
  exact plainB 9999 k _ hk
 ·have lB:dH P k=true:=by simp[dH,hk]
  have hea:dH P e=false:=by simp[dH,he]
  have hlen:=(lR _ _ _ hu).1
  rw[lB];simp only[mk,if_true];rw[show (10000:Nat)=9999+1 from rfl,Instr.checkKey];simp only[Sem.run_bind,bA hk,Result.andThen_ok];simp only[Std.Legacy.Range.forIn_eq_forIn_range',Std.Legacy.Range.size,Nat.sub_zero,Nat.add_one_sub_one,Nat.div_one];have each:∀j∈List.range' 0 n,j<us.length:=fun j hj=>by
   have:=mem_range'_1.1 hj
   omega
  generalize List.range' 0 n=is at each
  induction is with
  | nil=>simp
  | cons j is ih =>
    have hj:=each j (by simp)
    have p1:=Ja w he hi us j (fun _=>hs) (by omega)
    simp only[forIn_cons,Sem.run_bind,run_sizeOf w hi,hs,Nat.mul_one,Result.andThen_ok,p1,plain 9998 e q _ he,Sem.run_pure];exact ih fun y hy=>each y (by simp[hy])
theorem xL:∀(l:List Bool) (us:List Value),gF l us us->∀x∈us,∀n,Instr.sameBits n x x=true
 | [],[],_,x,hx,n=>by simp at hx
 | true :: l,.int k a :: us,h,x,hx,n=>by
   rcases mem_cons.1 hx with rfl|hx
   ·cases n<;>simp[Instr.sameBits]
   ·exact xL l us h.2 x hx n
 | false :: l,.bool a :: us,h,x,hx,n=>by
   rcases mem_cons.1 hx with rfl|hx
   ·cases n<;>simp[Instr.sameBits]
   ·exact xL l us h x hx n
theorem R3 (w:World) {agg:Bool} {l:List Bool} {us:List Value} (hu:gF l us us) (ha:agg=false->l.length=1):(Instr.keyThatStays (mk agg us) (mk agg us)).run P w=.ok (mk agg us) w:=by
 have hs:Instr.sameBits 10000 (mk agg us) (mk agg us)=true:=by
  cases agg with
  | true =>
    simp only[mk,if_true];show Instr.sameBits (9999+1) _ _=true
    simp only[Instr.sameBits,beq_self_eq_true,Bool.true_and];have Pl:∀x∈us,Instr.sameBits 9999 x x=true:=fun x hx=>xL l us hu x hx 9999
    clear hu
    induction us with
    | nil=>rfl
    | cons x us ih =>
      simp only[zip_cons_cons,all_cons,Bool.and_eq_true];exact⟨Pl x (by simp),ih fun y hy=>Pl y (by simp[hy])⟩
  | false =>
    obtain⟨a,rfl⟩:=length_eq_one_iff.1 ((lR _ _ _ hu).1.trans (ha rfl))
    exact xL l [a] hu a (by simp) 10000
 simp[Instr.keyThatStays,hs]
theorem Sc {k:Nat} {x y:AV} {C:Ctx} {u v:Value} (h:Gq P k x y) (hu:cX C x u) (hv:cX C y v) :
 ∃l us vs,fD P 20 k=some l/\gF l us vs/\u=mk (dH P k) us/\v=mk (dH P k) vs/\(x=y↔u=v):=by
 unfold Gq at h;cases hl:fD P 20 k with
 | none=>simp[hl] at h
 | some l =>
   simp only[hl] at h;obtain⟨h1,h2,h3⟩:=h
   cases lB:dH P k with
   | true =>
     obtain⟨⟨cs,rfl⟩,ds,rfl⟩:=h2 lB
     obtain⟨us,vs,e1,e2,e3⟩:=Eh _ _ _ h1
     simp only[AV.cells] at e1 e2;subst e1;subst e2;have eu:=Cj hu
     have ev:=Cj hv
     refine⟨l,us,vs,rfl,e3,by rw[eu];rfl,by rw[ev];rfl, ?_⟩
     rw[eu,ev];simp[HV]
   | false =>
     obtain⟨⟨a,rfl⟩,b,rfl⟩:=h3 lB
     obtain⟨us,vs,e1,e2,e3⟩:=Eh _ _ _ h1
     have eu:=iL hu
     have ev:=iL hv
     subst eu;subst ev;have f1:us=[u]:=by
      cases us with
      | nil=>simp[AV.cells] at e1
      | cons c us=>simp[AV.cells] at e1;simp[e1.1,<- e1.2]
     have f2:vs=[v]:=by
      cases vs with
      | nil=>simp[AV.cells] at e2
      | cons c vs=>simp[AV.cells] at e2;simp[e2.1,<- e2.2]
     subst f1;subst f2;exact⟨l,_,_,rfl,e3,rfl,rfl,by simp⟩
theorem CK {k:Nat} {x:AV} {C:Ctx} {u:Value} {l:List Bool} {us:List Value} (hl:fD P 20 k=some l) (hu:cX C x u) (he:u=mk (dH P k) us) (hx:gF l us us):∀ {es:List (AV × AV)} {ms:List MapEntry},
 (∀p∈es,Gq P k x p.1)->Zw C es ms->aBP P k l us ms
 | [],[],_,_=>fun e h=>by simp at h
 | p :: es,m :: ms,hk,h=>by
   have ih:=CK hl hu he hx (es:=es) (ms:=ms) (fun q hq=>hk q (by simp[hq])) h.2.2
   intro e hem;rcases mem_cons.1 hem with rfl|hem
   ·obtain⟨l',us',vs,e1,e2,e3,e4,_⟩:=Sc (hk p (by simp)) hu h.1
    rw[hl] at e1;cases e1
    refine⟨vs,e4, ?_⟩
    have:us'=us:=by
     rw[he] at e3;have hlen1:=(lR _ _ _ hx).1
     have aAh:=(lR _ _ _ e2).1
     cases lB:dH P k with
     | true=>rw[lB] at e3;simpa [mk] using e3.symm
     | false =>
       have h1:=oU 20 k l hl lB
       obtain⟨a,rfl⟩:=length_eq_one_iff.1 (hlen1.trans h1)
       obtain⟨b,rfl⟩:=length_eq_one_iff.1 (aAh.trans h1)
       rw[lB] at e3;simpa [mk] using e3.symm
    rw[<- this];exact e2
   ·exact ih e hem
 | [],_ :: _,_,h=>h.elim
 | _ :: _,[],_,h=>h.elim
theorem JY {k:Nat} {x:AV} {C:Ctx} {u:Value} (hu:cX C x u):∀ {es:List (AV × AV)} {ms:List MapEntry} (i:Nat),(∀p∈es,Gq P k x p.1)->Zw C es ms ->
 (aAa es x=none/\zG u ms i=none)\/∃v y j,aAa es x=some v/\zG u ms i=some (i+j,y)/\cX C v y/\j<ms.length
 | [],[],i,_,_=>.inl ⟨rfl,rfl⟩
 | p :: es,m :: ms,i,hk,h=>by
   obtain⟨l',us',vs,e1,e2,e3,e4,e5⟩:=Sc (hk p (by simp)) hu h.1
   simp only[aAa,zG];by_cases hq:x=p.1
   ·rw[if_pos hq.symm,if_pos (e5.1 hq)];exact .inr ⟨_,_,0,rfl,rfl,h.2.1,by simp⟩
   ·rw[if_neg (Ne.symm hq),if_neg (fun h'=>hq (e5.2 h'))]
    rcases JY hu (es:=es) (ms:=ms) (i+1) (fun q hq=>hk q (by simp[hq])) h.2.2 with ⟨h1,h2⟩|⟨v,y,j,h1,h2,h3,h4⟩
    ·exact .inl ⟨h1,h2⟩
    ·exact .inr ⟨v,y,j+1,h1,by rw[h2];congr 2;omega,h3,by simp;omega⟩
 | [],_ :: _,_,_,h=>h.elim
 | _ :: _,[],_,_,h=>h.elim
theorem JZ {k:Nat} {x z:AV} {C:Ctx} {u y:Value} (hu:cX C x u) (hz:cX C z y):∀ {es:List (AV × AV)} {ms:List MapEntry} (i:Nat),(∀p∈es,Gq P k x p.1)->Zw C es ms ->
 (zG u ms i=none/\∀c,Zw C (aAb es x z) (ms++[{ key:=u,val:=y,born:=c }])) \/
 ∃v j,zG u ms i=some (i+j,v)/\(∃m,ms[j]? = some m/\m.key=u)/\Zw C (aAb es x z) (ms.modify j fun e=>{ e with key:=u,val:=y })
 | [],[],i,_,_=>.inl ⟨rfl,fun c=>⟨hu,hz,trivial⟩⟩
 | p :: es,m :: ms,i,hk,h=>by
   obtain⟨l',us',vs,e1,e2,e3,e4,e5⟩:=Sc (hk p (by simp)) hu h.1
   simp only[aAb,zG];by_cases hq:x=p.1
   ·rw[if_pos hq.symm,if_pos (e5.1 hq)];exact .inr ⟨_,0,rfl,⟨m,rfl,(e5.1 hq).symm⟩,by simp[List.modify];exact⟨hu,hz,h.2.2⟩⟩
   ·rw[if_neg (Ne.symm hq),if_neg (fun h'=>hq (e5.2 h'))]
    rcases JZ hu hz (es:=es) (ms:=ms) (i+1) (fun q hq=>hk q (by simp[hq])) h.2.2 with ⟨h1,h2⟩|⟨v,j,h1,h2,h3⟩
    ·exact .inl ⟨h1,fun c=>⟨h.1,h.2.1,h2 c⟩⟩
    ·exact .inr ⟨v,j+1,by rw[h1];congr 2;omega,by simpa using h2,by simp[modify_succ_cons];exact⟨h.1,h.2.1,h3⟩⟩
 | [],_ :: _,_,_,h=>h.elim
 | _ :: _,[],_,_,h=>h.elim
theorem Sd {T k:Nat} {z:AV} (h:Yy P T=some (k,z)):∃e l zv,P.underlying T=some (.map k e)/\fD P 20 k=some l/\Ed P l k=true /\
 (∀w,(zeroValue e).run P w=.ok zv w)/\∀C:Ctx,cX C z zv:=by
 unfold Yy at h;split at h
 ·rename_i k' e hT
  split at h
  ·rename_i l z' hl hz
   split at h
   ·rename_i hm;simp only[aAk,Prod.mk.injEq] at h;obtain⟨rfl,rfl⟩:=h
    unfold aGr at hz;split at hz
    ·rename_i i hi;split at hz
     ·rename_i cs TH;split at hz
      ·rename_i Pl;simp only[aAk] at hz;subst hz;refine⟨e,l,_,hT,hl,hm,fun w=>Dj w hi TH,fun C=>?_⟩
       have hc:=fU.vs C cs.toList (all_eq_true.1 Pl)
       exact .agg _ _ (by simp) (fun j x y hx hy=>hc.rel j x y hx (by simpa using hy)) (fun j y hy=>hc.one j y (by simpa using hy))
      ·cases hz
     ·rename_i y hy TH;split at hz
      ·simp only[aAk] at hz;subst hz;exact⟨e,l,_,hT,hl,hm,fun w=>Dj w hi TH,fun C=>.v _⟩
      ·cases hz
     ·cases hz
    ·cases hz
   ·cases h
  ·cases h
 ·cases h
end
section
variable {P:Program} {h0:Nat->Obj->Prop} {w0:World} {F:Gs} {nt:Nat} {ρ:Nat->Nat->Value} {st:St} {a:Act} {w:World}
theorem n5 (S:kS F h0 w0 nt ρ st a w) {T:Nat} {m x z:AV} {ok:Bool} {mv xv:Value} (h:Wq P st T m x ok=some z) (hm:cX (ctx h0 w0 ρ st w) m mv) (hx:cX (ctx h0 w0 ρ st w) x xv) :
 ∃r,(Instr.lookup T mv xv ok).run P w=.ok r w/\cX (ctx h0 w0 ρ st w) z r:=by
 unfold Wq at h;split at h
 ·rename_i s g;split at h
  ·rename_i es k zd he hi;split at h
   ·rename_i hk;obtain⟨e,l,zv,hT,hl,hmk,hz,hzr⟩:=Sd hi
    obtain⟨_,_,b,arr,clock,jU,_,hh,hml⟩:=S.sS s g _ he
    obtain⟨l',us,vs,e1,e2,e3,e4,_⟩:=Sc hk.1 hx hx
    rw[hl] at e1;cases e1
    have XN:vs=us:=by
     rw[e3] at e4;have hlen:=lR _ _ _ e2
     cases lB:dH P k with
     | true=>rw[lB] at e4;simpa [mk] using e4.symm
     | false =>
       have h1:=oU 20 k l hl lB
       obtain⟨p,rfl⟩:=length_eq_one_iff.1 (hlen.1.trans h1)
       obtain⟨q,rfl⟩:=length_eq_one_iff.1 (hlen.2.trans h1)
       rw[lB] at e4;simpa [mk] using e4.symm
    subst XN;have Sb:=CK hl hx e3 e2 hk.2 hml
    cases hm with
    | mp _ _ hg ho =>
      show ∃r,(Instr.lookup T (ρ s g) xv ok).run P w=.ok r w/\_
      rw[jU,e3];have hck:=Ns w hl hmk e2 arr.isEmpty
      have hfk:=Sa w hl hmk e2 Sb
      rcases JY hx 0 hk.2 hml with ⟨h1,h2⟩|⟨v,y,j,h1,h2,h3,_⟩
      ·rw[h1] at h;simp only[aAk] at h;subst h;rw[e3] at h2;rw[h2] at hfk;refine⟨if ok=true then .tuple #[zv,.bool false] else zv,by
        simp[Instr.lookup,bA hT,MapKept.run_getObj_map hh,hck,hfk,hz w], ?_⟩
       cases ok
       ·exact hzr _
       ·exact .eH _ _ rfl fun i x y hx hy=>by
         match i with
         | 0=>simp at hx hy;subst hx;subst hy;exact hzr _
         | 1=>simp at hx hy;subst hx;subst hy;exact .v _
         | i+2=>simp at hx
      ·rw[h1] at h;simp only[aAk] at h;subst h;rw[e3] at h2;rw[h2] at hfk;refine⟨if ok=true then .tuple #[y,.bool true] else y,by
        simp[Instr.lookup,bA hT,MapKept.run_getObj_map hh,hck,hfk], ?_⟩
       cases ok
       ·exact h3
       ·exact .eH _ _ rfl fun i x y hx hy=>by
         match i with
         | 0=>simp at hx hy;subst hx;subst hy;exact h3
         | 1=>simp at hx hy;subst hx;subst hy;exact .v _
         | i+2=>simp at hx
   ·cases h
  ·cases h
 ·cases h
theorem MG (S:kS F h0 w0 nt ρ st a w) {T s g:Nat} {m x y:AV} {e:oA} {mv xv yv:Value} (h:uP P st T m x y=some (s,g,e))
 (hm:cX (ctx h0 w0 ρ st w) m mv) (hx:cX (ctx h0 w0 ρ st w) x xv) (hy:cX (ctx h0 w0 ρ st w) y yv) :
 ∃w',(Instr.mapUpdate T mv xv yv).run P w=.ok () w'/\kS F h0 w0 nt ρ (st.jG s g (some e)) a w':=by
 unfold uP at h;split at h
 ·rename_i s' g'
  split at h
  ·rename_i es k zd he hi;split at h
   ·rename_i hk;obtain⟨hk,tG⟩:=hk
    simp only[aAk,Prod.mk.injEq] at h;obtain⟨rfl,rfl,rfl⟩:=h
    obtain⟨e,l,zv,hT,hl,hmk,hz,hzr⟩:=Sd hi
    obtain⟨_,_,b,arr,clock,jU,yI,hh,hml⟩:=S.sS s' g' _ he
    obtain⟨l',us,vs,e1,e2,e3,e4,_⟩:=Sc hk.1 hx hx
    rw[hl] at e1;cases e1
    have XN:vs=us:=by
     rw[e3] at e4;have hlen:=lR _ _ _ e2
     cases lB:dH P k with
     | true=>rw[lB] at e4;simpa [mk] using e4.symm
     | false =>
       have h1:=oU 20 k l hl lB
       obtain⟨p,rfl⟩:=length_eq_one_iff.1 (hlen.1.trans h1)
       obtain⟨q,rfl⟩:=length_eq_one_iff.1 (hlen.2.trans h1)
       rw[lB] at e4;simpa [mk] using e4.symm
    subst XN;have Sb:=CK hl hx e3 e2 hk.2 hml
    clear e4
    subst e3;have oM:dD (ρ s' g')=some b:=by rw[jU];rfl
    have grown:∀o,w.grownBy { w with heap:=w.heap.setIfInBounds b o } (some b):=fun o=>⟨rfl,rfl,rfl,by simp,fun k _ hk=>by
     have gJ:b≠k:=fun e=>hk (by rw[e])
     simp[gJ]⟩
    cases hm with
    | mp _ _ hg ho =>
      show ∃w',(Instr.mapUpdate T (ρ s' g') _ yv).run P w=.ok () w'/\_
      have hck:=Ns w hl hmk e2 false
      have hfk:=Sa w hl hmk e2 Sb
      have aW:b<w.heap.size:=(Array.getElem?_eq_some_iff.1 hh).1
      rcases JZ (z:=y) hx hy 0 hk.2 hml with ⟨h1,h2⟩|⟨v,j,h1,⟨m0,hm0,hmk0⟩,h3⟩
      ·rw[h1] at hfk;refine⟨_,by
        rw[jU];simp only[Instr.mapUpdate,Sem.run_bind,bA hT,MapKept.run_getObj_map hh,Result.andThen_ok,hck,hfk,MapKept.run_setObj_map _ hh];rfl,S.store he oM (grown _) fun C kk=>?_⟩
       refine⟨b,arr.push { key:=mk (dH P k) vs,val:=yv,born:=clock },clock+1,jU,yI,by simp[aW], ?_⟩
       have:=(h2 clock).le kk
       simpa using this
      ·rw[h1] at hfk;have tG:=R3 (P:=P) w (agg:=dH P k) e2 (oU 20 k l hl)
       have hm0':arr[j]? = some m0:=by simpa using hm0
       have hkey:((arr[0+j]?).map (·.key)).getD (mk (dH P k) vs)=mk (dH P k) vs:=by
        rw[Nat.zero_add,hm0'];simp[hmk0]
       refine⟨_,by
        rw[jU];simp only[Instr.mapUpdate,Sem.run_bind,bA hT,MapKept.run_getObj_map hh,Result.andThen_ok,hck,hfk,hkey,tG,MapKept.run_setObj_map _ hh];rfl,S.store he oM (grown _) fun C kk=>?_⟩
       refine⟨b,arr.modify (0+j) fun e=>{ e with key:=mk (dH P k) vs,val:=yv },clock,jU,yI,by simp[aW], ?_⟩
       have:=h3.le kk
       simpa [Array.toList_modify] using this
   ·cases h
  ·cases h
 ·cases h
end
end Go.Ab
end
section
namespace Go.Ab
open Classical
section
variable {P:Program} {h0:Nat->Obj->Prop} {w0:World} {F:Gs} {nt:Nat} {ρ:Nat->Nat->Value} {st:St} {a:Act} {w:World}
theorem TK (S:kS F h0 w0 nt ρ st a w) {T:Nat} {x z:AV} {lo hi:Option Operand} {u:Value} (h:cZ P st T x lo hi=some z) (hu:cX (ctx h0 w0 ρ st w) x u) :
 ∃r,(Instr.sliceAt T u (lo.map a.eval) (hi.map a.eval) none).run P w=.ok r w/\cX (ctx h0 w0 ρ st w) z r:=by
 unfold cZ at h;cases hs:dX P T with
 | none =>
   simp only[hs] at h;split at h
   ·rename_i n sz s g o ha;obtain⟨e,ei,hT,hi,rfl,gJ⟩:=Qr ha
    cases he:st.heap s g with
    | none=>simp[he] at h
    | some en =>
      cases en with
      | cells es =>
        simp only[he,aAk] at h;subst h;obtain⟨_,_,b1,arr,T1,jU,_⟩:=S.sS s g _ he
        cases hu with
        | ptr _ _ _ b hg hb =>
          refine⟨.slice (some ⟨b,o,none⟩) n n, ?_,.vw s g o n b n hg hb (Nat.le_refl _) (fun ho p n0 c0 hc=>by
           have h2:ρ s g=.slice p n0 c0:=hc
           rw[jU] at h2;cases h2)⟩
          simp[Instr.sliceAt,bA hT,Instr.sureAddr,Instr.sliceBounds,run_sizeOf w hi,lF]
      | _=>simp[he] at h
   ·cases h
 | some t =>
   obtain⟨e,sz,by_⟩:=t
   simp only[hs] at h;obtain⟨ei,ez,hT,Dx,FK,rfl,FF,rfl,uJ⟩:=kK hs
   have hiv:∀(o:Option Operand) (n:Int) (k:IntKind) (i:Int),(match o with|some h=>st.ev h|none=>AV.v (.int .i64 n))=.v (.int k i) ->
    (match o with|some h=>a.eval h|none=>Value.int .i64 n)=.int k i:=fun o n k i ho=>by
    cases o with
    | none=>simp only at ho ⊢;cases ho;rfl
    | some p =>
      simp only at ho ⊢
      have:=S.ev p
      rw[ho] at this;exact iL this
   have qT:∀(p:Option Addr) (n cap:Nat) (kh kl:IntKind) (H L:Int),n<=cap->(match hi with|some h=>a.eval h|none=>Value.int .i64 n)=.int kh H->(match lo with|some l=>a.eval l|none=>Value.int .i64 0)=.int kl L ->
    0<=L->L<=H->H<=n ->
    (Instr.sliceAt T (.slice p n cap) (lo.map a.eval) (hi.map a.eval) none).run P w=.ok (.slice (if cap=L.toNat then p else p.map (·.add (L.toNat * ei.size))) (H.toNat-L.toNat) (cap-L.toNat)) w:=by
    intro p n cap kh kl H L nJ hh hl l0 l1 l2;have b1:H<=(cap:Int):=by omega
    have b2:L<=((H.toNat:Nat):Int):=by omega
    have b3:0<=H:=by omega
    have b6:max H 0=H:=by omega
    cases hi with
    | none =>
      simp only[Value.int.injEq] at hh;obtain⟨rfl,rfl⟩:=hh
      cases lo with
      | none =>
        simp only[Value.int.injEq] at hl;obtain⟨rfl,rfl⟩:=hl
        simp[Instr.sliceAt,Instr.slice,Instr.sliceBounds,bA hT,run_sizeOf w Dx]
      | some l =>
        simp only at hl
        simp[Instr.sliceAt,Instr.slice,Instr.sliceBounds,Instr.sliceBound,asIntOf,bA hT,run_sizeOf w Dx,hl,l0,l1]
    | some h =>
      simp only at hh
      cases lo with
      | none =>
        simp only[Value.int.injEq] at hl;obtain⟨rfl,rfl⟩:=hl
        simp[Instr.sliceAt,Instr.slice,Instr.sliceBounds,Instr.sliceBound,asIntOf,bA hT,run_sizeOf w Dx,hh,b3,b1]
      | some l =>
        simp only at hl
        simp[Instr.sliceAt,Instr.slice,Instr.sliceBounds,Instr.sliceBound,asIntOf,bA hT,run_sizeOf w Dx,hh,hl,l0,b3,b1,b6,l1]
   cases x with
   | sl n cs =>
     simp only at h
     split at h
     ·rename_i kh H kl L e1 e2;split at h
      ·rename_i hc;obtain⟨c1,c2,c3,c4⟩:=hc
       simp only[aAk] at h;subst h;have e1':=hiv hi n kh H e1
       have e2':=hiv lo 0 kl L e2
       have hHL:(H-L).toNat=H.toNat-L.toNat:=by omega
       cases hu with
       | KR n cap p nJ =>
         refine⟨_,qT p n cap kh kl H L nJ e1' e2' c1 c2 c3, ?_⟩
         rw[hHL];simp only[drop_nil,take_nil];exact .KR _ _ _ (by omega)
       | sl n cs b off cap arr T' fr nJ hb hle hr h1 =>
         refine⟨_,qT _ n cap kh kl H L nJ e1' e2' c1 c2 c3, ?_⟩
         rw[hHL];by_cases hm:cap=L.toNat
         ·have hz:H.toNat-L.toNat=0:=by omega
          rw[if_pos hm,hz];simp only[Nat.zero_mul,take_zero];exact .KR _ _ _ (by omega)
         ·rw[if_neg hm];simp only[aAo,lF];have hbound:L.toNat * ei.size+(H.toNat-L.toNat) * ei.size<=cs.length:=by
           rw[c4,<- Nat.add_mul];exact Nat.mul_le_mul_right _ (by omega)
          refine .sl _ _ b (off+L.toNat * ei.size) _ arr T' fr (by omega) hb (by simp;omega) (fun i x y hx hy=>?_) (fun i y Ei hy=>?_)
          ·rw[getElem?_take] at hx;split at hx
           ·rw[getElem?_drop] at hx;exact hr _ x y hx (by rw[<- Nat.add_assoc];exact hy)
           ·cases hx
          ·simp only[length_take,length_drop] at Ei
           exact h1 (L.toNat * ei.size+i) y (by omega) (by rw[<- Nat.add_assoc];exact hy)
      ·cases h
     ·cases h
   | v xv =>
     split at h
     ·rename_i heq;cases heq
     ·rename_i heq;cases heq
      split at h
      ·rename_i kh H kl L e1 e2;split at h
       ·rename_i hc;obtain⟨rfl,rfl⟩:=hc
        simp only[aAk] at h;subst h;have:=iL hu
        subst this;have e1':=hiv hi 0 kh 0 e1
        have e2':=hiv lo 0 kl 0 e2
        refine⟨_,qT none 0 0 kh kl 0 0 (Nat.le_refl _) e1' e2' (by omega) (by omega) (by omega), ?_⟩
        simp
        exact .v _
       ·cases h
      ·cases h
     ·rename_i heq;cases heq
     ·rename_i heq;cases heq
     ·cases h
   | own s g =>
     simp only at h
     cases he:st.heap s g with
     | none=>simp[he] at h
     | some en =>
       cases en with
       | row e' sV n es =>
         simp only[he] at h;split at h
         ·rename_i kh H kl L e1 e2;split at h
          ·rename_i hc;obtain⟨c1,c2,c3⟩:=hc
           have e1':=hiv hi n kh H e1
           have e2':=hiv lo 0 kl L e2
           have hHL:(H-L).toNat=H.toNat-L.toNat:=by omega
           obtain⟨aW,_,xs,ho,zO⟩:=S.sS s g _ he
           cases hu with
           | own _ _ hg h1 =>
             show ∃r,(Instr.sliceAt T (ρ s g) (lo.map a.eval) (hi.map a.eval) none).run P w=.ok r w/\_
             rcases ho.2 with ⟨p,jU,hn⟩|⟨b',cap,cur,jU,_,hh,Yf,_,_,ht,qM⟩
             ·rw[jU];subst hn;have hLH:L=H:=by omega
              rw[if_pos ⟨hLH,by omega⟩] at h
              simp only[aAk] at h;subst h;have hz:H.toNat-L.toNat=0:=by omega
              refine⟨_,qT p 0 0 kh kl H L (Nat.le_refl _) e1' e2' c1 c2 c3, ?_⟩
              rw[hz];exact .KR _ _ _ (by omega)
             ·rw[jU];refine⟨_,qT _ n cap kh kl H L Yf e1' e2' c1 c2 c3, ?_⟩
              split at h
              ·rename_i hLH;simp only[aAk] at h;subst h;have hz:H.toNat-L.toNat=0:=by omega
               rw[hz];exact .KR _ _ _ (by omega)
              ·rename_i hLH;simp only[aAk] at h;subst h;rw[if_neg (by omega),hHL]
               simp only[aAo,lF,Nat.zero_add];exact .vw s g _ _ b' _ hg (by show dD (ρ s g)=_;rw[jU,jJ qM]) (by omega) (fun hz p n0 c0 hc=>by
                have h3:L.toNat=0:=(Nat.mul_eq_zero.1 hz).resolve_right (by omega)
                have h2:ρ s g=.slice p n0 c0:=hc
                rw[jU] at h2;simp only[Value.slice.injEq] at h2;omega)
          ·cases h
         ·cases h
       | _=>simp[he] at h
   | vw s g o k =>
     cases o with
     | succ o=>simp at h
     | zero =>
     simp only at h
     split at h
     ·rename_i e' sV n es ho' Iv he
      split at h
      ·rename_i kh H kl L e1 e2;split at h
       ·rename_i hc;obtain⟨c1,c2,c3⟩:=hc
        simp only[aAk] at h;subst h;obtain⟨aW,_,xs,ho,zO⟩:=S.sS s g _ he
        cases hu with
        | vw _ _ _ _ b cap hg hb nJ Ao =>
          have oM:dD (ρ s g)=some b:=hb
          rcases ho.2 with ⟨p,jU,hn⟩|⟨b',FJ,cur,jU,_,hh,Yf,_,_,ht,qM⟩
          ·rw[jU,oR] at oM;cases oM
          ·have xG:b'=b:=by rw[jU,jJ qM] at oM;simpa using oM
           subst xG;have hcc:cap=FJ:=Ao rfl _ _ _ jU
           subst hcc;have f1:a.eval ho'=.int kh H:=by
            have:=S.ev ho'
            rw[e1] at this;exact iL this
           have f2:a.eval Iv=.int kl L:=by
            have:=S.ev Iv
            rw[e2] at this;exact iL this
           have b1:H<=(cap:Int):=by omega
           have b2:L<=((H.toNat:Nat):Int):=by omega
           have b3:0<=H:=by omega
           have b6:max H 0=H:=by omega
           have b7:¬cap=L.toNat:=by omega
           refine⟨.slice (some ⟨b',L.toNat * ei.size,none⟩) (H.toNat-L.toNat) (cap-L.toNat), ?_, ?_⟩
           ·simp[Instr.sliceAt,Instr.slice,Instr.sliceBounds,Instr.sliceBound,asIntOf,bA hT,run_sizeOf w Dx,f1,f2,c1,b3,b1,b6,b2,b7,lF,show L<=H by omega]
           ·rw[show (H-L).toNat=H.toNat-L.toNat by omega]
            exact .vw s g _ _ b' _ hg hb (by omega) (fun hz p n0 c0 hc=>by
             have h3:L.toNat=0:=(Nat.mul_eq_zero.1 hz).resolve_right (by omega)
             have h2:ρ s g=.slice p n0 c0:=hc
             rw[jU] at h2;simp only[Value.slice.injEq] at h2;omega)
       ·cases h
      ·cases h
     ·cases h
   | _=>first|(simp at h;done)|(cases h;done)
theorem MH (S:kS F h0 w0 nt ρ st a w) {T:Nat} {x z:AV} {lo:Option Operand} {hi mx:Operand} {u:Value} (h:Ch P st T x lo hi mx=some z) (hu:cX (ctx h0 w0 ρ st w) x u) :
 ∃r,(Instr.sliceAt T u (lo.map a.eval) (some (a.eval hi)) (some (a.eval mx))).run P w=.ok r w/\cX (ctx h0 w0 ρ st w) z r:=by
 unfold Ch at h;cases hs:dX P T with
 | none=>simp[hs] at h
 | some t =>
   obtain⟨e,sz,by_⟩:=t
   simp only[hs] at h;obtain⟨ei,ez,hT,Dx,FK,rfl,FF,rfl,uJ⟩:=kK hs
   have qV:∀(o:Operand) (k:IntKind) (i:Int),st.ev o=.v (.int k i)->a.eval o=.int k i:=fun o k i ho=>by
    have:=S.ev o
    rw[ho] at this;exact iL this
   split at h
   ·rename_i kh H km M kl L e1 e2 e3;have f1:=qV _ _ _ e1
    have f2:=qV _ _ _ e2
    have qT:∀(p:Option Addr) (n cap:Nat),n<=cap->0<=L->L<=H->H=M->H<=n ->
     (Instr.sliceAt T (.slice p n cap) (lo.map a.eval) (some (a.eval hi)) (some (a.eval mx))).run P w=.ok (.slice (if H.toNat=L.toNat then p else p.map (·.add (L.toNat * ei.size))) (H.toNat-L.toNat) (H.toNat-L.toNat)) w:=by
     intro p n cap nJ l0 l1 l2 l3;subst l2;have b1:H<=(cap:Int):=by omega
     have b2:L<=((H.toNat:Nat):Int):=by omega
     have b3:0<=H:=by omega
     have b4:H<=((H.toNat:Nat):Int):=by omega
     have b6:max H 0=H:=by omega
     cases lo with
     | none =>
       simp only[AV.v.injEq,Value.int.injEq] at e3;obtain⟨rfl,rfl⟩:=e3
       simp[Instr.sliceAt,Instr.slice,Instr.sliceBounds,Instr.sliceBound,asIntOf,bA hT,run_sizeOf w Dx,f1,f2,b3,b1,b4,b6]
     | some l =>
       simp only at e3
       have f3:=qV _ _ _ e3
       simp[Instr.sliceAt,Instr.slice,Instr.sliceBounds,Instr.sliceBound,asIntOf,bA hT,run_sizeOf w Dx,f1,f2,f3,l0,l1,b3,b1,b2,b4,b6]
    split at h
    ·rename_i n cs;split at h
     ·rename_i hc;obtain⟨c1,c2,c3,c4,c5⟩:=hc
      simp only[aAk] at h;subst h;have hHL:(H-L).toNat=H.toNat-L.toNat:=by omega
      cases hu with
      | KR n cap p nJ =>
        refine⟨_,qT p n cap nJ c1 c2 c3 c4, ?_⟩
        rw[hHL];simp only[drop_nil,take_nil];exact .cl0 _ _
      | sl n cs b off cap arr T' fr nJ hb hle hr h1 =>
        refine⟨_,qT _ n cap nJ c1 c2 c3 c4, ?_⟩
        rw[hHL];by_cases hm:H.toNat=L.toNat
        ·have hz:H.toNat-L.toNat=0:=by omega
         rw[if_pos hm,hz];simp only[Nat.zero_mul,take_zero];exact .cl0 _ _
        ·rw[if_neg hm];simp only[aAo,lF];have hbound:L.toNat * ei.size+(H.toNat-L.toNat) * ei.size<=cs.length:=by
          rw[c5,<- Nat.add_mul];exact Nat.mul_le_mul_right _ (by omega)
         refine .cl _ _ b (off+L.toNat * ei.size) arr T' fr hb (by simp;omega) (fun i x y hx hy=>?_) (fun i y Ei hy=>?_)
         ·rw[getElem?_take] at hx;split at hx
          ·rw[getElem?_drop] at hx;exact hr _ x y hx (by rw[<- Nat.add_assoc];exact hy)
          ·cases hx
         ·simp only[length_take,length_drop] at Ei
          exact h1 (L.toNat * ei.size+i) y (by omega) (by rw[<- Nat.add_assoc];exact hy)
     ·cases h
    ·split at h
     ·rename_i hc;obtain⟨c1,c2,c3⟩:=hc
      simp only[aAk] at h;subst h;have:=iL hu
      subst this;refine⟨_,qT none 0 0 (Nat.le_refl _) (by omega) (by omega) (by omega) (by omega), ?_⟩
      subst c2;simp
      exact .v _
     ·cases h
    ·rename_i s g;cases he:st.heap s g with
     | none=>simp[he] at h
     | some en =>
       cases en with
       | row e' sV n es =>
         simp only[he] at h;split at h
         ·rename_i hc;obtain⟨c1,c2,c3,c4⟩:=hc
          simp only[aAk] at h;subst h;obtain⟨aW,_,xs,ho,zO⟩:=S.sS s g _ he
          have hrun3:∀(p:Option Addr) (cap:Nat),n<=cap->∃q,(Instr.sliceAt T (.slice p n cap) (lo.map a.eval) (some (a.eval hi)) (some (a.eval mx))).run P w=.ok (.slice q (H.toNat-L.toNat) (M.toNat-L.toNat)) w:=by
           intro p cap nJ;have b1:M<=(cap:Int):=by omega
           have b2:L<=((H.toNat:Nat):Int):=by omega
           have b3:0<=H:=by omega
           have b4:H<=((M.toNat:Nat):Int):=by omega
           have b5:0<=M:=by omega
           have b6:max M 0=M:=by omega
           have b7:max H 0=H:=by omega
           cases lo with
           | none =>
             simp only[AV.v.injEq,Value.int.injEq] at e3;obtain⟨rfl,rfl⟩:=e3
             exact⟨_,by simp[Instr.sliceAt,Instr.slice,Instr.sliceBounds,Instr.sliceBound,asIntOf,bA hT,run_sizeOf w Dx,f1,f2,b3,b1,b4,b5,b6,b7,c3]<;>rfl⟩
           | some l =>
             simp only at e3
             have f3:=qV _ _ _ e3
             exact⟨_,by simp[Instr.sliceAt,Instr.slice,Instr.sliceBounds,Instr.sliceBound,asIntOf,bA hT,run_sizeOf w Dx,f1,f2,f3,c1,c2,c3,b3,b1,b2,b4,b5,b6,b7]<;>rfl⟩
          cases hu with
          | own _ _ hg h1 =>
            show ∃r,(Instr.sliceAt T (ρ s g) _ _ _).run P w=.ok r w/\_
            have FG:∃p cap,ρ s g=.slice p n cap/\n<=cap:=by
             rcases ho.2 with ⟨p,jU,hn⟩|⟨b',cap,cur,jU,_,hh,Yf,_⟩
             ·exact⟨p,0,by rw[jU,hn],by omega⟩
             ·exact⟨_,cap,jU,Yf⟩
            obtain⟨p,cap,jU,Yf⟩:=FG
            rw[jU];obtain⟨q,hq⟩:=hrun3 p cap Yf
            exact⟨_,hq,by rw[show (H-L).toNat=H.toNat-L.toNat by omega];exact .KR _ _ _ (by omega)⟩
         ·cases h
       | _=>simp[he] at h
    ·cases h
   ·cases h
theorem aBR {C:Ctx} {s g off:Nat} {v:Value} (h:cX C (.ptr s g off) v):∃b off,v=.pointer (some ⟨b,off,none⟩):=by
 cases h;exact⟨_,_,rfl⟩
theorem aEY {C:Ctx} {cs:List AV} {o:Nat} {v:Value} (h:cX C (.ip cs o) v):∃b off,v=.pointer (some ⟨b,off,none⟩):=by
 cases h;exact⟨_,_,rfl⟩
theorem aBS {C:Ctx} {vs:List AV} {v:Value} (h:cX C (.eH vs) v):∃ar,v=.tuple ar/\vs.length=ar.size/\∀(i:Nat) (x:AV) (y:Value),vs[i]? = some x->ar[i]? = some y->cX C x y:=by
 cases h with
 | eH cs a hl hr=>exact⟨a,rfl,hl,hr⟩
theorem TL (S:kS F h0 w0 nt ρ st a w) {o:Oper} {x:AV} (h:iY P st o.op=some x) :
 ∃v,(execOp a.eval o).run P w=.ok (.value v) w/\cX (ctx h0 w0 ρ st w) x v:=by
 cases qV:o.op with
 | move y=>rw[qV] at h;simp[iY] at h;subst h;exact⟨_,by simp[execOp,qV],S.ev y⟩
 | assign y=>rw[qV] at h;simp[iY] at h;subst h;exact⟨_,by simp[execOp,qV],S.ev y⟩
 | pick c y z =>
   rw[qV] at h;simp only[iY] at h;split at h
   ·rename_i t hc;simp only[aAk] at h;subst h;have:=S.ev c
    rw[hc] at this;have:=iL this
    refine⟨if t=true then a.eval y else a.eval z,by simp[execOp,qV,this,asBool], ?_⟩
    cases t
    ·exact S.ev z
    ·exact S.ev y
   ·cases h
 | binOp op T y z yT =>
   rw[qV] at h;simp only[iY] at h;obtain⟨r,hr,fC⟩:=YA (w:=w) y z h (S.ev y) (S.ev z)
   exact⟨r,by simp only[execOp,qV];rw[dQ hr];rfl,fC⟩
 | unOp op T y =>
   rw[qV] at h;simp only[iY] at h;obtain⟨r,hr,fC⟩:=M1 (P:=P) (w:=w) h (S.ev y)
   exact⟨r,by simp only[execOp,qV];rw[dQ hr];rfl,fC⟩
 | convert src dst y =>
   rw[qV] at h;simp only[iY] at h;split at h
   ·rename_i k' n k ks hy hk hks
    simp only[aAk] at h;subst h;have:=S.ev y
    rw[hy] at this;have hv:=iL this
    have hu:∀ {t:Nat} {k:IntKind},intKind P t=some k->P.underlying t=some (.int k):=fun {t k} hk=>by
     unfold intKind at hk;split at hk
     ·rename_i hu;cases hk;exact hu
     ·cases hk
    refine⟨_, ?_,.v _⟩
    simp[execOp,qV,hv,convert,bA (hu hk),bA (hu hks),Conv.intToInt]
   ·cases h
 | nilCheck y =>
   rw[qV] at h;simp only[iY] at h;split at h
   ·rename_i s g off hy;simp only[aAk] at h;subst h;have hr:=S.ev y
    rw[hy] at hr;obtain⟨b,off',hv⟩:=aBR hr
    exact⟨a.eval y,by simp[execOp,qV,hv],hr⟩
   ·rename_i cs o hy;simp only[aAk] at h;subst h;have hr:=S.ev y
    rw[hy] at hr;obtain⟨b,off',hv⟩:=aEY hr
    exact⟨a.eval y,by simp[execOp,qV,hv],hr⟩
   ·cases h
 | fieldAddr T y f =>
   rw[qV] at h;simp only[iY] at h;split at h
   ·rename_i k hf;obtain⟨r,hr,fC⟩:=Xx (w:=w) hf h (S.ev y)
    exact⟨r,by simp only[execOp,qV];rw[dQ hr];rfl,fC⟩
   ·cases h
 | field T y f =>
   rw[qV] at h;simp only[iY] at h;unfold Di at h;split at h
   ·rename_i cs hy;have hr:=S.ev y
    rw[hy] at hr;obtain⟨u,hu⟩:∃u,a.eval y=u:=⟨_,rfl⟩
    rw[hu] at hr;cases hr with
    | agg _ ar hl fC h1 =>
      have key:∀off b k,fieldInfo P T f=some (off,b,k)->∃fs fd i d,P.underlying T=some (.struct fs)/\fs[f]? = some fd/\fd.offset=off/\P.info? fd.type=some i/\P.underlying fd.type=some d/\dH P fd.type=b/\i.size=k/\(b=true\/k=1):=fun off b k hf=>by
       unfold fieldInfo at hf;split at hf
       ·rename_i fs hT;split at hf
        ·rename_i fd hfd;split at hf
         ·rename_i b' k' hld
          split at hf
          ·rename_i hc;simp only[aAk,Prod.mk.injEq] at hf;obtain⟨rfl,rfl,rfl⟩:=hf
           obtain⟨i,d,hi,hd,lB,hk⟩:=Ck hld
           exact⟨fs,fd,i,d,hT,hfd,rfl,hi,hd,lB,hk,hc⟩
          ·cases hf
         ·cases hf
        ·cases hf
       ·cases hf
      split at h
      ·rename_i off k hf;obtain⟨fs,fd,i,d,hT,hfd,rfl,hi,hd,lB,rfl,_⟩:=key _ _ _ hf
       split at h
       ·rename_i hle;simp only[aAk] at h;subst h;have hp:=Ja w hd hi ar.toList fd.offset (by rw[lB];simp) (by simp;omega)
        rw[lB] at hp;simp only[mk,if_true,Array.toArray_toList] at hp;refine⟨_,by
         simp only[execOp,qV,hu];rw[dQ (show (Instr.field T (Value.agg ar) f).run P w=.ok _ w by
          simp only[Instr.field,Sem.run_bind,bA hT,Result.andThen_ok,hfd,asAgg,Sem.run_pure];exact hp)]
         rfl,.agg _ _ (by simp[hl]) (fun j x z hx hz=>?_) fun j z hz=>?_⟩
        ·rw[getElem?_take] at hx;split at hx
         ·rename_i hj;rw[getElem?_drop] at hx;refine fC _ x z hx ?_
          simpa [hj,getElem?_take,getElem?_drop] using hz
         ·cases hx
        ·have hz':ar[fd.offset+j]? = some z:=by
          simp only[getElem?_toArray,getElem?_take,getElem?_drop] at hz;split at hz
          ·simpa using hz
          ·cases hz
         exact h1 _ z hz'
       ·cases h
      ·rename_i off k hf;obtain⟨fs,fd,i,d,hT,hfd,rfl,hi,hd,lB,rfl,hk⟩:=key _ _ _ hf
       have hk1:i.size=1:=by simpa using hk
       have aW:fd.offset<cs.length:=(List.getElem?_eq_some_iff.1 h).1
       have hp:=Ja w hd hi ar.toList fd.offset (fun _=>hk1) (by simp;omega)
       rw[lB] at hp;simp only[mk,Bool.false_eq_true,if_false,Array.toArray_toList] at hp;refine⟨_,by
        simp only[execOp,qV,hu];rw[dQ (show (Instr.field T (Value.agg ar) f).run P w=.ok _ w by
         simp only[Instr.field,Sem.run_bind,bA hT,Result.andThen_ok,hfd,asAgg,Sem.run_pure];exact hp)]
        rfl, ?_⟩
       refine fC fd.offset x _ h ?_
       have:fd.offset<ar.size:=by omega
       rw[hk1,take_one];simp[head?_drop,this]
      ·cases h
   ·cases h
 | indexAddr T y i =>
   rw[qV] at h;simp only[iY] at h;obtain⟨r,hr,fC⟩:=Xy S h (S.ev y) (S.ev i)
   exact⟨r,by simp only[execOp,qV];rw[dQ hr];rfl,fC⟩
 | load T y =>
   rw[qV] at h;simp only[iY] at h;cases hra:rG st (st.ev y) with
   | none=>simp[hra,cT] at h
   | some cs =>
     simp only[hra,cT] at h;obtain⟨r,hr,fC⟩:=AA S hra h (S.ev y)
     exact⟨r,by simp only[execOp,qV];rw[dQ hr];rfl,fC⟩
 | extract t i =>
   rw[qV] at h;simp only[iY] at h;split at h
   ·rename_i vs ht;have hr:=S.ev t
    rw[ht] at hr;obtain⟨ar,hv,hl,fC⟩:=aBS hr
    have hi:i<vs.length:=(List.getElem?_eq_some_iff.1 h).1
    have Ei:i<ar.size:=by omega
    refine⟨ar[i], ?_,fC i x ar[i] h (by simp[Ei])⟩
    simp[execOp,qV,hv,Instr.extract,Ei]
   ·cases h
 | build T parts =>
   rw[qV] at h;simp only[iY] at h;obtain⟨r,hr,fC⟩:=TG S h
   exact⟨r,by simp only[execOp,qV];rw[dQ hr];rfl,fC⟩
 | slice T y lo hi mx =>
   rw[qV] at h;cases mx with
   | some m =>
     cases hi with
     | none=>simp[iY] at h
     | some hh =>
       simp only[iY] at h;obtain⟨r,hr,fC⟩:=MH S h (S.ev y)
       exact⟨r,by simp only[execOp,qV,aAo];rw[dQ hr];rfl,fC⟩
   | none =>
     simp only[iY] at h;obtain⟨r,hr,fC⟩:=TK S h (S.ev y)
     exact⟨r,by simp only[execOp,qV,Option.map_none];rw[dQ hr];rfl,fC⟩
 | lookup T y i ok =>
   rw[qV] at h;simp only[iY] at h;obtain⟨r,hr,fC⟩:=n5 S h (S.ev y) (S.ev i)
   exact⟨r,by simp only[execOp,qV];rw[dQ hr];rfl,fC⟩
 | makeFunc fn first captured =>
   rw[qV] at h;cases fn with
   | func f =>
     simp only[iY] at h;split at h
     ·rename_i hf;subst hf;simp only[aAk] at h;subst h;have fC:lK (ctx h0 w0 ρ st w) (captured.toList.map st.ev) (captured.toList.map a.eval):=lK.map _ _ _ fun p _=>S.ev p
      refine⟨.func (.func f) #[] (captured.map a.eval), ?_,.sH f _ _ (by simp) fun i x y hx hy=>fC.rel i x y hx (by simpa using hy)⟩
      simp[execOp,qV,Instr.makeFunc]
     ·cases h
   | _=>simp[iY] at h
 | _=>rw[qV] at h;simp[iY] at h
end
end Go.Ab
end
section
namespace Go.Ab
open Classical
def cX.flat {C D:Ctx} {x:AV} {v:Value} (hf:Flat x) (hr:cX C x v) (hh:∀b o,C.h b o->D.h b o):cX D x v:=by
 induction hr with
 | v x=>exact .v x
 | agg cs a hl _ h1 ih=>cases hf with|agg _ h=>exact .agg cs a hl (fun i x y hx hy=>ih i x y hx hy (h x (mem_of_getElem? hx))) h1
 | KR n cap p nJ=>exact .KR n cap p nJ
 | sl n cs b off cap arr T fr nJ hb hle _ h1 ih=>cases hf with|sl _ _ h=>exact .sl n cs b off cap arr T fr nJ (hh _ _ hb) hle (fun i x y hx hy=>ih i x y hx hy (h x (mem_of_getElem? hx))) h1
 | cl0 n p=>exact .cl0 n p
 | cl n cs b off arr T fr hb hle _ h1 ih=>cases hf with|cl _ _ h=>exact .cl n cs b off arr T fr (hh _ _ hb) hle (fun i x y hx hy=>ih i x y hx hy (h x (mem_of_getElem? hx))) h1
 | ip cs o b off arr T fr hb hle _ h1 ih=>cases hf with|ip _ _ h=>exact .ip cs o b off arr T fr (hh _ _ hb) hle (fun i x y hx hy=>ih i x y hx hy (h x (mem_of_getElem? hx))) h1
 | ptr=>cases hf
 | own=>cases hf
 | vw=>cases hf
 | mp=>cases hf
 | sH f cs a hl _ ih=>cases hf with|sH _ _ h=>exact .sH f cs a hl (fun i x y hx hy=>ih i x y hx hy (h x (mem_of_getElem? hx)))
 | eH cs a hl _ ih=>cases hf with|eH _ h=>exact .eH cs a hl (fun i x y hx hy=>ih i x y hx hy (h x (mem_of_getElem? hx)))
def cX.Se {C D:Ctx} {x:AV} {v:Value} (hf:iE x) (hr:cX C x v):cX D x v:=by
 induction hr with
 | v x=>exact .v x
 | agg cs a hl _ h1 ih=>cases hf with|agg _ h=>exact .agg cs a hl (fun i x y hx hy=>ih i x y hx hy (h x (mem_of_getElem? hx))) h1
 | eH cs a hl _ ih=>cases hf with|eH _ h=>exact .eH cs a hl (fun i x y hx hy=>ih i x y hx hy (h x (mem_of_getElem? hx)))
 | _=>cases hf
def bare (h:Nat->Obj->Prop):Ctx:=⟨h,fun _ _=>undef,fun _=>0⟩
inductive Vf:AV->Prop
 | v (x:Value):Vf (.v x)
 | agg (cs:List AV) (h:∀x∈cs,Vf x):Vf (.agg cs)
 | eH (cs:List AV) (h:∀x∈cs,Vf x):Vf (.eH cs)
 | own (s g:Nat):Vf (.own s g)
def iE.aEZ {x:AV} (h:iE x):Vf x:=by
 induction h with
 | v x=>exact .v x
 | agg cs _ ih=>exact .agg cs ih
 | eH cs _ ih=>exact .eH cs ih
def cX.aEZ {C D:Ctx} {x:AV} {v:Value} (hf:Vf x) (hr:cX C x v) (hc:∀s,C.aQ s<=D.aQ s) (jU:∀s g,g<C.aQ s->D.ρ s g=C.ρ s g):cX D x v:=by
 induction hr with
 | v x=>exact .v x
 | agg cs a hl _ h1 ih=>cases hf with|agg _ h=>exact .agg cs a hl (fun i x y hx hy=>ih i x y hx hy (h x (mem_of_getElem? hx))) h1
 | eH cs a hl _ ih=>cases hf with|eH _ h=>exact .eH cs a hl (fun i x y hx hy=>ih i x y hx hy (h x (mem_of_getElem? hx)))
 | own s g hg ho=>rw[<- jU s g hg];exact .own s g (Nat.lt_of_lt_of_le hg (hc s)) (by rw[jU s g hg];exact ho)
 | _=>cases hf
def newHs (h0:Nat->Obj->Prop) (w w':World) (vs:List Value):Nat->Obj->Prop :=
 fun b o=>w'.heap[b]? = some o/\(b<w.heap.size->h0 b o)/\∀x∈vs,dD x≠some b
def CL (h0:Nat->Obj->Prop) (w w':World) (r:AV) (v:Value):Prop :=
 ∃vs:List Value,(∀x∈vs,x.oneCell'=true)/\(∀(i j:Nat) (x y:Value) (b:Nat),vs[i]? = some x->vs[j]? = some y->dD x=some b->dD y=some b->i=j) /\
  (∀x∈vs,∀b,dD x=some b->w.heap.size<=b)/\(∀d c,(E2 d c r).2.length=vs.length) /\
  ∀(D:Ctx) (d c:Nat),(∀b o,newHs h0 w w' vs b o->D.h b o)->(∀(i:Nat) (x:Value),vs[i]? = some x->c+i<D.aQ d/\D.ρ d (c+i)=x) ->
   cX D (E2 d c r).1 v/\∀(i:Nat) (e:oA) (x:Value),(E2 d c r).2[i]? = some e->vs[i]? = some x->oD D w' w.heap.size x e
def Vd (P:Program) (g:Nat) (xs:List AV) (r:AV):Prop :=
 ∀(w:World) (h0:Nat->Obj->Prop) (vs:Array Value),(∀b o,h0 b o->w.heap[b]? = some o)->lK (bare h0) xs vs.toList ->
  Calls P g vs w fun e w'=>∃v,e=.returned v/\CL h0 w w' r v/\w.grownBy w' none
def n8 (P:Program) (g e sz n:Nat) (cs xs:List AV) (r:AV):Prop :=
 ∀(w:World) (h0:Nat->Obj->Prop) (v0:Value) (ys:List Value) (vs:Array Value),(∀b o,h0 b o->w.heap[b]? = some o)->(∀b o,h0 b o->dD v0≠some b)->mZ w 0 e sz v0 n ys->fU (bare h0) cs ys ->
  lK (bare h0) xs vs.toList->Calls P g (#[v0]++vs) w fun en w'=>∃v,en=.returned v/\w.grownBy w' (dD v0) /\
   match r with
   | .uniq e' sV n' Gp=>∃zs,mZ w' 0 e' sV v n' zs/\fU (bare h0) Gp zs/\∀b,dD v=some b->dD v0=some b\/w.heap.size<=b
   | .eH [.uniq e' sV n' Gp]=>v=.tuple #[]/\∃zs,mZ w' 0 e' sV v0 n' zs/\fU (bare h0) Gp zs
   | _=>False
def o0 (P:Program) (g:Nat) (x:AV) (e sz n:Nat) (cs:List AV) (r:AV):Prop :=
 ∀(w:World) (h0:Nat->Obj->Prop) (v0 v1:Value) (ys:List Value),(∀b o,h0 b o->w.heap[b]? = some o)->(∀b o,h0 b o->dD v1≠some b)->mZ w 0 e sz v1 n ys->fU (bare h0) cs ys ->
  cX (bare h0) x v0->Calls P g #[v0,v1] w fun en w'=>∃v,en=.returned v/\CL h0 w w' r v/\w.grownBy w' none
def Bj (P:Program) (g:Nat) (xs:List AV) (r:AV):Prop :=
 match xs with
 | .uniq e sz n cs :: rest=>n8 P g e sz n cs rest r
 | [x,.uniq e sz n cs]=>o0 P g x e sz n cs r
 | xs=>Vd P g xs r
def zA (P : Program) (g : Nat) : Prop := ∃ fn, P.funcs[g]? = some fn ∧ (fn.name == "runtime.NumGoroutine") = false ∧ fn.body.isSome = true
def pE (P:Program) (call:Nat->List AV->Option AV):Prop:=∀g xs r,call g xs=some r->zA P g/\Bj P g xs r
def MI {f:Nat->AV->AV × List oA}:∀(xs:List AV) (c:Nat),(∀x∈xs,∀c,f c x=(x,[]))->rA f c xs=(xs,[])
 | [],c,_=>rfl
 | x :: xs,c,h=>by
   simp only[rA,h x (by simp),length_nil,Nat.add_zero,MI xs c fun y hy=>h y (by simp[hy]),nil_append]
def Lu {x:AV} (h:Flat x) (d c:Nat):Am d c x=(x,[]):=by cases h<;>rfl
def KA {x:AV} (h:Flat x) (d c:Nat):Xv d c x=(x,[]):=by
 cases h with
 | agg cs h=>simp only[Xv,MI (f:=Am d) cs c fun x hx c=>Lu (h x hx) d c]
 | _=>rfl
def Kc {x:AV} (h:Flat x) (d c:Nat):E2 d c x=(x,[]):=by
 cases h with
 | eH cs h=>simp only[E2,MI (f:=Xv d) cs c fun x hx c=>KA (h x hx) d c]
 | agg cs h=>exact KA (.agg cs h) d c
 | _=>rfl
def Vg {h0:Nat->Obj->Prop} {w w':World} {r:AV} {v:Value} (hf:Flat r) (h:cX (bare (newHs h0 w w' [])) r v):CL h0 w w' r v :=
 ⟨[],by simp,by simp,by simp,fun d c=>by rw[Kc hf];rfl,fun D d c hD _=>by
  rw[Kc hf];exact⟨h.flat hf hD,by simp⟩⟩
def oD.base {C:Ctx} {w:World} {b b':Nat} {v:Value} {e:oA} (h:oD C w b v e) (hb:b'<=b):oD C w b' v e:=by
 cases e with
 | cells cs=>obtain⟨k,arr,T,h1,h2,h3⟩:=h;exact⟨k,arr,T,h1,Nat.le_trans hb h2,h3⟩
 | row e sz n cs=>obtain⟨xs,ho,hc⟩:=h;exact⟨xs,wD ho hb,hc⟩
 | map es=>obtain⟨k,arr,T,h1,h2,h3⟩:=h;exact⟨k,arr,T,h1,Nat.le_trans hb h2,h3⟩
 | Ii e sz n cs=>exact h
def Sf {w:World} {b b' e sz n:Nat} {v:Value} {xs:List Value} (h:mZ w b e sz v n xs) (hb:∀k,dD v=some k->b'<=k):mZ w b' e sz v n xs:=by
 refine⟨h.1, ?_⟩
 rcases h.2 with h|⟨g,cap,cur,rfl,h1,h2,h3,h4,h5,h6,hc⟩
 ·exact .inl h
 ·exact .inr ⟨g,cap,cur,rfl,hb g (jJ hc),h2,h3,h4,h5,h6,hc⟩
def jO {α:Type}:∀(l:List (Option α)) (r:List α),cK l=some r->l=r.map some
 | [],r,h=>by simp[cK] at h;subst h;rfl
 | none :: l,r,h=>by simp[cK] at h
 | some x :: l,r,h=>by
   simp only[cK,Option.map_eq_some_iff] at h;obtain⟨r',h',rfl⟩:=h
   rw[jO l r' h'];rfl
section
variable {P:Program} {h0:Nat->Obj->Prop} {w0:World} {F:Gs} {nt:Nat} {ρ:Nat->Nat->Value} {st:St} {a:Act} {w:World}
def Fj (h0:Nat->Obj->Prop) (w0 w:World):Nat->Obj->Prop:=fun b o=>w.heap[b]? = some o/\(b<w0.heap.size->h0 b o)
theorem Hk {D:Ctx} {base e sz n:Nat} {v:Value} {xs:List Value} {cs:List AV} (hD:∀b o,dD v=some b->base<=b->w.heap[b]? = some o->D.h b o) (h:mZ w base e sz v n xs) (hc:fU D cs xs):cX D (.sl n cs) v:=by
 rcases h.2 with ⟨p,rfl,hn⟩|⟨g,cap,cur,rfl,hb,hg,Yf,_,CM,ht,qM⟩
 ·subst hn;have:xs.length=0:=by rw[h.1];simp
  have:=hc.len
  have hnil:=length_eq_zero_iff.1 (show cs.length=0 by omega)
  subst hnil;exact .KR 0 0 p (by omega)
 ·have hl:=hc.len
  have hx:=h.1
  have hle:n * sz<=cap * sz:=Nat.mul_le_mul_right _ Yf
  refine .sl n cs g 0 cap cur e (0,0) Yf (hD g _ (jJ qM) hb hg) (by omega) (fun i x y Lp hy=>?_) (fun i y hi hy=>?_)
  ·have hi:i<cs.length:=(List.getElem?_eq_some_iff.1 Lp).1
   refine hc.rel i x y Lp ?_
   rw[<- ht,getElem?_take,if_pos (by omega)]
   simpa using hy
  ·refine hc.one i y ?_
   rw[<- ht,getElem?_take,if_pos (by omega)]
   simpa using hy
theorem fU.flat {C D:Ctx} {cs:List AV} {ys:List Value} (h:fU C cs ys) (hf:∀c∈cs,Flat c) (hh:∀b o,C.h b o->D.h b o):fU D cs ys :=
 ⟨h.len,fun i x y hx hy=>(h.rel i x y hx hy).flat (hf x (mem_of_getElem? hx)) hh,h.one⟩
theorem Fk (b:Nat) (o:Obj) (h:(ctx h0 w0 ρ st w).h b o):(bare (Fj h0 w0 w)).h b o:=⟨h.1,h.2.1⟩
theorem aHa (S:kS F h0 w0 nt ρ st a w) {s g o n e sz N:Nat} {cs:List AV} {v:Value} (he:st.heap s g=some (.row e sz N cs)) (hf:∀c∈cs,Flat c) (hle:o+n * sz<=cs.length) (hu:cX (ctx h0 w0 ρ st w) (.vw s g o n) v):cX (bare (Fj h0 w0 w)) (.sl n ((cs.drop o).take (n * sz))) v:=by
 obtain⟨_,ho1,xs,ho,hc⟩:=S.sS s g _ he
 cases hu with
 | vw _ _ _ _ b cap hg hb nJ _ =>
   change dD (ρ s g)=some b at hb
   rcases ho.2 with ⟨p,jU,hn⟩|⟨b',FJ,cur,jU,xG,hh,_,_,_,ht,qM⟩
   ·exfalso
    rw[jU] at hb;cases p<;>cases hb
   ·rw[jU,jJ qM] at hb;simp only[aAk] at hb;subst hb;have hc':=hc.flat (D:=bare (Fj h0 w0 w)) hf Fk
    have hl:=hc.len
    have hxl:xs.length<=cur.size:=by rw[<- ht];simp;omega
    have R4:∀i,i<n * sz->cur[o+i]? = xs[o+i]?:=fun i hi=>by
     rw[<- ht,getElem?_take,if_pos (by rw[<- ho.1];omega)]
     simp
    refine .sl _ _ b' o cap cur e (0,0) nJ ⟨hh,fun aW=>by omega⟩ (by simp;omega) (fun i x y hx hy=>?_) (fun i y hi hy=>?_)
    ·rw[getElem?_take] at hx;split at hx
     ·rename_i hi;rw[getElem?_drop] at hx;rw[R4 i hi] at hy;exact hc'.rel _ x y hx hy
     ·cases hx
    ·simp only[length_take,length_drop] at hi;rw[R4 i (by omega)] at hy
     exact hc.one _ y hy
theorem TM (S:kS F h0 w0 nt ρ st a w) {x y:AV} {v:Value} (hu:cX (ctx h0 w0 ρ st w) x v) (h:xR st x=some y):cX (bare (Fj h0 w0 w)) y v:=by
 unfold xR at h;split at h
 ·rename_i hf;simp only[aAk] at h;subst h;exact hu.flat hf Fk
 ·split at h
  ·split at h
   ·rename_i e sz n cs he;split at h
    ·rename_i hf;simp only[aAk] at h;subst h;obtain⟨_,ho1,xs,ho,hc⟩:=S.sS _ _ _ he
     cases hu with
     | own s g hg h1=>exact Hk (fun b o _ hb JW=>⟨JW,fun aW=>by omega⟩) ho (hc.flat hf Fk)
    ·cases h
   ·cases h
  ·rename_i s g o n _;split at h
   ·rename_i e sz N cs he;split at h
    ·rename_i hf;obtain⟨hf,hle⟩:=hf
     simp only[aAk] at h;subst h;exact aHa S he hf hle hu
    ·cases h
   ·cases h
  ·cases h
theorem o6 {x y:AV} (h:xR st x=some y):Flat y:=by
 unfold xR at h;split at h
 ·rename_i hf;simp only[aAk] at h;subst h;exact hf
 ·split at h
  ·split at h
   ·split at h
    ·rename_i hf;simp only[aAk] at h;subst h;exact .sl _ _ hf
    ·cases h
   ·cases h
  ·split at h
   ·split at h
    ·rename_i hf;simp only[aAk] at h;subst h;exact .sl _ _ fun c hc=>hf.1 c (mem_of_mem_drop (mem_of_mem_take hc))
    ·cases h
   ·cases h
  ·cases h
theorem yJ (S:kS F h0 w0 nt ρ st a w) {x y:AV} {v:Value} (hu:cX (ctx h0 w0 ρ st w) x v) (h:cN st x=some y):cX (bare (Fj h0 w0 w)) y v/\(v.oneCell'=true\/y=x):=by
 unfold cN at h;split at h
 ·rename_i hf;simp only[aAk] at h;subst h;exact⟨hu.flat hf Fk,.inr rfl⟩
 ·split at h
  ·rename_i s g _;split at h
   ·rename_i e sz n cs he;split at h
    ·rename_i hf;simp only[aAk] at h;subst h;obtain⟨_,ho1,xs,ho,hc⟩:=S.sS s g _ he
     cases hu with
     | own s g hg h1=>exact⟨Hk (fun b o _ hb JW=>⟨JW,fun aW=>by omega⟩) ho (hc.flat hf Fk),.inl h1⟩
    ·cases h
   ·cases h
  ·rename_i s g o n _;split at h
   ·rename_i e sz N cs he;split at h
    ·rename_i hf;obtain⟨hf,hle⟩:=hf
     simp only[aAk] at h;subst h;cases hu with
     | vw _ _ _ _ b cap hg hb nJ Ao=>exact⟨aHa S he hf hle (.vw s g o n b cap hg hb nJ Ao),.inl rfl⟩
    ·cases h
   ·cases h
  ·rename_i s g off _;split at h
   ·rename_i cs he;simp only[Option.map_eq_some_iff] at h;obtain⟨ds,Vh,rfl⟩:=h
    have hm:=jO _ _ Vh
    have hlen:ds.length=cs.length:=by have:=congrArg List.length hm;simpa using this.symm
    obtain⟨_,_,b',arr,T,jU,oM,hh,hc⟩:=S.sS s g _ he
    cases hu with
    | ptr s g off b hg hb =>
      have xG:b'=b:=by
       have h2:dD (ρ s g)=some b:=hb
       rw[jU] at h2;simpa [dD] using h2
      subst xG;have hl:=hc.len
      simp only[Array.length_toList] at hl;have:=cX.ip (C:=bare (Fj h0 w0 w)) ds off b' 0 arr T (0,0) ⟨hh,fun aW=>by omega⟩ (by omega) (fun i x y hx hy=>by
       have hi:i<cs.length:=by have:=(List.getElem?_eq_some_iff.1 hx).1;omega
       have Lp:xR st cs[i]=some x:=by
        have:=congrArg (·[i]?) hm
        simp only[getElem?_map,hx,getElem?_eq_getElem hi,aAo,aAk] at this;exact this
       exact TM S (hc.rel i cs[i] y (by simp[hi]) (by simpa using hy)) Lp) (fun i y hi hy=>hc.one i y (by simpa using hy))
      rw[Nat.zero_add] at this;exact⟨this,.inl rfl⟩
   ·cases h
  ·cases h
theorem Pm (S:kS F h0 w0 nt ρ st a w) {x y:AV} {v:Value} (hu:cX (ctx h0 w0 ρ st w) x v) (h:fS st x=some y):cX (bare (Fj h0 w0 w)) y v:=by
 unfold fS at h;split at h
 ·rename_i hf;simp only[aAk] at h;subst h;exact hu.flat hf Fk
 ·split at h
  ·rename_i cs _;simp only[Option.map_eq_some_iff] at h;obtain⟨ds,Vh,rfl⟩:=h
   have hm:=jO _ _ Vh
   cases hu with
   | agg cs ar hl hr h1 =>
     have hlen:ds.length=cs.length:=by have:=congrArg List.length hm;simpa using this.symm
     refine .agg ds ar (by omega) (fun i x y hx hy=>?_) h1
     have hi:i<cs.length:=by have:=(List.getElem?_eq_some_iff.1 hx).1;omega
     have Lp:cN st cs[i]=some x:=by
      have:=congrArg (·[i]?) hm
      simp only[getElem?_map,hx,getElem?_eq_getElem hi,aAo,aAk] at this;exact this
     exact (yJ S (hr i cs[i] y (by simp[hi]) hy) Lp).1
  ·rename_i f mK _;simp only[Option.map_eq_some_iff] at h;obtain⟨ds,Vh,rfl⟩:=h
   have hm:=jO _ _ Vh
   cases hu with
   | sH f cs ar hl hr =>
     have hlen:ds.length=mK.length:=by have:=congrArg List.length hm;simpa using this.symm
     refine .sH f ds ar (by omega) (fun i x y hx hy=>?_)
     have hi:i<mK.length:=by have:=(List.getElem?_eq_some_iff.1 hx).1;omega
     have Lp:cN st mK[i]=some x:=by
      have:=congrArg (·[i]?) hm
      simp only[getElem?_map,hx,getElem?_eq_getElem hi,aAo,aAk] at this;exact this
     exact (yJ S (hr i mK[i] y (by simp[hi]) hy) Lp).1
  ·exact (yJ S hu h).1
theorem qB {α β:Type} {p:β->Prop} {f:α->Option β} (hp:∀a b,f a=some b->p b):∀(l:List α) (r:List β),cK (l.map f)=some r->∀b∈r,p b
 | [],r,h=>by simp[cK] at h;subst h;simp
 | a :: l,r,h=>by
   simp only[map_cons] at h;cases ha:f a with
   | none=>simp[ha,cK] at h
   | some b =>
     simp only[ha,cK,Option.map_eq_some_iff] at h;obtain⟨r',h',rfl⟩:=h
     intro c hc;rcases mem_cons.1 hc with rfl|hc
     ·exact hp _ _ ha
     ·exact qB hp l r' h' c hc
theorem Bl {x y:AV} (h:cN st x=some y):Flat y:=by
 unfold cN at h;split at h
 ·rename_i hf;simp only[aAk] at h;subst h;exact hf
 ·split at h
  ·split at h
   ·split at h
    ·rename_i hf;simp only[aAk] at h;subst h;exact .sl _ _ hf
    ·cases h
   ·cases h
  ·split at h
   ·split at h
    ·rename_i hf;simp only[aAk] at h;subst h;exact .sl _ _ fun c hc=>hf.1 c (mem_of_mem_drop (mem_of_mem_take hc))
    ·cases h
   ·cases h
  ·split at h
   ·simp only[Option.map_eq_some_iff] at h;obtain⟨ds,Vh,rfl⟩:=h
    exact .ip _ _ (qB (fun a b h=>o6 h) _ _ Vh)
   ·cases h
  ·cases h
theorem Lv {x y:AV} (h:fS st x=some y):Flat y:=by
 unfold fS at h;split at h
 ·rename_i hf;simp only[aAk] at h;subst h;exact hf
 ·split at h
  ·simp only[Option.map_eq_some_iff] at h;obtain⟨ds,Vh,rfl⟩:=h
   exact .agg _ (qB (fun a b h=>Bl h) _ _ Vh)
  ·simp only[Option.map_eq_some_iff] at h;obtain⟨ds,Vh,rfl⟩:=h
   exact .sH _ _ (qB (fun a b h=>Bl h) _ _ Vh)
  ·exact Bl h
theorem Xi (S:kS F h0 w0 nt ρ st a w) {x y:AV} {v:Value} (hu:cX (ctx h0 w0 ρ st w) x v) (h:Ee st x=some y):cX (bare (Fj h0 w0 w)) y v:=by
 unfold Ee at h;split at h
 ·rename_i s g;split at h
  ·rename_i e sz n cs he;simp only[Option.map_eq_some_iff] at h;obtain⟨ds,Vh,rfl⟩:=h
   have hm:=jO _ _ Vh
   obtain⟨_,ho1,xs,ho,hc⟩:=S.sS s g _ he
   cases hu with
   | own s g hg h1 =>
     have hlen:ds.length=cs.length:=by have:=congrArg List.length hm;simpa using this.symm
     refine Hk (fun b o _ hb JW=>⟨JW,fun aW=>by omega⟩) ho ⟨by rw[hlen];exact hc.len,fun i x y hx hy=>?_,hc.one⟩
     have hi:i<cs.length:=by have:=(List.getElem?_eq_some_iff.1 hx).1;omega
     have Lp:cN st cs[i]=some x:=by
      have:=congrArg (·[i]?) hm
      simp only[getElem?_map,hx,getElem?_eq_getElem hi,aAo,aAk] at this;exact this
     exact (yJ S (hc.rel i cs[i] y (by simp[hi]) hy) Lp).1
  ·cases h
 ·exact (yJ S hu h).1
theorem TN (S:kS F h0 w0 nt ρ st a w) {x y:AV} {v:Value} (hu:cX (ctx h0 w0 ρ st w) x v) (h:Ql st x=some y):cX (bare (Fj h0 w0 w)) y v:=by
 unfold Ql at h;split at h
 ·rename_i cs;simp only[Option.map_eq_some_iff] at h;obtain⟨ds,Vh,rfl⟩:=h
  have hm:=jO _ _ Vh
  cases hu with
  | agg cs ar hl hr h1 =>
    have hlen:ds.length=cs.length:=by have:=congrArg List.length hm;simpa using this.symm
    refine .agg ds ar (by omega) (fun i x y hx hy=>?_) h1
    have hi:i<cs.length:=by have:=(List.getElem?_eq_some_iff.1 hx).1;omega
    have Lp:Ee st cs[i]=some x:=by
     have:=congrArg (·[i]?) hm
     simp only[getElem?_map,hx,getElem?_eq_getElem hi,aAo,aAk] at this;exact this
    exact Xi S (hr i cs[i] y (by simp[hi]) hy) Lp
 ·exact Xi S hu h
theorem TO (S:kS F h0 w0 nt ρ st a w) {x y:AV} {v:Value} (hu:cX (ctx h0 w0 ρ st w) x v) (h:Ef st x=some y):cX (bare (Fj h0 w0 w)) y v:=by
 unfold Ef at h;split at h
 ·rename_i z hz;simp only[aAk] at h;subst h;exact Pm S hu hz
 ·exact TN S hu h
theorem CN {x y:AV} (h:Ee st x=some y):Flat y:=by
 unfold Ee at h;split at h
 ·split at h
  ·simp only[Option.map_eq_some_iff] at h;obtain⟨ds,Vh,rfl⟩:=h
   exact .sl _ _ (qB (fun a b h=>Bl h) _ _ Vh)
  ·cases h
 ·exact Bl h
theorem o7 {x y:AV} (h:Ef st x=some y):Flat y:=by
 unfold Ef at h;split at h
 ·rename_i z hz;simp only[aAk] at h;subst h;exact Lv hz
 ·unfold Ql at h;split at h
  ·simp only[Option.map_eq_some_iff] at h;obtain⟨ds,Vh,rfl⟩:=h
   exact .agg _ (qB (fun a b h=>CN h) _ _ Vh)
  ·exact CN h
theorem Fl {x y:AV} (h:fS st x=some y):Ef st x=some y:=by unfold Ef;rw[h]
theorem o8 {x:AV} (h:fS st x=none):Ef st x=Ql st x:=by unfold Ef;rw[h]
end
end Go.Ab
end
section
namespace Go.Ab
open Classical
def Kd (es:List oA):Prop:=∀e∈es,∃a b n cs,e=.row a b n cs/\∀c∈cs,iE c
def CO {x:AV} (h:XU x) (d c:Nat):Vf (Am d c x).1/\Kd (Am d c x).2:=by
 cases x
 case uniq e sz n cs=>exact⟨.own _ _,fun e he=>by simp[Am] at he;exact⟨_,_,_,_,he,h⟩⟩
 all_goals exact⟨iE.aEZ h,fun e he=>by simp[Am] at he⟩
def Pn {f:Nat->AV->AV × List oA}:∀(xs:List AV) (c:Nat),(∀x∈xs,∀c,Vf (f c x).1/\Kd (f c x).2)->(∀y∈(rA f c xs).1,Vf y)/\Kd (rA f c xs).2
 | [],c,_=>⟨by simp[rA],fun e he=>by simp[rA] at he⟩
 | x :: xs,c,h=>by
   obtain⟨h1,h2⟩:=h x (by simp) c
   obtain⟨h3,h4⟩:=Pn xs (c+(f c x).2.length) fun y hy=>h y (by simp[hy])
   simp only[rA];refine⟨fun y hy=>?_,fun e he=>?_⟩
   ·rcases mem_cons.1 hy with rfl|hy
    ·exact h1
    ·exact h3 y hy
   ·rcases mem_append.1 he with he|he
    ·exact h2 e he
    ·exact h4 e he
def CP {x:AV} (h:XV x) (d c:Nat):Vf (Xv d c x).1/\Kd (Xv d c x).2:=by
 cases x
 case agg cs =>
  obtain⟨h1,h2⟩:=Pn (f:=Am d) cs c fun x hx c=>CO (h x hx) d c
  exact⟨.agg _ h1,h2⟩
 all_goals
  refine @CO _ ?_ d c
  exact h
def Vi {x:AV} (h:Zr x) (d c:Nat):Vf (E2 d c x).1/\Kd (E2 d c x).2:=by
 cases x
 case eH cs =>
  obtain⟨h1,h2⟩:=Pn (f:=Xv d) cs c fun x hx c=>CP (h x hx) d c
  exact⟨.eH _ h1,h2⟩
 all_goals
  refine @CP _ ?_ d c
  exact h
def fU.Se {C D:Ctx} {cs:List AV} {ys:List Value} (h:fU C cs ys) (hm:∀c∈cs,iE c):fU D cs ys :=
 ⟨h.len,fun i x y hx hy=>(h.rel i x y hx hy).Se (hm x (mem_of_getElem? hx)),h.one⟩
def oD.free {C D:Ctx} {w:World} {b:Nat} {v:Value} {e:oA} (h:oD C w b v e) (hf:∃a s n cs,e=.row a s n cs/\∀c∈cs,iE c):oD D w b v e:=by
 obtain⟨a,s,n,cs,rfl,hm⟩:=hf
 obtain⟨xs,ho,hc⟩:=h
 exact⟨xs,ho,hc.Se hm⟩
section
variable {P:Program} {h0:Nat->Obj->Prop} {w0:World} {F:Gs} {nt:Nat} {ρ:Nat->Nat->Value} {st:St} {a:Act} {w:World} {K:Act->World->Prop} {Q:Exit->Act->World->Prop}
theorem KB {C D:Ctx} {xs:List AV} {vs:List Value} (h:lK C xs vs) (hf:∀x∈xs,Flat x) (hh:∀b o,C.h b o->D.h b o):lK D xs vs :=
 ⟨h.len,fun i x y hx hy=>(h.rel i x y hx hy).flat (hf x (mem_of_getElem? hx)) hh⟩
theorem vG (S:kS F h0 w0 nt ρ st a w) {H:Nat->Obj->Prop} {w':World} {r:AV} {v:Value} {dst:Option Nat} {e:qZ} (hr:CL H w w' r v) (hg:w.grownBy w' none)
 (hH:(∀b o,H b o->(ctx h0 w0 ρ st w).h b o)\/Zr r) (h:iZ r st dst=some e) (hd:∀d,dst=some d->d<nt)
 (hK:∀oK a' w',kS F h0 w0 nt oK (e.apply st) a' w'->K a' w'):K (a.put dst v) w':=by
 obtain⟨vs,v1,v2,v3,v4,v5⟩:=hr
 unfold iZ at h;split at h
 ·rename_i hf;simp only[aAk] at h;subst h;have hl:=v4 0 0
  rw[Kc hf] at hl;have XN:vs=[]:=length_eq_zero_iff.1 hl.symm
  subst XN;obtain⟨S',k⟩:=S.grow hg
  refine hK ρ _ _ (S'.put dst hd ?_)
  rcases hH with hH|hH
  ·have:=(v5 (ctx h0 w0 ρ st w') 0 0 (fun b o hb=>by
    by_cases aW:b<w.heap.size
    ·exact k.h _ _ (hH _ _ (hb.2.1 aW))
    ·exact⟨hb.1,fun h=>by have:=S.ext.size;omega,fun s g e he=>jX S he (by omega)⟩) (by simp)).1
   rw[Kc hf] at this;exact this
  ·have:=(v5 ⟨newHs H w w' [],ρ,st.aQ⟩ 0 0 (fun b o hb=>hb) (by simp)).1
   have hn:=(Vi hH 0 0).1
   rw[Kc hf] at this hn;exact this.aEZ hn (fun _=>Nat.le_refl _) (fun _ _ _=>rfl)
 ·cases dst with
  | none=>cases h
  | some d =>
    simp only[aAk] at h;subst h;obtain⟨S',k,hh,oS⟩:=S.news hg d (E2 d (st.aQ d) r).2 vs (v4 _ _) v1 v3 v2 (fun C kC hC jU i e x hi hx=>by
     rcases hH with hH|hH
     ·exact ((v5 C d (st.aQ d) (fun b o hb=>by
       by_cases aW:b<w.heap.size
       ·exact kC.h _ _ (hH _ _ (hb.2.1 aW))
       ·exact hC b o (by omega) hb.1 hb.2.2) jU).2 i e x hi hx).base S.ext.size
     ·have:=((v5 ⟨newHs H w w' vs,C.ρ,C.aQ⟩ d (st.aQ d) (fun b o hb=>hb) jU).2 i e x hi hx).base S.ext.size
      exact this.free ((Vi hH d (st.aQ d)).2 e (mem_of_getElem? hi)))
    refine hK _ _ _ (S'.put (some d) hd ?_)
    rcases hH with hH|hH
    ·exact (v5 (ctx h0 w0 (Hv ρ d (st.aQ d) vs) (st.news d (E2 d (st.aQ d) r).2) w') d (st.aQ d) (fun b o hb=>by
      by_cases aW:b<w.heap.size
      ·exact k.h _ _ (hH _ _ (hb.2.1 aW))
      ·exact hh b o (by omega) hb.1 hb.2.2) oS).1
    ·have:=(v5 ⟨newHs H w w' vs,Hv ρ d (st.aQ d) vs,(st.news d (E2 d (st.aQ d) r).2).aQ⟩ d (st.aQ d) (fun b o hb=>hb) oS).1
     exact this.aEZ (Vi hH d (st.aQ d)).1 (fun _=>Nat.le_refl _) (fun _ _ _=>rfl)
theorem CQ {P:Program} {g:Nat} {args:List AV} {r:AV} (h:Bj P g args r) (hn:∀x∈args,Flat x):Vd P g args r:=by
 unfold Bj at h;split at h
 ·rename_i e sz n cs rest;have:=hn _ (mem_cons_self ..)
  cases this
 ·rename_i x e sz n cs _;have:=hn (.uniq e sz n cs) (by simp)
  cases this
 ·exact h
theorem zT (S:kS F h0 w0 nt ρ st a w) {call:Nat->List AV->Option AV} (jC:pE P call) {g:Nat} {args:List AV} {vs:Array Value} {dst:Option Nat} {e:qZ}
 (h:bH call g args st dst=some e) (fC:lK (ctx h0 w0 ρ st w) args vs.toList) (hd:∀d,dst=some d->d<nt)
 (hK:∀oK a' w',kS F h0 w0 nt oK (e.apply st) a' w'->K a' w') :
 zA P g/\Calls P g vs w fun en w'=>∃v,en=.returned v/\K (a.put dst v) w':=by
 unfold bH at h;split at h
 ·rename_i hf;cases hc:call g args with
  | none=>simp[hc,cT] at h
  | some r =>
    obtain⟨o9,hs⟩:=jC g args r hc
    refine⟨o9, ?_⟩
    simp only[hc,cT] at h;refine ((CQ hs hf) w (ctx h0 w0 ρ st w).h vs (fun b o hb=>hb.1) (KB fC hf fun b o hb=>hb)).mono ?_
    rintro en w' ⟨v,rfl,hr,hg⟩
    exact⟨v,rfl,vG S hr hg (.inl fun b o hb=>hb) h hd hK⟩
 ·split at h
  ·rename_i xs FW;cases hc:call g xs with
   | none=>simp[hc,cT] at h
   | some r =>
     obtain⟨o9,hs⟩:=jC g xs r hc
     refine⟨o9, ?_⟩
     simp only[hc,cT] at h;split at h
     ·rename_i hm;have H5:=jO _ _ FW
      have LH:∀x∈xs,Flat x:=qB (fun a b h=>Lv h) _ _ FW
      have hlen:xs.length=args.length:=by have:=congrArg List.length H5;simpa using this.symm
      have Sg:lK (bare (Fj h0 w0 w)) xs vs.toList:=⟨by rw[hlen];exact fC.len,fun i x y hx hy=>by
       have hi:i<args.length:=by have:=(List.getElem?_eq_some_iff.1 hx).1;omega
       have Lp:fS st args[i]=some x:=by
        have:=congrArg (·[i]?) H5
        simp only[getElem?_map,hx,getElem?_eq_getElem hi,aAo,aAk] at this;exact this
       exact Pm S (fC.rel i args[i] y (by simp[hi]) hy) Lp⟩
      refine ((CQ hs LH) w (Fj h0 w0 w) vs (fun b o hb=>hb.1) Sg).mono ?_
      rintro en w' ⟨v,rfl,hr,hg⟩
      exact⟨v,rfl,vG S hr hg (.inr hm) h hd hK⟩
     ·cases h
  ·cases h
theorem kS.drop (S:kS F h0 w0 nt ρ st a w) (s k:Nat):kS F h0 w0 nt ρ (st.jG s k none) a w/\(ctx h0 w0 ρ st w).Le (ctx h0 w0 ρ (st.jG s k none) w):=by
 have hs:∀s' g' e,(st.jG s k none).heap s' g'=some e->st.heap s' g'=some e:=fun s' g' e h=>by
  simp only[St.jG] at h;split at h
  ·cases h
  ·exact h
 have kk:(ctx h0 w0 ρ st w).Le (ctx h0 w0 ρ (st.jG s k none) w):=⟨fun b o hb=>⟨hb.1,hb.2.1,fun s' g' e he=>hb.2.2 s' g' e (hs s' g' e he)⟩,fun _=>Nat.le_refl _,fun _ _ _=>rfl⟩
 exact⟨⟨fun t=>(S.env t).le kk,fun s' g' e he=>⟨(S.sS s' g' e (hs s' g' e he)).1,(S.sS s' g' e (hs s' g' e he)).2.1,oD.world (r:=none) (S.sS s' g' e (hs s' g' e he)).2.2 kk ⟨rfl,rfl,rfl,Nat.le_refl _,fun _ _ _=>rfl⟩ (by cases dD (ρ s' g')<;>simp)⟩,
  fun s1 g1 s2 g2 e1 e2 b h1 h2=>S.inj s1 g1 s2 g2 e1 e2 b (hs _ _ _ h1) (hs _ _ _ h2),S.ext,S.size,S.defers,⟨fun x v h=>(S.Qg.1 x v h).le kk,fun b o h=>kk.h b o (S.Qg.2.1 b o h),S.Qg.2.2⟩⟩,kk⟩
theorem aNe (S:kS F h0 w0 nt ρ st a w) {s k:Nat} {c y:AV} {v:Value} (hc:Flat c\/c=.own s k) (hu:cX (ctx h0 w0 ρ st w) c v) (h:cN st c=some y):cX (bare (ctx h0 w0 ρ (st.jG s k none) w).h) y v/\(v.oneCell'=true\/y=c):=by
 have kk:=(S.drop s k).2
 rcases hc with hf|rfl
 ·unfold cN at h;rw[if_pos hf] at h;simp only[aAk] at h;subst h;exact⟨hu.flat hf kk.h,.inr rfl⟩
 ·unfold cN at h;rw[if_neg (by intro h;cases h)] at h
  simp only at h
  split at h
  ·rename_i e sz n cs he;split at h
   ·rename_i hf;simp only[aAk] at h;subst h;obtain⟨_,ho1,xs,ho,hc⟩:=S.sS s k _ he
    cases hu with
    | own s g hg h1 =>
      refine⟨Hk (fun b o hv hb JW=>⟨JW,fun aW=>by omega,fun s' g' e' zX xG=>?_⟩) ho (hc.flat hf kk.h),.inl h1⟩
      simp only[St.jG] at zX
      split at zX
      ·cases zX
      ·rename_i gJ;have:=S.inj s' g' s k e' _ b zX he xG hv
       exact gJ this
   ·cases h
  ·cases h
theorem aBT (S:kS F h0 w0 nt ρ st a w) {s k:Nat} {x y:AV} {v:Value} (hx:E3 x) (hk:∀p∈jI x,p=(s,k)) (hu:cX (ctx h0 w0 ρ st w) x v) (h:fS st x=some y):cX (bare (ctx h0 w0 ρ (st.jG s k none) w).h) y v:=by
 have kk:=(S.drop s k).2
 by_cases hf:Flat x
 ·unfold fS at h;rw[if_pos hf] at h;simp only[aAk] at h;subst h;exact hu.flat hf kk.h
 ·rcases hx with hx|⟨s',k',rfl⟩|⟨cs,rfl,CM⟩
  ·exact absurd hx hf
  ·have:=hk (s',k') (by simp[jI,iB])
   simp only[Prod.mk.injEq] at this;obtain⟨rfl,rfl⟩:=this
   unfold fS at h;rw[if_neg hf] at h;exact (aNe S (.inr rfl) hu h).1
  ·have hc:∀c∈cs,Flat c\/c=.own s k:=fun c hc=>by
    rcases CM c hc with h|⟨s',k',rfl⟩
    ·exact .inl h
    ·have:=hk (s',k') (by simp only[jI];exact mem_flatMap.2 ⟨_,hc,by simp[iB]⟩)
     simp only[Prod.mk.injEq] at this;obtain⟨rfl,rfl⟩:=this
     exact .inr rfl
   unfold fS at h;rw[if_neg hf] at h;simp only[Option.map_eq_some_iff] at h;obtain⟨ys,Yg,rfl⟩:=h
   have H5:=jO _ _ Yg
   have hlen:ys.length=cs.length:=by have:=congrArg List.length H5;simpa using this.symm
   cases hu with
   | agg _ arr hl hr h1 =>
     refine .agg ys arr (by omega) (fun i y z hy hz=>?_) h1
     have hi:i<cs.length:=by have:=(List.getElem?_eq_some_iff.1 hy).1;omega
     have Lp:cN st cs[i]=some y:=by
      have:=congrArg (·[i]?) H5
      simp only[getElem?_map,hy,getElem?_eq_getElem hi,aAo,aAk] at this;exact this
     exact (aNe S (hc _ (getElem_mem hi)) (hr i cs[i] z (by simp[hi]) hz) Lp).1
theorem Sh {r:AV} {dst:Option Nat} {s k:Nat} {e:qZ} (h:Gr r st dst s k=some e) :
 (Flat r/\e={ dst:=dst,val:=r,dP:=some (s,k,none)}) \/
 (¬Flat r/\∃e1 sz n cs d,r=.uniq e1 sz n cs/\dst=some d/\(∀c∈cs,iE c)/\e={ dst:=some d,val:=.own d (st.aQ d),dP:=some (s,k,none),new:=some (d,[.row e1 sz n cs])}):=by
 unfold Gr at h;split at h
 ·rename_i hf;simp only[aAk] at h;exact .inl ⟨hf,h.symm⟩
 ·rename_i hf;split at h
  ·rename_i e1 sz n cs d;split at h
   ·rename_i hc;simp only[aAk] at h;exact .inr ⟨hf,e1,sz,n,cs,d,rfl,rfl,hc,h.symm⟩
   ·cases h
  ·cases h
theorem FX (S:kS F h0 w0 nt ρ st a w) {call:Nat->List AV->Option AV} (jC:pE P call) {g:Nat} {args:List AV} {vs:Array Value} {dst:Option Nat} {e:qZ}
 (h:fJ call g args st dst=some e) (fC:lK (ctx h0 w0 ρ st w) args vs.toList) (hd:∀d,dst=some d->d<nt)
 (hK:∀oK a' w',kS F h0 w0 nt oK (e.apply st) a' w'->K a' w') :
 zA P g/\Calls P g vs w fun en w'=>∃v,en=.returned v/\K (a.put dst v) w':=by
 unfold fJ at h;split at h
 ·rename_i s k Sb;split at h
  ·rename_i pJ;split at h
   ·rename_i xs FW;cases hc:call g xs with
    | none=>simp[hc,cT] at h
    | some r =>
      obtain⟨o9,hs⟩:=jC g xs r hc
      refine⟨o9, ?_⟩
      simp only[hc,cT] at h;have h:=Sh h
      have H5:=jO _ _ FW
      have LH:∀x∈xs,Flat x:=qB (fun a b h=>Lv h) _ _ FW
      have hlen:xs.length=args.length:=by have:=congrArg List.length H5;simpa using this.symm
      obtain⟨S1,kk⟩:=S.drop s k
      have Sg:lK (bare (ctx h0 w0 ρ (st.jG s k none) w).h) xs vs.toList:=⟨by rw[hlen];exact fC.len,fun i x y hx hy=>by
       have hi:i<args.length:=by have:=(List.getElem?_eq_some_iff.1 hx).1;omega
       have Lp:fS st args[i]=some x:=by
        have:=congrArg (·[i]?) H5
        simp only[getElem?_map,hx,getElem?_eq_getElem hi,aAo,aAk] at this;exact this
       refine aBT S (pJ _ (getElem_mem hi)) (fun p hp=>?_) (fC.rel i args[i] y (by simp[hi]) hy) Lp
       have:p∈args.flatMap jI:=mem_flatMap.2 ⟨_,getElem_mem hi,hp⟩
       rw[Sb] at this;simpa using this⟩
      refine ((CQ hs LH) w (ctx h0 w0 ρ (st.jG s k none) w).h vs (fun b o hb=>hb.1) Sg).mono ?_
      rintro en w' ⟨v,rfl,hr,hg⟩
      rcases h with ⟨XJ,rfl⟩|⟨XJ,e1,sz,n,cs,d,rfl,rfl,CM,rfl⟩
      ·refine⟨v,rfl,vG (e:={ dst:=dst,val:=r }) S1 hr hg (.inl fun b o hb=>hb) ?_ hd (fun oK a' w2 hS=>hK oK a' w2 hS)⟩
       unfold iZ;rw[if_pos XJ]
      ·refine⟨v,rfl,vG (e:={ dst:=some d,val:=.own d (st.aQ d),new:=some (d,[.row e1 sz n cs])}) S1 hr hg (.inr CM) ?_ hd (fun oK a' w2 hS=>hK oK a' w2 hS)⟩
       unfold iZ;rw[if_neg XJ];rfl
   ·cases h
  ·cases h
 ·exact zT S jC h fC hd hK
theorem MJ (S:kS F h0 w0 nt ρ st a w) {call:Nat->List AV->Option AV} (jC:pE P call) {g:Nat} {args:List AV} {vs:Array Value} {dst:Option Nat} {e:qZ}
 (h:uQ call g args st dst=some e) (fC:lK (ctx h0 w0 ρ st w) args vs.toList) (hd:∀d,dst=some d->d<nt)
 (hK:∀oK a' w',kS F h0 w0 nt oK (e.apply st) a' w'->K a' w') :
 zA P g/\Calls P g vs w fun en w'=>∃v,en=.returned v/\K (a.put dst v) w':=by
 unfold uQ at h;split at h
 ·rename_i x s k;split at h
  ·rename_i e0 sz n cs he;split at h
   ·rename_i CM;obtain⟨LH,CM⟩:=CM
    have XN:∃v0,vs=#[v0,ρ s k]/\cX (ctx h0 w0 ρ st w) x v0:=by
     have hl:=fC.len
     cases hv:vs.toList with
     | nil=>rw[hv] at hl;simp at hl
     | cons v0 r=>cases r with
       | nil=>rw[hv] at hl;simp at hl
       | cons v1 r=>cases r with
         | cons _ _=>rw[hv] at hl;simp at hl
         | nil =>
           rw[hv] at fC;have h1:=fC.rel 1 _ v1 rfl rfl
           have h2:v1=ρ s k:=by cases h1;rfl
           subst h2;exact⟨v0,Array.ext' hv,fC.head⟩
    obtain⟨v0,rfl,hv0⟩:=XN
    obtain⟨hk1,hk2,ys,ho,oO⟩:=S.sS s k _ he
    split at h
    ·rename_i r hr;split at h
     ·rename_i XJ;obtain⟨o9,hs⟩:=jC _ _ _ hr
      refine⟨o9, ?_⟩
      have hs:o0 P g x e0 sz n cs r:=by
       cases LH<;>exact hs
      refine (hs w (ctx h0 w0 ρ st w).h v0 (ρ s k) ys (fun b o hb=>hb.1) (fun b o hb=>hb.2.2 s k _ he) (wD ho (Nat.zero_le _)) (oO.flat CM fun b o hb=>hb) (hv0.flat LH fun b o hb=>hb)).mono ?_
      rintro en w' ⟨v,rfl,hr,hg⟩
      refine⟨v,rfl,vG S hr hg (.inl fun b o hb=>hb) ?_ hd hK⟩
      unfold iZ;rw[if_pos XJ];exact h
     ·cases h
    ·cases h
   ·cases h
  ·cases h
 ·split at h
  ·exact zT S jC h fC hd hK
  ·cases h
theorem MK (S:kS F h0 w0 nt ρ st a w) {call:Nat->List AV->Option AV} (jC:pE P call) {g:Nat} {args:List AV} {vs:Array Value} {dst:Option Nat} {e:qZ}
 (h:lP call g args st dst=some e) (fC:lK (ctx h0 w0 ρ st w) args vs.toList) (hd:∀d,dst=some d->d<nt)
 (hK:∀oK a' w',kS F h0 w0 nt oK (e.apply st) a' w'->K a' w') :
 zA P g/\Calls P g vs w fun en w'=>∃v,en=.returned v/\K (a.put dst v) w':=by
 unfold lP at h;split at h
 ·rename_i s k rest;split at h
  ·rename_i e0 sz n cs he;split at h
   ·rename_i CM;obtain⟨CM,XJ⟩:=CM
    have XN:∃v0 vr,vs=#[v0]++vr/\cX (ctx h0 w0 ρ st w) (.own s k) v0/\lK (ctx h0 w0 ρ st w) rest vr.toList:=by
     have hl:=fC.len
     cases hv:vs.toList with
     | nil=>rw[hv] at hl;simp at hl
     | cons v0 vr =>
       rw[hv] at fC;refine⟨v0,vr.toArray, ?_,fC.head,by simpa using fC.tail⟩
       apply Array.ext'
       rw[hv];simp
    obtain⟨v0,vr,rfl,hv0,hrest⟩:=XN
    have hv0':v0=ρ s k:=by cases hv0;rfl
    subst hv0'
    obtain⟨hk1,hk2,ys,ho,oO⟩:=S.sS s k _ he
    have run:∀r,call g (.uniq e0 sz n cs :: rest)=some r->zA P g /\
     Calls P g (#[ρ s k]++vr) w fun en w'=>∃v,en=.returned v/\w.grownBy w' (dD (ρ s k)) /\
      match r with
      | .uniq e' sV n' Gp=>∃zs,mZ w' 0 e' sV v n' zs/\fU (bare (ctx h0 w0 ρ st w).h) Gp zs/\∀b,dD v=some b->dD (ρ s k)=some b\/w.heap.size<=b
      | .eH [.uniq e' sV n' Gp]=>v=.tuple #[]/\∃zs,mZ w' 0 e' sV (ρ s k) n' zs/\fU (bare (ctx h0 w0 ρ st w).h) Gp zs
      | _=>False:=by
     intro r hr;obtain⟨o9,hs⟩:=jC _ _ _ hr
     refine⟨o9, ?_⟩
     have hs:n8 P g e0 sz n cs rest r:=hs
     exact hs w (ctx h0 w0 ρ st w).h (ρ s k) ys vr (fun b o hb=>hb.1) (fun b o hb=>hb.2.2 s k _ he) (wD ho (Nat.zero_le _)) (oO.flat CM fun b o hb=>hb) (KB hrest XJ fun b o hb=>hb)
    have bareLe:∀C:Ctx,(ctx h0 w0 ρ st w).Le C->(bare (ctx h0 w0 ρ st w).h).Le C:=fun C kC=>⟨kC.h,fun _=>Nat.zero_le _,fun _ _ h=>absurd h (by simp[bare])⟩
    have yI:∀b,dD (ρ s k)=some b->w0.heap.size<=b:=fun b hb=>(wE ho b hb).1
    split at h
    ·rename_i e' sV n' Gp hr
     obtain⟨o9,hc⟩:=run _ hr
     refine⟨o9,hc.mono ?_⟩
     rintro en w' ⟨v,rfl,hg,zs,hz,hzc,hzb⟩
     cases dst with
     | none=>cases h
     | some d =>
       simp only[aAk] at h;subst h;refine⟨v,rfl, ?_⟩
       obtain⟨S',kk,oS⟩:=S.aAe he hg d (.row e' sV n' Gp) v (qL hz) hzb (fun C kC=>⟨zs,Sf hz (fun b hb=>by
        rcases hzb b hb with h|h
        ·exact yI b h
        ·have:=S.ext.size;omega),hzc.le (bareLe C kC)⟩)
       have happ:qZ.apply { dst:=some d,val:=.own d (st.aQ d),dP:=some (s,k,none),new:=some (d,[.row e' sV n' Gp])} st=((st.jG s k none).new d (.row e' sV n' Gp)).put (some d) (.own d (st.aQ d)):=by
        simp only[qZ.apply,Zy]
       have aW:st.aQ d<(ctx h0 w0 (uS ρ d (st.aQ d) v) ((st.jG s k none).new d (.row e' sV n' Gp)) w').aQ d:=by simp[ctx,St.new,St.jG]
       have jU:(ctx h0 w0 (uS ρ d (st.aQ d) v) ((st.jG s k none).new d (.row e' sV n' Gp)) w').ρ d (st.aQ d)=v:=oS
       have:=cX.own (C:=ctx h0 w0 (uS ρ d (st.aQ d) v) ((st.jG s k none).new d (.row e' sV n' Gp)) w') d (st.aQ d) aW (by rw[jU];exact qL hz)
       rw[jU] at this;have hS:=S'.put (some d) hd this
       rw[<- happ] at hS;exact hK _ _ _ hS
    ·rename_i e' sV n' Gp hr
     obtain⟨o9,hc⟩:=run _ hr
     refine⟨o9,hc.mono ?_⟩
     rintro en w' ⟨v,rfl,hg,rfl,zs,hz,hzc⟩
     simp only[aAk] at h;subst h;have S':=S.aAd (e':=.row e' sV n' Gp) he hg (fun C kC=>⟨zs,Sf hz yI,hzc.le (bareLe C kC)⟩)
     exact⟨_,rfl,hK ρ _ _ (S'.put dst hd (.eH [] #[] rfl (by simp)))⟩
    ·cases h
   ·cases h
  ·cases h
 ·split at h
  ·exact zT S jC h fC hd hK
  ·cases h
end
end Go.Ab
end
section
namespace Go.Ab
open Classical
section
variable {P:Program} {h0:Nat->Obj->Prop} {w0:World} {F:Gs} {nt:Nat} {ρ:Nat->Nat->Value} {st:St} {a:Act} {w:World} {K:Act->World->Prop} {Q:Exit->Act->World->Prop}
theorem upon_value {o:Oper} {v:Value} {w':World} (h:(execOp a.eval o).run P w=.ok (.value v) w') (hk:K (a.put o.dst v) w'):o.wp P a w K Q:=by
 unfold Oper.wp;rw[h];exact hk
theorem kS.newVar (S:kS F h0 w0 nt ρ st a w) (d:Nat) (hd:d<nt) (cs:List AV) (arr:Array Value) (T:Nat) (hc:fU (ctx h0 w0 ρ st w) cs arr.toList) :
 ∃oK,kS F h0 w0 nt oK ((st.new d (.cells cs)).put (some d) (.ptr d (st.aQ d) 0)) (a.put (some d) (.pointer (some ⟨w.heap.size,0,none⟩))) (w.alloc (.cells arr T)):=by
 obtain⟨S',k,oS⟩:=S.new (World.grownBy_alloc w (.cells arr T) none) d (.cells cs) (.pointer (some ⟨w.heap.size,0,none⟩)) rfl (fun b hb=>by simp[dD] at hb;omega)
  (fun C k _=>⟨w.heap.size,arr,T,rfl,S.ext.size,heap_alloc_new w _,hc.le k⟩)
 exact⟨_,S'.put (some d) (fun t ht=>by cases ht;exact hd) (.ptr d (st.aQ d) 0 w.heap.size (by simp[ctx,St.new]) (by show dD (uS _ _ _ _ _ _)=_;rw[oS];rfl))⟩
theorem kS.newRow (S:kS F h0 w0 nt ρ st a w) (d:Nat) (hd:d<nt) {w':World} (hg:w.grownBy w' none) (e sz n:Nat) (cs:List AV) (xs:List Value) (v:Value) (ho:mZ w' w.heap.size e sz v n xs) (hc:fU (ctx h0 w0 ρ st w) cs xs) :
 ∃oK,kS F h0 w0 nt oK ((st.new d (.row e sz n cs)).put (some d) (.own d (st.aQ d))) (a.put (some d) v) w':=by
 obtain⟨S',k,oS⟩:=S.new hg d (.row e sz n cs) v (qL ho) (fun b hb=>(wE ho b hb).1) (fun C k _=>⟨xs,wD ho S.ext.size,hc.le k⟩)
 refine⟨_,S'.put (some d) (fun t ht=>by cases ht;exact hd) ?_⟩
 have aW:st.aQ d<(ctx h0 w0 (uS ρ d (st.aQ d) v) (st.new d (.row e sz n cs)) w').aQ d:=by simp[ctx,St.new]
 have jU:(ctx h0 w0 (uS ρ d (st.aQ d) v) (st.new d (.row e sz n cs)) w').ρ d (st.aQ d)=v:=oS
 have:=cX.own (C:=ctx h0 w0 (uS ρ d (st.aQ d) v) (st.new d (.row e sz n cs)) w') d (st.aQ d) aW (by rw[jU];exact qL ho)
 rw[jU] at this;exact this
theorem Ke (z:Array Value) (n:Nat):((Array.range (n * z.size)).map (z[· % z.size]!)).toList=(List.range n).flatMap fun _=>z.toList:=by
 rw[Array.toList_map];have:(Array.range (n * z.size)).toList=List.range (n * z.size):=by simp
 rw[this];clear this
 induction n with
 | zero=>simp
 | succ n ih =>
   rw[Nat.succ_mul,range_add,map_append,ih,range_succ,flatMap_append];congr 1
   simp only[flatMap_cons,flatMap_nil,append_nil,map_map];apply ext_getElem?
   intro i;by_cases hi:i<z.size
   ·simp[hi,Nat.mod_eq_of_lt hi,Nat.mul_comm n z.size]
   ·simp[hi]
theorem Lw {C:Ctx} {z:List Value} (h1:∀y∈z,y.oneCell'=true) (n:Nat):fU C ((List.range n).flatMap fun _=>z.map .v) ((List.range n).flatMap fun _=>z):=by
 generalize List.range n=l
 induction l with
 | nil=>exact .nil C
 | cons x l ih=>simp only[flatMap_cons];exact (fU.vs C z h1).app ih
theorem Vj (S:kS F h0 w0 nt ρ st a w) {T n e sz by_:Nat} {parts:Array (Nat × Operand)} {z:List Value} {cs:List AV} (hs:dX P T=some (e,sz,by_)) (hz:eK P e=some z)
 (hn:0<n\/parts=#[]) (hlim:n * sz<=2 ^ 24) (tG:(parts.toList.all fun p=>(st.ev p.2).jH)=true)
 (hf:gS (fun i=>some (i * sz,sz)) ((List.range n).flatMap fun _=>z.map .v) (parts.toList.map fun p=>(p.1,st.ev p.2))=some cs) :
 ∃v w' xs,(Instr.buildSlice T n (parts.map fun (i,x)=>(i,a.eval x))).run P w=.ok v w'/\w.grownBy w' none/\mZ w' w.heap.size e sz v n xs/\fU (ctx h0 w0 ρ st w) cs xs:=by
 obtain⟨ei,ez,hT,Dx,FK,rfl,FF,rfl,uJ⟩:=kK hs
 obtain⟨i',zv,Ei,TH,rfl,hz1⟩:=Bk hz
 rw[Dx] at Ei
 cases Ei
 rw[FK] at TH;cases TH
 rcases Nat.eq_zero_or_pos n with h0'|hn
 ·subst h0'
  have hp:parts=#[]:=by
   rcases hn with h|h
   ·omega
   ·exact h
  subst hp;simp[gS] at hf
  subst hf;refine⟨.slice (some ⟨w.heap.size,0,none⟩) 0 0,w.alloc (.cells #[] e),[], ?_,World.grownBy_alloc w _ none,⟨by simp,.inl ⟨_,rfl,rfl⟩⟩,.nil _⟩
  simp[Instr.buildSlice,run_underlying hT,sizeOf,typeInfo,zeroValue,Dx,Instr.fill,newRow]
  rw[show Array.map (fun x=>(default:Value)) (Array.range 0)=#[] from by simp[Array.range]]
 have fC:lK (ctx h0 w0 ρ st w) ((parts.toList.map fun p=>(p.1,st.ev p.2)).map (·.2)) ((parts.toList.map fun p=>(p.1,a.eval p.2)).map (·.2)):=by
  simp only[map_map];exact lK.map _ _ _ fun p _=>S.ev p.2
 have hnz:¬n * ei.size=0:=by
  have:=Nat.mul_pos hn uJ
  omega
 have p4:((Array.range (n * ei.size)).map (ez.cells[· % ez.cells.size]!)).toList=(List.range n).flatMap fun _=>ez.cells.toList:=by
  rw[<- FF];exact Ke ez.cells n
 obtain⟨cells,TJ,oO⟩:=Pk (place:=fun i=>some (i * ei.size,ei.size)) (parts.toList.map fun p=>(p.1,st.ev p.2)) (parts.toList.map fun p=>(p.1,a.eval p.2)) _ ((Array.range (n * ei.size)).map (ez.cells[· % ez.cells.size]!)) cs (by simp) fC
  (fun p XR=>by
   obtain⟨q,hq,rfl⟩:=mem_map.1 XR
   exact all_eq_true.1 tG q hq) (by rw[p4];exact Lw hz1 n) hf
 have hr:=run_buildSlice (P:=P) w T e n (parts.map fun (i,x)=>(i,a.eval x)) cells ei ez hT Dx FK (by omega) hnz (by simpa using TJ)
 have hsz:cells.size=n * ei.size:=by
  have hlen:∀(place:Nat->Option (Nat × Nat)) (ps:List (Nat × AV)) (c out:List AV),gS place c ps=some out->out.length=c.length:=by
   intro place ps;induction ps with
   | nil=>intro c out h;simp[gS] at h;rw[h]
   | cons p ps ih =>
     intro c out h;obtain⟨i,x⟩:=p
     unfold gS at h;split at h
     ·cases h
     ·split at h
      ·rename_i hc;have:=ih _ _ h
       rw[this];simp
       omega
      ·cases h
  have h1:=hlen _ _ _ _ hf
  have h2:=oO.len
  have h3:=(Lw (C:=ctx h0 w0 ρ st w) hz1 n).len
  rw[<- p4] at h3;simp only[Array.length_toList,Array.size_map,Array.size_range] at h2 h3;omega
 refine⟨_,_,cells.toList,hr,World.grownBy_alloc w _ none,Iz ?_,oO⟩
 refine⟨by simp[hsz],.inr ⟨w.heap.size,n,cells,rfl,Nat.le_refl _,heap_alloc_new w _,Nat.le_refl _, ?_,hsz, ?_⟩⟩
 ·have:n<=n * ei.size:=Nat.le_mul_of_pos_right n uJ
  simp only[maxLen];omega
 ·rw[<- hsz,<- Array.length_toList,take_length]
theorem Yh (C:Ctx) {T e sz by_:Nat} {z:List Value} {n:Nat} (hs:dX P T=some (e,sz,by_)) (hz:eK P e=some z)
 (hb:n * by_<=140737488355328) (hm:n<=maxLen) :
 ∃v w' xs,(Instr.makeSlice T (.int .i64 n) (.int .i64 n)).run P w=.ok v w'/\w.grownBy w' none/\mZ w' w.heap.size e sz v n xs/\fU C ((List.range n).flatMap fun _=>z.map .v) xs:=by
 obtain⟨ei,ez,hT,Dx,FK,rfl,FF,rfl,uJ⟩:=kK hs
 obtain⟨i',zv,Ei,TH,rfl,hz1⟩:=Bk hz
 rw[Dx] at Ei
 cases Ei
 rw[FK] at TH;cases TH
 obtain⟨w',hr,ho,hg⟩:=run_make_full (P:=P) w w.heap.size T e ei ez ei.size hT Dx FK rfl .i64 .i64 n (by rw[Nat.mul_comm];omega) hm (Nat.le_refl _)
 have p4:(madeCells ez.cells (n * ei.size)).toList=(List.range n).flatMap fun _=>ez.cells.toList:=by
  unfold madeCells;rw[<- FF];exact Ke ez.cells n
 exact⟨_,w',_,hr,hg,Iz ho,by rw[p4];exact Lw hz1 n⟩
theorem TP (S:kS F h0 w0 nt ρ st a w) {T:Nat} {x y:AV} {s g:Nat} {e:oA} {u v:Value} (h:qQ P st T x y=some (s,g,e)) (hu:cX (ctx h0 w0 ρ st w) x u) (hv:cX (ctx h0 w0 ρ st w) y v) :
 ∃w',(Instr.storeAt T u v).run P w=.ok () w'/\kS F h0 w0 nt ρ (st.jG s g (some e)) a w':=by
 unfold qQ at h;split at h
 ·rename_i s' g' off
  split at h
  ·rename_i ba k hld;split at h
   ·rename_i hc;obtain⟨c1,c2⟩:=hc
    obtain⟨i,d,hi,hd,lB,rfl⟩:=Ck hld
    have ML:=hv.cells c2
    have hlen:=ML.len
    simp only[Array.length_toList] at hlen;cases hu with
    | ptr _ _ _ b hg hb =>
      have oM:dD (ρ s' g')=some b:=hb
      have main:∀(arr:Array Value) (B:Nat),w.heap[b]? = some (.cells arr B (0,0))->off+i.size<=arr.size ->
       (Instr.storeAt T (.pointer (some ⟨b,off,none⟩)) v).run P w=.ok () (w.setRow b (arr.toList.take off++v.cells.toList++arr.toList.drop (off+i.size)).toArray):=by
       intro arr B hh hle;have tG:=run_storeCells_at P b off B v.cells.toList 0 arr w hh (by simp;omega) (fun y hy=>by
        obtain⟨j,hj,rfl⟩:=getElem_of_mem hy
        exact ML.one j _ (by simp))
       simp only[Nat.add_zero,Array.length_toList] at tG;simp only[Instr.storeAt,Instr.sureAddr];rw[dQ (Sem.run_pure P w _)];simp only[storeVar,dQ (run_sizeOf w hi)];rw[if_neg (by omega),show off+i.size=off+v.cells.size by omega]
       exact tG
      have grown:∀(cs:Array Value),w.grownBy (w.setRow b cs) (some b):=fun cs=>⟨rfl,rfl,rfl,by simp,fun k _ hk=>setRow_other w b k cs (fun e=>hk (by rw[e]))⟩
      cases he:st.heap s' g' with
      | none=>simp[he] at h
      | some e' =>
        obtain⟨_,_,her⟩:=S.sS s' g' _ he
        cases e' with
        | cells cs =>
          simp only[he] at h;split at h
          ·rename_i hle;simp only[aAk,Prod.mk.injEq] at h;obtain⟨rfl,rfl,rfl⟩:=h
           obtain⟨b',arr,B,jU,yI,hh,hc⟩:=her
           have xG:b'=b:=by rw[jU] at oM;simpa [dD] using oM
           subst xG;have hl:=hc.len
           simp only[Array.length_toList] at hl;refine⟨_,main arr B hh (by omega),S.store he oM (grown _) fun C k=>⟨b',_,B,jU,yI,setRow_heap w b' arr _ B (0,0) hh, ?_⟩⟩
           exact (((hc.take off).app ML).app (hc.drop _)).le k
          ·cases h
        | row e2 sz n cs =>
          simp only[he] at h;split at h
          ·rename_i hle;simp only[aAk,Prod.mk.injEq] at h;obtain⟨rfl,rfl,rfl⟩:=h
           obtain⟨xs,ho,hc⟩:=her
           have ho':=ho
           rcases ho.2 with ⟨p,jU,_⟩|⟨b',cap,cur,jU,yI,hh,Yf,Q6,CM,ht,qM⟩
           ·rw[jU,oR] at oM;cases oM
           ·have xG:b'=b:=by rw[jU,jJ qM] at oM;simpa using oM
            subst xG;have hl:=hc.len
            have hx:=ho.1
            have hle2:n * sz<=cap * sz:=Nat.mul_le_mul_right _ Yf
            refine⟨_,main cur e2 hh (by omega),S.store he oM (grown _) fun C k=>⟨xs.take off++v.cells.toList++xs.drop (off+i.size), ?_,(((hc.take off).app ML).app (hc.drop _)).le k⟩⟩
            refine⟨by simp;omega,.inr ⟨b',cap,_,jU,yI,setRow_heap w b' cur _ e2 (0,0) hh,Yf,Q6,by simp;omega, ?_,qM⟩⟩
            simp only
            rw[<- ht];have zO:cur.toList.length=cur.size:=rfl
            have hvl:v.cells.toList.length=v.cells.size:=rfl
            have l1:(cur.toList.take off++v.cells.toList).length=off+i.size:=by simp;omega
            rw[take_append,l1,take_of_length_le (by omega),drop_take,take_take,Nat.min_eq_left (by omega)]
          ·cases h
        | map es=>simp[he] at h
        | Ii e sz n cs=>simp[he] at h
   ·cases h
  ·cases h
 ·cases h
end
end Go.Ab
end
