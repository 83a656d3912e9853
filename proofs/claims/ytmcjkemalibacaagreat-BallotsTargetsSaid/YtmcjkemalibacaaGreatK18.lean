/-
  Part 18 of the proof: an evaluator of programs, its soundness, and what functions of this program compute.
-/
import Derived.Test.YtmcjkemalibacaaGreatK5
import Derived.Below
import Derived.ChangeSlices
import Derived.ChangeShapes
import Derived.WideShapes
import Derived.OpenShut
import Derived.Test.YtmcjkemalibacaaGreatProg
import Derived.JoinedOf
import Derived.KernelRfl
set_option linter.all false
set_option maxRecDepth 20000
set_option maxHeartbeats 40000000
namespace Go.Ab
open Go Go.RowKit
theorem Qu {w w':World} (g:w.grownBy w' none):Below w.heap.size w w' :=
 ⟨g.os,g.tape,g.output,g.size,fun k hk=>g.block k hk (by simp)⟩
theorem Ux [Ext] {P:Program} (hm:P.follows .mixedOrders=true) (hx:Ss P) {f:Nat} {xs:List AV} {b:Bool} (h:aB P f xs=some (.v (.bool b))) (hu:xs.any sZ=false) (w:World) (vs:Array Value)
 (hr:lC (bare fun k o=>w.heap[k]? = some o) xs vs.toList) :
 Calls P f vs w fun e w'=>e=.returned (.bool b)∧Below w.heap.size w w':=by
 have hs:=TW (P:=P) hm hx h
 have hC:GQ P f xs (.v (.bool b)):=by
  unfold Hf at hs;split at hs
  ·simp[sZ] at hu
  ·exact hs
 refine (hC w _ vs (fun _ _ h=>h) hr).mono fun e w' ⟨v,he,hv,hg⟩=>?_
 obtain⟨us,_,_,_,_,h5⟩:=hv
 have hl:us=[]:=by
  rename_i h4;have:=h4 0 0
  exact List.length_eq_zero_iff.1 this.symm
 subst hl;have:=(h5 (bare (newHs (fun k o=>w.heap[k]? = some o) w w' [])) 0 0 (fun _ _ h=>h) (by simp)).1
 have hv:v=.bool b:=by cases this;rfl
 subst hv;exact⟨he,Qu hg⟩
end Go.Ab
namespace Go.Ab
open Go Go.WideShapes Go.ChangeShapes
theorem Nt {H:Type} {enc:TypeId × Value→H} {P:Program} {w:World} {base:Nat} {held:Bool} {t e:TypeId} {k:IntKind} {v:Value} {d:DataW H} {p:List MemPlace} (ht:P.underlying t=some (.slice e)) (he:P.underlying e=some (.int k)) (hc:P.cellsOf e=1)
 {W2:World} {r:Reach} {b2:Nat} (hv:Value.okWide P W2 r b2 t v) (h:DataW.Trod enc P w base (fun _=>true) held t v d p) :
 ∃l:List Int,(l.length:Int)≤9223372036854775807∧cM (bare fun b o=>w.heap[b]? = some o) (.sl l.length (l.map fun x=>.v (.int k x))) v:=by
 obtain⟨a0,ZQ,cap0,rfl⟩:=okWide_slice ht hv
 obtain⟨m,hm⟩:=h
 rcases open_ints ht he hc hm with ⟨h1,h2⟩|⟨a,len,cap,zs,h1,hb,hl,y8,hzl,hx,mH,hwf⟩
 ·simp[Value.cells] at h1
  obtain⟨rfl,rfl,rfl⟩:=h1
  exact⟨[],by simp,.FB 0 0 none (Nat.le_refl _)⟩
 ·simp[Value.cells] at h1
  obtain⟨rfl,rfl,rfl⟩:=h1
  simp only[if_true] at hzl;have hlen:(zs.take ZQ).length=ZQ:=by simp;omega
  refine⟨zs.take ZQ,by rw[hlen];simp only[maxLen] at y8;omega, ?_⟩
  rw[hlen];rcases Nat.eq_zero_or_pos ZQ with h0|h0
  ·subst h0;exact .FB 0 cap0 _ hl
  ·have oM:=mH 0 (by omega)
   have ha:a.add 0=a:=by simp[Addr.add]
   rw[ha] at oM;unfold World.cell? at oM
   split at oM
   ·rename_i arr T fr TX;split at oM
    ·cases oM
    ·rename_i Ff;obtain⟨FC,off,spot⟩:=a
     simp only at TX oM Ff
     have aFT:spot=none:=by cases spot<;>simp at Ff ⊢
     subst aFT;have each:∀i,i<zs.length→arr[off+i]? = some (.int k (zs.getD i 0)):=fun i hi=>by
      have:=mH i hi
      rw[kM] at this;rw[cell_of_row w FC (off+i) arr T fr TX] at this;exact this
     have YG:off+zs.length≤arr.size:=by
      rcases Nat.eq_zero_or_pos zs.length with hz|hz
      ·omega
      ·have:=(Array.getElem?_eq_some_iff.1 (each (zs.length-1) (by omega))).1
       omega
     refine .sl _ _ FC off cap0 arr T fr hl TX (by simp;omega) (fun i x y hx hy=>?_) (fun i y hi hy=>?_)
     ·have hi:i<ZQ:=by
       have:=(List.getElem?_eq_some_iff.1 hx).1
       simp at this;omega
      rw[each i (by omega)] at hy
      simp only[Option.some.injEq] at hy;subst hy;rw[List.getElem?_map,List.getElem?_take,if_pos hi] at hx;have hz:zs[i]? = some (zs.getD i 0):=by simp[show i<zs.length by omega]
      rw[hz] at hx;simp at hx
      subst hx;exact .v _
     ·have Aa:i<zs.length:=by simp at hi;omega
      rw[each i Aa] at hy;simp only[Option.some.injEq] at hy;subst hy;rfl
   ·cases oM
theorem Jb (l:List Int):aH l=l.map fun x=>.v (.int .i64 x):=by
 induction l with
 | nil=>rfl
 | cons a l ih=>simp only[aH,List.flatMap_cons,List.map_cons,oZ] at *;rw[ih];rfl
end Go.Ab
namespace Go.Ab
open Go Go.WideShapes
def nY:List (Option IntKind)→List AV→Prop
 | [],[]=>True
 | some k :: ks,.v (.int k' _) :: l=>k=k'∧nY ks l
 | none :: ks,.v (.bool _) :: l=>nY ks l
 | _,_=>False
theorem nY.app:∀ {a b:List (Option IntKind)} {l:List AV},nY (a++b) l→∃l1 l2,l=l1++l2∧nY a l1∧nY b l2
 | [],b,l,h=>⟨[],l,rfl,trivial,h⟩
 | some k :: a,b,[],h=>h.elim
 | none :: a,b,[],h=>h.elim
 | some k :: a,b,x :: l,h=>by
   match x,h with
   | .v (.int k' n),h =>
     obtain⟨l1,l2,rfl,h1,h2⟩:=nY.app (a:=a) h.2
     exact⟨.v (.int k' n) :: l1,l2,rfl,⟨h.1,h1⟩,h2⟩
 | none :: a,b,x :: l,h=>by
   match x,h with
   | .v (.bool n),h =>
     obtain⟨l1,l2,rfl,h1,h2⟩:=nY.app (a:=a) h
     exact⟨.v (.bool n) :: l1,l2,rfl,h1,h2⟩
theorem Nu (k:IntKind):∀(n:Nat) (l:List AV),nY (List.replicate n (some k)) l→∃xs:List Int,xs.length=n∧l=xs.map fun x=>.v (.int k x)
 | 0,[],_=>⟨[],rfl,rfl⟩
 | 0,_ :: _,h=>h.elim
 | n+1,[],h=>h.elim
 | n+1,x :: l,h=>by
   match x,h with
   | .v (.int k' m),h =>
     obtain⟨rfl,h⟩:=h
     obtain⟨xs,hl,rfl⟩:=Nu k n l h
     exact⟨m :: xs,by simp[hl],rfl⟩
theorem MY {l:List AV} (h:nY (List.replicate 32 (some .u8)) l):∃r:bX,l=aY r:=by
 obtain⟨xs,hl,rfl⟩:=Nu _ _ _ h
 exact⟨⟨xs.toArray,by simpa using hl⟩,by simp[aY]⟩
theorem aB0 {l:List AV} (h:nY [some .u64] l):∃x:Int,l=sD x:=by
 obtain⟨xs,hl,rfl⟩:=Nu .u64 1 _ h
 match xs,hl with
 | [x],_=>exact⟨x,rfl⟩
theorem aBY {l:List AV} (h:nY [some .i64] l):∃x:Int,l=oZ x:=by
 obtain⟨xs,hl,rfl⟩:=Nu .i64 1 _ h
 match xs,hl with
 | [x],_=>exact⟨x,rfl⟩
end Go.Ab
section
namespace Go.Ab
open Go Go.WideShapes Go.ChangeShapes
def Jc (P:Program) (f:Nat→Option (List (Option IntKind))):List Field→Nat→Option (List (Option IntKind))
 | [],_=>some []
 | fd :: r,off =>
   match f fd.type with
   | some ks=>if fd.offset=off∧P.cellsOf fd.type=ks.length then (Jc P f r (off+ks.length)).map (ks ++ ·) else none
   | none=>none
def Bo (P:Program):Nat→Nat→Option (List (Option IntKind))
 | 0,_=>none
 | d+1,t =>
   match P.underlying t with
   | some .bool=>some [none]
   | some (.int k)=>some [some k]
   | some (.struct fs) =>
     match Jc P (Bo P d) fs.toList 0 with
     | some ks=>if P.cellsOf t=ks.length then some ks else none
     | none=>none
   | some (.array n e) =>
     match Bo P d e with
     | some ks=>if P.cellsOf e=ks.length∧P.cellsOf t=n * ks.length then some ((List.replicate n ks).flatten) else none
     | none=>none
   | _=>none
theorem add_add (a:Addr) (i j:Nat):(a.add i).add j=a.add (i+j):=by
 unfold Addr.add;by_cases hi:i=0
 ·subst hi;simp
 ·by_cases hj:j=0
  ·subst hj;simp[hi]
  ·simp[hi,hj,Nat.add_assoc]
def yY (ks:List (Option IntKind)) (cs:List Value):Prop:=nY ks (cs.map AV.v)∧∀v∈cs,v.oneCell'=true
theorem nY.TY:∀ {a b:List (Option IntKind)} {l m:List AV},nY a l→nY b m→nY (a++b) (l++m)
 | [],b,[],m,_,h=>h
 | [],b,_ :: _,m,h,_=>h.elim
 | some k :: a,b,[],m,h,_=>h.elim
 | none :: a,b,[],m,h,_=>h.elim
 | some k :: a,b,x :: l,m,h,h2=>by
   match x,h with
   | .v (.int k' n),h=>exact⟨h.1,nY.TY (a:=a) h.2 h2⟩
 | none :: a,b,x :: l,m,h,h2=>by
   match x,h with
   | .v (.bool n),h=>exact nY.TY (a:=a) h h2
theorem yY.app {a b:List (Option IntKind)} {l m:List Value} (h:yY a l) (h2:yY b m):yY (a++b) (l++m) :=
 ⟨by rw[List.map_append];exact h.1.TY h2.1,fun v hv=>by rcases List.mem_append.1 hv with hv|hv;exact h.2 v hv;exact h2.2 v hv⟩
theorem nY.len:∀ {a:List (Option IntKind)} {l:List AV},nY a l→l.length=a.length
 | [],[],_=>rfl
 | [],_ :: _,h=>h.elim
 | some k :: a,[],h=>h.elim
 | none :: a,[],h=>h.elim
 | some k :: a,x :: l,h=>by
   match x,h with
   | .v (.int k' n),h=>simp[nY.len (a:=a) h.2]
 | none :: a,x :: l,h=>by
   match x,h with
   | .v (.bool n),h=>simp[nY.len (a:=a) h]
section
variable {H:Type} {enc:TypeId × Value→H} {P:Program} {w:World} {base:Nat} {spare:Nat→Bool} {held:Bool}
theorem Nv {d:Nat} (ih:∀(t:Nat) (ks:List (Option IntKind)) (fuel:Nat) (cs:List Value) (x:DataW H × List MemPlace),Bo P d t=some ks→DataW.trod enc P w base spare held fuel t cs=some x→yY ks cs) (cs:List Value) :
 ∀(l:List Field) (off:Nat) (ks:List (Option IntKind)),Jc P (Bo P d) l off=some ks→(∀f∈l,∃n y,DataW.trod enc P w base spare held n f.type ((cs.drop f.offset).take (P.cellsOf f.type))=some y)→cs.length=off+ks.length→yY ks (cs.drop off)
 | [],off,ks,h,_,hl=>by
   simp only[Jc,Option.some.injEq] at h;subst h;rw[List.drop_of_length_le (by simp at hl;omega)]
   exact⟨trivial,by simp⟩
 | fd :: r,off,ks,h,hf,hl=>by
   simp only[Jc] at h;cases hk:Bo P d fd.type with
   | none=>rw[hk] at h;cases h
   | some k1 =>
     rw[hk] at h;simp only at h
     split at h
     ·rename_i hc;obtain⟨rfl,hc2⟩:=hc
      cases hr:Jc P (Bo P d) r (fd.offset+k1.length) with
      | none=>rw[hr] at h;cases h
      | some k2 =>
        rw[hr] at h;simp only[Option.map_some,Option.some.injEq] at h;subst h;obtain⟨n,y,hy⟩:=hf fd (by simp)
        rw[hc2] at hy;have h1:=ih _ _ _ _ _ hk hy
        simp only[List.length_append] at hl;have h2:=Nv ih cs r (fd.offset+k1.length) k2 hr (fun f LS=>hf f (by simp[LS])) (by omega)
        have:=h1.app h2
        rw[← List.drop_drop,List.take_append_drop] at this;exact this
     ·cases h
theorem Ei:∀(d t:Nat) (ks:List (Option IntKind)) (fuel:Nat) (cs:List Value) (x:DataW H × List MemPlace),Bo P d t=some ks→DataW.trod enc P w base spare held fuel t cs=some x→yY ks cs
 | 0,t,ks,fuel,cs,x,h,_=>by simp[Bo] at h
 | d+1,t,ks,fuel,cs,x,h,hx=>by
   have ih:=Ei d
   unfold Bo at h;split at h
   ·rename_i ht;obtain rfl:[none]=ks:=by simpa using h
    cases fuel with
    | zero=>simp[DataW.trod] at hx
    | succ n =>
      unfold DataW.trod at hx;rw[ht] at hx;split at hx<;>simp_all
      exact⟨trivial,by simp[Value.oneCell']⟩
   ·rename_i k ht;obtain rfl:[some k]=ks:=by simpa using h
    obtain⟨m,rfl,_,_⟩:=DataW.trod_int ht hx
    exact⟨⟨rfl,trivial⟩,by simp[Value.oneCell']⟩
   ·rename_i fs ht;split at h
    ·rename_i ks' hk
     split at h
     ·rename_i hc;obtain rfl:ks'=ks:=by simpa using h
      obtain⟨xs,n,_,_,hl,hlen,hf⟩:=DataW.trod_struct ht hx
      have:=Nv ih cs fs.toList 0 ks' hk (fun f LS=>by
       obtain⟨i,hi⟩:=List.getElem?_of_mem LS
       have Aa:fs[i]? = some f:=by simpa using hi
       have h2:=hf i f Aa
       have aZ:i<xs.length:=by
        have:=(Array.getElem?_eq_some_iff.1 Aa).1
        omega
       rw[List.getElem?_eq_getElem aZ] at h2;exact⟨_,_,h2⟩) (by omega)
      simpa using this
     ·cases h
    ·cases h
   ·rename_i n e ht;split at h
    ·rename_i ks' hk
     split at h
     ·rename_i hc;obtain⟨c1,c2⟩:=hc
      obtain rfl:(List.replicate n ks').flatten=ks:=by simpa using h
      obtain⟨xs,m,_,_,hl,hlen,hf⟩:=DataW.trod_array ht hx
      have main:∀j,j≤n→yY (List.replicate j ks').flatten (cs.take (j * ks'.length)):=by
       intro j;induction j with
       | zero=>intro _;simp only[List.replicate_zero,List.flatten_nil,Nat.zero_mul,List.take_zero];exact⟨trivial,by simp⟩
       | succ j ihj =>
         intro hj;have h1:=ihj (by omega)
         have h2:=hf j (by omega)
         rw[List.getElem?_eq_getElem (by omega)] at h2
         rw[c1] at h2;have h3:=ih _ _ _ _ _ hk h2
         have:=h1.app h3
         rw[show (j+1) * ks'.length=j * ks'.length+ks'.length from Nat.succ_mul _ _,List.take_add,List.replicate_succ',List.flatten_append];simpa using this
      have:=main n (Nat.le_refl _)
      rw[List.take_of_length_le (by omega)] at this
      exact this
     ·cases h
    ·cases h
   ·cases h
theorem y7 {d t e fuel:Nat} {ks:List (Option IntKind)} {cs:List Value} {x:DataW H × List MemPlace} (ht:P.underlying t=some (.slice e)) (hk:Bo P d e=some ks) (hc:P.cellsOf e=ks.length) (wJ:0<ks.length)
 (h:DataW.trod enc P w base spare held fuel t cs=some x) :
 ∃(els:List (List AV)) (v:Value),cs=[v]∧v.oneCell'=true∧(∀l∈els,nY ks l)∧(els.length:Int)≤9223372036854775807∧cM (bare fun b o=>w.heap[b]? = some o) (.sl els.length els.flatten) v:=by
 rcases DataW.trod_slice ht h with ⟨rfl,_⟩|⟨a,len,cap,elems,rest,n,_,rfl,_,hb,hl,hm,hlen,hel,_⟩
 ·exact⟨[],_,rfl,rfl,by simp,by simp,.FB 0 0 none (Nat.le_refl _)⟩
 ·have each:∀i,i<len→∃ci:List Value,w.cells? base (a.add (i * ks.length)) ks.length=some ci∧yY ks ci:=by
   intro i hi;have:=hel i hi
   rw[List.getElem?_eq_getElem (by omega),hc,Option.bind_eq_some_iff] at this
   obtain⟨ci,h1,h2⟩:=this
   exact⟨ci,h1,Ei d e ks n ci _ hk h2⟩
  let f:Nat→List Value:=fun i=>if h:i<len then Classical.choose (each i h) else []
  have hf:∀i,i<len→w.cells? base (a.add (i * ks.length)) ks.length=some (f i)∧yY ks (f i):=by
   intro i hi;have:=Classical.choose_spec (each i hi)
   simp only[f,dif_pos hi];exact this
  have oD:∀i,i<len→(f i).length=ks.length:=fun i hi=>(World.cells?_some (hf i hi).1).2.1
  have ED:∀(m:Nat),m≤len→((List.range m).map fun i=>(f i).map AV.v).flatten.length=m * ks.length:=by
   intro m;induction m with
   | zero=>intro _;simp
   | succ m ih =>
     intro hm;rw[List.range_succ,List.map_append,List.flatten_append,List.length_append,ih (by omega)]
     simp[oD m (by omega),Nat.succ_mul]
  have Xe:∀(m:Nat),m≤len→∀i j,i<m→j<ks.length→((List.range m).map fun i=>(f i).map AV.v).flatten[i * ks.length+j]? = ((f i)[j]?).map AV.v:=by
   intro m;induction m with
   | zero=>intro _ i j hi;omega
   | succ m ih =>
     intro hm i j hi hj;rw[List.range_succ,List.map_append,List.flatten_append];by_cases him:i<m
     ·have:i * ks.length+j<m * ks.length:=by
       have:(i+1) * ks.length≤m * ks.length:=Nat.mul_le_mul_right _ him
       rw[Nat.succ_mul] at this;omega
      rw[List.getElem?_append_left (by rw[ED m (by omega)];exact this)]
      exact ih (by omega) i j him hj
     ·have him':i=m:=by omega
      subst him'
      rw[List.getElem?_append_right (by rw[ED i (by omega)];omega),ED i (by omega),Nat.add_sub_cancel_left]
      simp
  have KK:((List.range len).map fun i=>(f i).map AV.v).length=len:=by simp
  refine⟨(List.range len).map fun i=>(f i).map AV.v,_,rfl,rfl, ?_, ?_, ?_⟩
  ·intro l Fa
   obtain⟨i,hi,rfl⟩:=List.mem_map.1 Fa
   exact (hf i (List.mem_range.1 hi)).2.1
  ·rw[KK];simp only[maxLen] at hm;omega
  ·rw[KK];rcases Nat.eq_zero_or_pos len with h0|h0
   ·subst h0;exact .FB 0 cap _ hl
   ·have mH:∀i j,i<len→j<ks.length→∃v,(f i)[j]? = some v∧w.cell? (a.add (i * ks.length+j))=some v:=by
     intro i j hi hj;have h1:=(World.cells?_some (hf i hi).1).2.2 j hj
     have hjl:j<(f i).length:=by rw[oD i hi];exact hj
     rw[List.getElem?_eq_getElem hjl] at h1;refine⟨_,List.getElem?_eq_getElem hjl, ?_⟩
     rw[← h1];rw[add_add]
    obtain⟨v0,_,oM⟩:=mH 0 0 h0 wJ
    have ha:a.add (0 * ks.length+0)=a:=by simp[Addr.add]
    rw[ha] at oM;unfold World.cell? at oM
    split at oM
    ·rename_i arr T fr TX;split at oM
     ·cases oM
     ·rename_i Ff;obtain⟨FC,off,spot⟩:=a
      simp only at TX oM Ff
      have aFT:spot=none:=by cases spot<;>simp at Ff ⊢
      subst aFT;have Q6:∀i j,i<len→j<ks.length→∃v,(f i)[j]? = some v∧arr[off+(i * ks.length+j)]? = some v:=fun i j hi hj=>by
       obtain⟨v,h1,h2⟩:=mH i j hi hj
       rw[kM,cell_of_row w FC (off+(i * ks.length+j)) arr T fr TX] at h2;exact⟨v,h1,h2⟩
      have hdm:∀q,q<len * ks.length→q=(q / ks.length) * ks.length+q % ks.length∧q / ks.length<len∧q % ks.length<ks.length:=fun q hq =>
       ⟨by rw[Nat.mul_comm];exact (Nat.div_add_mod q ks.length).symm,Nat.div_lt_of_lt_mul (by rw[Nat.mul_comm];exact hq),Nat.mod_lt _ wJ⟩
      have YG:off+len * ks.length≤arr.size:=by
       have hlast:(len-1) * ks.length+(ks.length-1)+1=len * ks.length:=by
        have:len * ks.length=(len-1) * ks.length+ks.length:=by
         conv=>lhs;rw[show len=(len-1)+1 by omega,Nat.succ_mul]
        omega
       obtain⟨v,_,h2⟩:=Q6 (len-1) (ks.length-1) (by omega) (by omega)
       have:=(Array.getElem?_eq_some_iff.1 h2).1
       omega
      refine .sl _ _ FC off cap arr T fr hl TX (by rw[ED len (Nat.le_refl _)];exact YG) (fun q xx y hx hy=>?_) (fun q y hq hy=>?_)
      ·have hq:q<len * ks.length:=by
        have:=(List.getElem?_eq_some_iff.1 hx).1
        rw[ED len (Nat.le_refl _)] at this;exact this
       obtain⟨e1,e2,e3⟩:=hdm q hq
       obtain⟨v,h1,h2⟩:=Q6 _ _ e2 e3
       rw[e1,Xe len (Nat.le_refl _) _ _ e2 e3,h1] at hx;rw[e1,h2] at hy;simp only[Option.map_some,Option.some.injEq] at hx hy;subst hx;subst hy;exact .v _
      ·rw[ED len (Nat.le_refl _)] at hq;obtain⟨e1,e2,e3⟩:=hdm q hq
       obtain⟨v,h1,h2⟩:=Q6 _ _ e2 e3
       rw[e1,h2] at hy;simp only[Option.some.injEq] at hy;subst hy;exact (hf _ e2).2.2 _ (List.mem_of_getElem? h1)
    ·cases oM
end
end Go.Ab
end
namespace Go.Proofs
open Go
def Lk:List Char:=[104,97,114,110,101,115,115,32,97,52,99,102,55,98,53,57,99,56,56,102,54,49,52,49,49,52,50,97,55,48,97,54,101,57,100,101,50,98,49,97,56,99,49,55,98,55,99,57,98,102,54,98,57,55,56,50,55,54,51,55,54,52,51,98,48,98,52,51,55,51,56,101,32,99,117,116,32,97,116,32,102,111,114,107,104,101,97,100,47,102,111,114,107,104,101,97,100,108,97,119,50,55,46,82,101,113,117,101,115,116,115,77,97,116,99,104,32,102,111,114,107,104,101,97,100,47,102,111,114,107,104,101,97,100,108,97,119,50,55,46,82,101,113,117,101,115,116,115,79,112,101,110,32,102,111,114,107,104,101,97,100,47,102,111,114,107,104,101,97,100,108,97,119,50,55,46,82,101,113,117,101,115,116,115,84,97,103,115,32,102,111,114,107,104,101,97,100,47,102,111,114,107,104,101,97,100,108,97,119,50,55,46,82,101,113,117,101,115,116,115,68,114,111,112,32,102,111,114,107,104,101,97,100,47,102,111,114,107,104,101,97,100,108,97,119,50,53,46,66,97,108,108,111,116,115,69,120,97,99,116,32,102,111,114,107,104,101,97,100,47,102,111,114,107,104,101,97,100,108,97,119,50,53,46,66,97,108,108,111,116,115,65,110,121,32,102,111,114,107,104,101,97,100,47,102,111,114,107,104,101,97,100,108,97,119,50,53,46,66,97,108,108,111,116,115,84,97,114,103,101,116,115,32,102,111,114,107,104,101,97,100,47,102,111,114,107,104,101,97,100,108,97,119,50,53,46,66,97,108,108,111,116,115,86,111,116,101,115,32,102,111,114,107,104,101,97,100,47,102,111,114,107,104,101,97,100,108,97,119,50,52,46,65,100,109,105,115,115,105,111,110,69,120,97,99,116,32,102,111,114,107,104,101,97,100,47,102,111,114,107,104,101,97,100,108,97,119,50,52,46,65,100,109,105,115,115,105,111,110,65,110,121,32,102,111,114,107,104,101,97,100,47,102,111,114,107,104,101,97,100,108,97,119,50,52,46,65,100,109,105,115,115,105,111,110,83,97,102,101,32,102,111,114,107,104,101,97,100,47,102,111,114,107,104,101,97,100,108,97,119,50,52,46,65,100,109,105,115,115,105,111,110,70,105,114,115,116,32,102,111,114,107,104,101,97,100,47,102,111,114,107,104,101,97,100,108,97,119,50,51,46,67,104,101,99,107,112,111,105,110,116,115,85,112,100,97,116,101,115,32,102,111,114,107,104,101,97,100,47,102,111,114,107,104,101,97,100,108,97,119,50,51,46,67,104,101,99,107,112,111,105,110,116,115,70,111,114,119,97,114,100,32,102,111,114,107,104,101,97,100,47,102,111,114,107,104,101,97,100,108,97,119,50,51,46,67,104,101,99,107,112,111,105,110,116,115,84,97,98,108,101,115,32,102,111,114,107,104,101,97,100,47,102,111,114,107,104,101,97,100,108,97,119,50,51,46,67,104,101,99,107,112,111,105,110,116,115,84,119,105,99,101,32,102,111,114,107,104,101,97,100,47,102,111,114,107,104,101,97,100,108,97,119,50,51,46,67,104,101,99,107,112,111,105,110,116,115,80,101,110,100,105,110,103,32,102,111,114,107,104,101,97,100,47,102,111,114,107,104,101,97,100,108,97,119,50,51,46,67,104,101,99,107,112,111,105,110,116,115,70,105,116,32,102,111,114,107,104,101,97,100,47,102,111,114,107,104,101,97,100,108,97,119,50,56,46,82,101,116,114,121,76,97,116,101,114,32,102,111,114,107,104,101,97,100,47,102,111,114,107,104,101,97,100,108,97,119,50,56,46,82,101,116,114,121,68,117,101,32,102,111,114,107,104,101,97,100,47,102,111,114,107,104,101,97,100,108,97,119,50,56,46,82,101,116,114,121,69,118,101,114,121].map Char.ofNat
theorem Q7:Tryz.prog.initOrder=String.ofList Lk:=by kernel_rfl
theorem MZ:Tryz.prog.initOrder.toList=Lk:=by rw[Q7];exact String.toList_ofList
def Ej:List (List Char):=[[99,117,116],[97,116],[102,111,114,107,104,101,97,100,47,102,111,114,107,104,101,97,100,108,97,119,50,55,46,82,101,113,117,101,115,116,115,77,97,116,99,104],[102,111,114,107,104,101,97,100,47,102,111,114,107,104,101,97,100,108,97,119,50,55,46,82,101,113,117,101,115,116,115,79,112,101,110],[102,111,114,107,104,101,97,100,47,102,111,114,107,104,101,97,100,108,97,119,50,55,46,82,101,113,117,101,115,116,115,84,97,103,115],[102,111,114,107,104,101,97,100,47,102,111,114,107,104,101,97,100,108,97,119,50,55,46,82,101,113,117,101,115,116,115,68,114,111,112],[102,111,114,107,104,101,97,100,47,102,111,114,107,104,101,97,100,108,97,119,50,53,46,66,97,108,108,111,116,115,69,120,97,99,116],[102,111,114,107,104,101,97,100,47,102,111,114,107,104,101,97,100,108,97,119,50,53,46,66,97,108,108,111,116,115,65,110,121],[102,111,114,107,104,101,97,100,47,102,111,114,107,104,101,97,100,108,97,119,50,53,46,66,97,108,108,111,116,115,84,97,114,103,101,116,115],[102,111,114,107,104,101,97,100,47,102,111,114,107,104,101,97,100,108,97,119,50,53,46,66,97,108,108,111,116,115,86,111,116,101,115],[102,111,114,107,104,101,97,100,47,102,111,114,107,104,101,97,100,108,97,119,50,52,46,65,100,109,105,115,115,105,111,110,69,120,97,99,116],[102,111,114,107,104,101,97,100,47,102,111,114,107,104,101,97,100,108,97,119,50,52,46,65,100,109,105,115,115,105,111,110,65,110,121],[102,111,114,107,104,101,97,100,47,102,111,114,107,104,101,97,100,108,97,119,50,52,46,65,100,109,105,115,115,105,111,110,83,97,102,101],[102,111,114,107,104,101,97,100,47,102,111,114,107,104,101,97,100,108,97,119,50,52,46,65,100,109,105,115,115,105,111,110,70,105,114,115,116],[102,111,114,107,104,101,97,100,47,102,111,114,107,104,101,97,100,108,97,119,50,51,46,67,104,101,99,107,112,111,105,110,116,115,85,112,100,97,116,101,115],[102,111,114,107,104,101,97,100,47,102,111,114,107,104,101,97,100,108,97,119,50,51,46,67,104,101,99,107,112,111,105,110,116,115,70,111,114,119,97,114,100],[102,111,114,107,104,101,97,100,47,102,111,114,107,104,101,97,100,108,97,119,50,51,46,67,104,101,99,107,112,111,105,110,116,115,84,97,98,108,101,115],[102,111,114,107,104,101,97,100,47,102,111,114,107,104,101,97,100,108,97,119,50,51,46,67,104,101,99,107,112,111,105,110,116,115,84,119,105,99,101],[102,111,114,107,104,101,97,100,47,102,111,114,107,104,101,97,100,108,97,119,50,51,46,67,104,101,99,107,112,111,105,110,116,115,80,101,110,100,105,110,103],[102,111,114,107,104,101,97,100,47,102,111,114,107,104,101,97,100,108,97,119,50,51,46,67,104,101,99,107,112,111,105,110,116,115,70,105,116],[102,111,114,107,104,101,97,100,47,102,111,114,107,104,101,97,100,108,97,119,50,56,46,82,101,116,114,121,76,97,116,101,114],[102,111,114,107,104,101,97,100,47,102,111,114,107,104,101,97,100,108,97,119,50,56,46,82,101,116,114,121,68,117,101],[102,111,114,107,104,101,97,100,47,102,111,114,107,104,101,97,100,108,97,119,50,56,46,82,101,116,114,121,69,118,101,114,121]].map fun l=>l.map Char.ofNat
theorem NA:behindMainWord (wordsSigns Lk)=Ej:=by kernel_rfl
theorem Qv : behindMainWord (wordsSigns Tryz.prog.initOrder.toList) = "cut".toList :: Ej.tail := by
 rw[MZ,NA];kernel_rfl
theorem TZ:Tryz.prog.laysLater=false:=by kernel_rfl
theorem AT:Tryz.prog.bearsReflect=false:=by kernel_rfl
theorem y9:Tryz.prog.doorFits []=true:=by kernel_rfl
theorem Su : stripLifts liftWords ("cut".toList :: Ej.tail) = ([], "cut".toList :: Ej.tail) := by kernel_rfl
theorem Q8 (P : Program) (W : List (List Char)) (h : behindMainWord (wordsSigns P.initOrder.toList) = "cut".toList :: W) (h1 : P.laysLater = false) (h2 : P.bearsReflect = false) (h3 : stripLifts liftWords ("cut".toList :: W) = ([], "cut".toList :: W)) (h4 : P.doorFits [] = true) : P.mayEnter = true := by
 unfold Program.mayEnter;rw[h];simp only[h3,h1,h2,h4,List.head?_cons,List.contains_nil,Bool.not_false,Bool.or_true,Bool.true_or,Bool.and_true,beq_self_eq_true]
theorem Q9 (P : Program) (W : List (List Char)) (h : behindMainWord (wordsSigns P.initOrder.toList) = "cut".toList :: W) (h3 : stripLifts liftWords ("cut".toList :: W) = ([], "cut".toList :: W)) : P.liftsFinal = false := by
 unfold Program.liftsFinal Program.headLifts;rw[h];have e : ("cut".toList == "carried".toList) = false := by decide
 have e2 : (some "cut".toList == some "carried".toList) = false := by decide
 simp only[h3,List.head?_cons,e2,beq_self_eq_true,if_true,List.contains_nil,Bool.false_and,Bool.or_self]
theorem aB2 (P : Program) (W : List (List Char)) (h : behindMainWord (wordsSigns P.initOrder.toList) = "cut".toList :: W) : P.make = some .cut := by
 unfold Program.make;rw[h];have e1 : ("cut".toList == "gc".toList) = false := by decide
 have e2 : ("cut".toList == "spec".toList) = false := by decide
 simp only[e1,e2,Bool.or_self,Bool.false_eq_true,if_false,beq_self_eq_true,Bool.true_or,if_true]
theorem Jd:Tryz.prog.mayEnter=true:=Q8 _ _ Qv TZ AT Su y9
theorem As:Tryz.prog.liftsFinal=false:=Q9 _ _ Qv Su
theorem Nw:Tryz.prog.make=some .cut:=aB2 _ _ Qv
end Go.Proofs
namespace Go.Ab
open Go
def Q4:List (Option IntKind):=(([some .u64])++(List.replicate 32 (some .u8)))
theorem Q5 {l:List AV} (h:nY Q4 l):∃x:fB,l=bV x:=by
 unfold Q4 at h;obtain⟨l0,r0,e0,a0,b0⟩:=nY.app h
 obtain⟨x0,y0⟩:=aB0 a0
 obtain⟨x1,y1⟩:=MY b0
 refine⟨⟨x0,x1⟩, ?_⟩
 simp only[bV,e0,y0,y1]
end Go.Ab
section
namespace Go.Ab
open Classical
variable [Ext]
end Go.Ab
end
