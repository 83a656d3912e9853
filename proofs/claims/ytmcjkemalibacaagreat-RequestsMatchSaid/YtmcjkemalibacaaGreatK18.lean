/-
  Part 18 of the proof: an evaluator of programs, its soundness, and what functions of this program compute.
-/
import Derived.Test.YtmcjkemalibacaaGreatK5
import Derived.Below
import Derived.ChangeSlices
import Derived.ChangeShapes
import Derived.WideShapes
import Derived.OpenShut
import Derived.Test.YtmcjkemalibacaaGreatProg
import Derived.JoinedOf
import Derived.KernelRfl
set_option linter.all false
set_option maxRecDepth 20000
set_option maxHeartbeats 40000000
namespace Go.Ab
open Go Go.RowKit
theorem Qi {w w':World} (g:w.grownBy w' none):Below w.heap.size w w' :=
 ⟨g.os,g.tape,g.output,g.size,fun k hk=>g.block k hk (by simp)⟩
theorem aBN [Ext] {P:Program} (hm:P.follows .mixedOrders=true) (hx:MJ P) {f:Nat} {xs:List AV} {b:Bool} (h:aC P f xs=some (.v (.bool b))) (hu:xs.any tM=false) (w:World) (vs:Array Value)
 (hr:lI (bare fun k o=>w.heap[k]? = some o) xs vs.toList) :
 Calls P f vs w fun e w'=>e=.returned (.bool b)∧Below w.heap.size w w':=by
 have hs:=TE (P:=P) hm hx h
 have hC:FY P f xs (.v (.bool b)):=by
  unfold Gy at hs;split at hs
  ·simp[tM] at hu
  ·exact hs
 refine (hC w _ vs (fun _ _ h=>h) hr).mono fun e w' ⟨v,he,hv,hg⟩=>?_
 obtain⟨us,_,_,_,_,h5⟩:=hv
 have hl:us=[]:=by
  rename_i h4;have:=h4 0 0
  exact List.length_eq_zero_iff.1 this.symm
 subst hl;have:=(h5 (bare (newHs (fun k o=>w.heap[k]? = some o) w w' [])) 0 0 (fun _ _ h=>h) (by simp)).1
 have hv:v=.bool b:=by cases this;rfl
 subst hv;exact⟨he,Qi hg⟩
end Go.Ab
namespace Go.Ab
open Go Go.WideShapes Go.ChangeShapes
theorem P4 {H:Type} {enc:TypeId × Value→H} {P:Program} {w:World} {base:Nat} {held:Bool} {t e:TypeId} {k:IntKind} {v:Value} {d:DataW H} {p:List MemPlace} (ht:P.underlying t=some (.slice e)) (he:P.underlying e=some (.int k)) (hc:P.cellsOf e=1)
 {W2:World} {r:Reach} {b2:Nat} (hv:Value.okWide P W2 r b2 t v) (h:DataW.Trod enc P w base (fun _=>true) held t v d p) :
 ∃l:List Int,(l.length:Int)≤9223372036854775807∧cS (bare fun b o=>w.heap[b]? = some o) (.sl l.length (l.map fun x=>.v (.int k x))) v:=by
 obtain⟨a0,ZB,cap0,rfl⟩:=okWide_slice ht hv
 obtain⟨m,hm⟩:=h
 rcases open_ints ht he hc hm with ⟨h1,h2⟩|⟨a,len,cap,zs,h1,hb,hl,p9,hzl,hx,oL,hwf⟩
 ·simp[Value.cells] at h1
  obtain⟨rfl,rfl,rfl⟩:=h1
  exact⟨[],by simp,.JO 0 0 none (Nat.le_refl _)⟩
 ·simp[Value.cells] at h1
  obtain⟨rfl,rfl,rfl⟩:=h1
  simp only[if_true] at hzl;have hlen:(zs.take ZB).length=ZB:=by simp;omega
  refine⟨zs.take ZB,by rw[hlen];simp only[maxLen] at p9;omega, ?_⟩
  rw[hlen];rcases Nat.eq_zero_or_pos ZB with h0|h0
  ·subst h0;exact .JO 0 cap0 _ hl
  ·have qD:=oL 0 (by omega)
   have ha:a.add 0=a:=by simp[Addr.add]
   rw[ha] at qD;unfold World.cell? at qD
   split at qD
   ·rename_i arr T fr aFG;split at qD
    ·cases qD
    ·rename_i Ma;obtain⟨QN,off,spot⟩:=a
     simp only at aFG qD Ma
     have hspn:spot=none:=by cases spot<;>simp at Ma ⊢
     subst hspn;have each:∀i,i<zs.length→arr[off+i]? = some (.int k (zs.getD i 0)):=fun i hi=>by
      have:=oL i hi
      rw[lM] at this;rw[cell_of_row w QN (off+i) arr T fr aFG] at this;exact this
     have XQ:off+zs.length≤arr.size:=by
      rcases Nat.eq_zero_or_pos zs.length with hz|hz
      ·omega
      ·have:=(Array.getElem?_eq_some_iff.1 (each (zs.length-1) (by omega))).1
       omega
     refine .sl _ _ QN off cap0 arr T fr hl aFG (by simp;omega) (fun i x y hx hy=>?_) (fun i y hi hy=>?_)
     ·have hi:i<ZB:=by
       have:=(List.getElem?_eq_some_iff.1 hx).1
       simp at this;omega
      rw[each i (by omega)] at hy
      simp only[Option.some.injEq] at hy;subst hy;rw[List.getElem?_map,List.getElem?_take,if_pos hi] at hx;have hz:zs[i]? = some (zs.getD i 0):=by simp[show i<zs.length by omega]
      rw[hz] at hx;simp at hx
      subst hx;exact .v _
     ·have Ce:i<zs.length:=by simp at hi;omega
      rw[each i Ce] at hy;simp only[Option.some.injEq] at hy;subst hy;rfl
   ·cases qD
theorem r7 (l:List Int):aK l=l.map fun x=>.v (.int .i64 x):=by
 induction l with
 | nil=>rfl
 | cons a l ih=>simp only[aK,List.flatMap_cons,List.map_cons,pE] at *;rw[ih];rfl
end Go.Ab
namespace Go.Ab
open Go Go.WideShapes
def nK:List (Option IntKind)→List AV→Prop
 | [],[]=>True
 | some k :: ks,.v (.int k' _) :: l=>k=k'∧nK ks l
 | none :: ks,.v (.bool _) :: l=>nK ks l
 | _,_=>False
theorem nK.app:∀ {a b:List (Option IntKind)} {l:List AV},nK (a++b) l→∃l1 l2,l=l1++l2∧nK a l1∧nK b l2
 | [],b,l,h=>⟨[],l,rfl,trivial,h⟩
 | some k :: a,b,[],h=>h.elim
 | none :: a,b,[],h=>h.elim
 | some k :: a,b,x :: l,h=>by
   match x,h with
   | .v (.int k' n),h =>
     obtain⟨l1,l2,rfl,h1,h2⟩:=nK.app (a:=a) h.2
     exact⟨.v (.int k' n) :: l1,l2,rfl,⟨h.1,h1⟩,h2⟩
 | none :: a,b,x :: l,h=>by
   match x,h with
   | .v (.bool n),h =>
     obtain⟨l1,l2,rfl,h1,h2⟩:=nK.app (a:=a) h
     exact⟨.v (.bool n) :: l1,l2,rfl,h1,h2⟩
theorem Nj (k:IntKind):∀(n:Nat) (l:List AV),nK (List.replicate n (some k)) l→∃xs:List Int,xs.length=n∧l=xs.map fun x=>.v (.int k x)
 | 0,[],_=>⟨[],rfl,rfl⟩
 | 0,_ :: _,h=>h.elim
 | n+1,[],h=>h.elim
 | n+1,x :: l,h=>by
   match x,h with
   | .v (.int k' m),h =>
     obtain⟨rfl,h⟩:=h
     obtain⟨xs,hl,rfl⟩:=Nj k n l h
     exact⟨m :: xs,by simp[hl],rfl⟩
theorem P3 {l:List AV} (h:nK (List.replicate 32 (some .u8)) l):∃r:cM,l=aZ r:=by
 obtain⟨xs,hl,rfl⟩:=Nj _ _ _ h
 exact⟨⟨xs.toArray,by simpa using hl⟩,by simp[aZ]⟩
theorem aBL {l:List AV} (h:nK [some .u64] l):∃x:Int,l=rC x:=by
 obtain⟨xs,hl,rfl⟩:=Nj .u64 1 _ h
 match xs,hl with
 | [x],_=>exact⟨x,rfl⟩
theorem aBM {l:List AV} (h:nK [some .i64] l):∃x:Int,l=pE x:=by
 obtain⟨xs,hl,rfl⟩:=Nj .i64 1 _ h
 match xs,hl with
 | [x],_=>exact⟨x,rfl⟩
def Eg (P:Program) (t:Nat):Option (Option IntKind) :=
 match P.underlying t with
 | some (.int k)=>some (some k)
 | some .bool=>some none
 | _=>none
def P5 (P:Program) (t:Nat):Bool :=
 match P.underlying t with
 | some (.struct _)|some (.array _ _)=>true
 | _=>false
theorem MK {P:Program} {w:World} {r:Reach} {base:Nat}:∀(ts:List Nat) (ks:List (Option IntKind)) (cs:List Value),ts.mapM (Eg P)=some ks→cs.length=ts.length →
 (∀(i:Nat) (v:Value),cs[i]? = some v→∃u,ts[i]? = some u∧Cell.okWide P w r base u v)→nK ks (cs.map AV.v)∧(∀v∈cs,v.oneCell'=true)
 | [],ks,[],h,_,_=>by
   simp at h;subst h;exact⟨trivial,by simp⟩
 | t :: ts,ks,c :: cs,h,hl,hc=>by
   rw[List.mapM_cons] at h;cases h1:Eg P t with
   | none=>rw[h1] at h;cases h
   | some k =>
     cases h2:ts.mapM (Eg P) with
     | none=>rw[h1,h2] at h;cases h
     | some ks' =>
       rw[h1,h2] at h;obtain rfl:k :: ks'=ks:=by simpa using h
       obtain⟨u,hu,pM⟩:=hc 0 c rfl
       obtain rfl:t=u:=by simpa using hu
       have ih:=MK ts ks' cs h2 (by simpa using hl) (fun i v hv=>hc (i+1) v (by simpa using hv))
       unfold Eg at h1;split at h1
       ·rename_i k0 tP;have hv:Value.okWide P w r base t c:=by unfold Value.okWide;rw[tP];exact pM
        obtain⟨n,rfl⟩:=okWide_int tP hv
        obtain rfl:some k0=k:=by simpa using h1
        exact⟨⟨rfl,ih.1⟩,by intro v hv;rcases List.mem_cons.1 hv with rfl|hv;rfl;exact ih.2 v hv⟩
       ·rename_i tP;have hv:Value.okWide P w r base t c:=by unfold Value.okWide;rw[tP];exact pM
        obtain⟨n,rfl⟩:=okWide_bool tP hv
        obtain rfl:none=k:=by simpa using h1
        exact⟨ih.1,by intro v hv;rcases List.mem_cons.1 hv with rfl|hv;rfl;exact ih.2 v hv⟩
       ·cases h1
 | [],_,_ :: _,_,hl,_=>by simp at hl
 | _ :: _,_,[],_,hl,_=>by simp at hl
def FZ (P:Program) (t:Nat):Option (List (Option IntKind)) :=
 if P5 P t=true then
  match P.cellTypes P.depth t with
  | some ts=>if P.cellsOf t=ts.length then ts.mapM (Eg P) else none
  | none=>none
 else none
end Go.Ab
section
namespace Go.Ab
open Go Go.WideShapes Go.ChangeShapes
def GA (ks:List (Option IntKind)) (cs:List Value):Prop:=nK ks (cs.map AV.v)∧∀v∈cs,v.oneCell'=true
theorem nK.TF:∀ {a b:List (Option IntKind)} {l m:List AV},nK a l→nK b m→nK (a++b) (l++m)
 | [],b,[],m,_,h=>h
 | [],b,_ :: _,m,h,_=>h.elim
 | some k :: a,b,[],m,h,_=>h.elim
 | none :: a,b,[],m,h,_=>h.elim
 | some k :: a,b,x :: l,m,h,h2=>by
   match x,h with
   | .v (.int k' n),h=>exact⟨h.1,nK.TF (a:=a) h.2 h2⟩
 | none :: a,b,x :: l,m,h,h2=>by
   match x,h with
   | .v (.bool n),h=>exact nK.TF (a:=a) h h2
theorem GA.app {a b:List (Option IntKind)} {l m:List Value} (h:GA a l) (h2:GA b m):GA (a++b) (l++m) :=
 ⟨by rw[List.map_append];exact h.1.TF h2.1,fun v hv=>by rcases List.mem_append.1 hv with hv|hv;exact h.2 v hv;exact h2.2 v hv⟩
theorem nK.len:∀ {a:List (Option IntKind)} {l:List AV},nK a l→l.length=a.length
 | [],[],_=>rfl
 | [],_ :: _,h=>h.elim
 | some k :: a,[],h=>h.elim
 | none :: a,[],h=>h.elim
 | some k :: a,x :: l,h=>by
   match x,h with
   | .v (.int k' n),h=>simp[nK.len (a:=a) h.2]
 | none :: a,x :: l,h=>by
   match x,h with
   | .v (.bool n),h=>simp[nK.len (a:=a) h]
section
variable {H:Type} {enc:TypeId × Value→H} {P:Program} {w:World} {base:Nat} {spare:Nat→Bool} {held:Bool}
end
end Go.Ab
end
namespace Go.Proofs
open Go
def Lc:List Char:=[104,97,114,110,101,115,115,32,97,52,99,102,55,98,53,57,99,56,56,102,54,49,52,49,49,52,50,97,55,48,97,54,101,57,100,101,50,98,49,97,56,99,49,55,98,55,99,57,98,102,54,98,57,55,56,50,55,54,51,55,54,52,51,98,48,98,52,51,55,51,56,101,32,99,117,116,32,97,116,32,102,111,114,107,104,101,97,100,47,102,111,114,107,104,101,97,100,108,97,119,50,55,46,82,101,113,117,101,115,116,115,77,97,116,99,104,32,102,111,114,107,104,101,97,100,47,102,111,114,107,104,101,97,100,108,97,119,50,55,46,82,101,113,117,101,115,116,115,79,112,101,110,32,102,111,114,107,104,101,97,100,47,102,111,114,107,104,101,97,100,108,97,119,50,55,46,82,101,113,117,101,115,116,115,84,97,103,115,32,102,111,114,107,104,101,97,100,47,102,111,114,107,104,101,97,100,108,97,119,50,55,46,82,101,113,117,101,115,116,115,68,114,111,112,32,102,111,114,107,104,101,97,100,47,102,111,114,107,104,101,97,100,108,97,119,50,53,46,66,97,108,108,111,116,115,69,120,97,99,116,32,102,111,114,107,104,101,97,100,47,102,111,114,107,104,101,97,100,108,97,119,50,53,46,66,97,108,108,111,116,115,65,110,121,32,102,111,114,107,104,101,97,100,47,102,111,114,107,104,101,97,100,108,97,119,50,53,46,66,97,108,108,111,116,115,84,97,114,103,101,116,115,32,102,111,114,107,104,101,97,100,47,102,111,114,107,104,101,97,100,108,97,119,50,53,46,66,97,108,108,111,116,115,86,111,116,101,115,32,102,111,114,107,104,101,97,100,47,102,111,114,107,104,101,97,100,108,97,119,50,52,46,65,100,109,105,115,115,105,111,110,69,120,97,99,116,32,102,111,114,107,104,101,97,100,47,102,111,114,107,104,101,97,100,108,97,119,50,52,46,65,100,109,105,115,115,105,111,110,65,110,121,32,102,111,114,107,104,101,97,100,47,102,111,114,107,104,101,97,100,108,97,119,50,52,46,65,100,109,105,115,115,105,111,110,83,97,102,101,32,102,111,114,107,104,101,97,100,47,102,111,114,107,104,101,97,100,108,97,119,50,52,46,65,100,109,105,115,115,105,111,110,70,105,114,115,116,32,102,111,114,107,104,101,97,100,47,102,111,114,107,104,101,97,100,108,97,119,50,51,46,67,104,101,99,107,112,111,105,110,116,115,85,112,100,97,116,101,115,32,102,111,114,107,104,101,97,100,47,102,111,114,107,104,101,97,100,108,97,119,50,51,46,67,104,101,99,107,112,111,105,110,116,115,70,111,114,119,97,114,100,32,102,111,114,107,104,101,97,100,47,102,111,114,107,104,101,97,100,108,97,119,50,51,46,67,104,101,99,107,112,111,105,110,116,115,84,97,98,108,101,115,32,102,111,114,107,104,101,97,100,47,102,111,114,107,104,101,97,100,108,97,119,50,51,46,67,104,101,99,107,112,111,105,110,116,115,84,119,105,99,101,32,102,111,114,107,104,101,97,100,47,102,111,114,107,104,101,97,100,108,97,119,50,51,46,67,104,101,99,107,112,111,105,110,116,115,80,101,110,100,105,110,103,32,102,111,114,107,104,101,97,100,47,102,111,114,107,104,101,97,100,108,97,119,50,51,46,67,104,101,99,107,112,111,105,110,116,115,70,105,116,32,102,111,114,107,104,101,97,100,47,102,111,114,107,104,101,97,100,108,97,119,50,56,46,82,101,116,114,121,76,97,116,101,114,32,102,111,114,107,104,101,97,100,47,102,111,114,107,104,101,97,100,108,97,119,50,56,46,82,101,116,114,121,68,117,101,32,102,111,114,107,104,101,97,100,47,102,111,114,107,104,101,97,100,108,97,119,50,56,46,82,101,116,114,121,69,118,101,114,121].map Char.ofNat
theorem P6:Tryz.prog.initOrder=String.ofList Lc:=by kernel_rfl
theorem ML:Tryz.prog.initOrder.toList=Lc:=by rw[P6];exact String.toList_ofList
def Eh:List (List Char):=[[99,117,116],[97,116],[102,111,114,107,104,101,97,100,47,102,111,114,107,104,101,97,100,108,97,119,50,55,46,82,101,113,117,101,115,116,115,77,97,116,99,104],[102,111,114,107,104,101,97,100,47,102,111,114,107,104,101,97,100,108,97,119,50,55,46,82,101,113,117,101,115,116,115,79,112,101,110],[102,111,114,107,104,101,97,100,47,102,111,114,107,104,101,97,100,108,97,119,50,55,46,82,101,113,117,101,115,116,115,84,97,103,115],[102,111,114,107,104,101,97,100,47,102,111,114,107,104,101,97,100,108,97,119,50,55,46,82,101,113,117,101,115,116,115,68,114,111,112],[102,111,114,107,104,101,97,100,47,102,111,114,107,104,101,97,100,108,97,119,50,53,46,66,97,108,108,111,116,115,69,120,97,99,116],[102,111,114,107,104,101,97,100,47,102,111,114,107,104,101,97,100,108,97,119,50,53,46,66,97,108,108,111,116,115,65,110,121],[102,111,114,107,104,101,97,100,47,102,111,114,107,104,101,97,100,108,97,119,50,53,46,66,97,108,108,111,116,115,84,97,114,103,101,116,115],[102,111,114,107,104,101,97,100,47,102,111,114,107,104,101,97,100,108,97,119,50,53,46,66,97,108,108,111,116,115,86,111,116,101,115],[102,111,114,107,104,101,97,100,47,102,111,114,107,104,101,97,100,108,97,119,50,52,46,65,100,109,105,115,115,105,111,110,69,120,97,99,116],[102,111,114,107,104,101,97,100,47,102,111,114,107,104,101,97,100,108,97,119,50,52,46,65,100,109,105,115,115,105,111,110,65,110,121],[102,111,114,107,104,101,97,100,47,102,111,114,107,104,101,97,100,108,97,119,50,52,46,65,100,109,105,115,115,105,111,110,83,97,102,101],[102,111,114,107,104,101,97,100,47,102,111,114,107,104,101,97,100,108,97,119,50,52,46,65,100,109,105,115,115,105,111,110,70,105,114,115,116],[102,111,114,107,104,101,97,100,47,102,111,114,107,104,101,97,100,108,97,119,50,51,46,67,104,101,99,107,112,111,105,110,116,115,85,112,100,97,116,101,115],[102,111,114,107,104,101,97,100,47,102,111,114,107,104,101,97,100,108,97,119,50,51,46,67,104,101,99,107,112,111,105,110,116,115,70,111,114,119,97,114,100],[102,111,114,107,104,101,97,100,47,102,111,114,107,104,101,97,100,108,97,119,50,51,46,67,104,101,99,107,112,111,105,110,116,115,84,97,98,108,101,115],[102,111,114,107,104,101,97,100,47,102,111,114,107,104,101,97,100,108,97,119,50,51,46,67,104,101,99,107,112,111,105,110,116,115,84,119,105,99,101],[102,111,114,107,104,101,97,100,47,102,111,114,107,104,101,97,100,108,97,119,50,51,46,67,104,101,99,107,112,111,105,110,116,115,80,101,110,100,105,110,103],[102,111,114,107,104,101,97,100,47,102,111,114,107,104,101,97,100,108,97,119,50,51,46,67,104,101,99,107,112,111,105,110,116,115,70,105,116],[102,111,114,107,104,101,97,100,47,102,111,114,107,104,101,97,100,108,97,119,50,56,46,82,101,116,114,121,76,97,116,101,114],[102,111,114,107,104,101,97,100,47,102,111,114,107,104,101,97,100,108,97,119,50,56,46,82,101,116,114,121,68,117,101],[102,111,114,107,104,101,97,100,47,102,111,114,107,104,101,97,100,108,97,119,50,56,46,82,101,116,114,121,69,118,101,114,121]].map fun l=>l.map Char.ofNat
theorem MM:behindMainWord (wordsSigns Lc)=Eh:=by kernel_rfl
theorem Qj : behindMainWord (wordsSigns Tryz.prog.initOrder.toList) = "cut".toList :: Eh.tail := by
 rw[ML,MM];kernel_rfl
theorem TG:Tryz.prog.laysLater=false:=by kernel_rfl
theorem AH:Tryz.prog.bearsReflect=false:=by kernel_rfl
theorem r9:Tryz.prog.doorFits []=true:=by kernel_rfl
theorem Se : stripLifts liftWords ("cut".toList :: Eh.tail) = ([], "cut".toList :: Eh.tail) := by kernel_rfl
theorem P7 (P : Program) (W : List (List Char)) (h : behindMainWord (wordsSigns P.initOrder.toList) = "cut".toList :: W) (h1 : P.laysLater = false) (h2 : P.bearsReflect = false) (h3 : stripLifts liftWords ("cut".toList :: W) = ([], "cut".toList :: W)) (h4 : P.doorFits [] = true) : P.mayEnter = true := by
 unfold Program.mayEnter;rw[h];simp only[h3,h1,h2,h4,List.head?_cons,List.contains_nil,Bool.not_false,Bool.or_true,Bool.true_or,Bool.and_true,beq_self_eq_true]
theorem P8 (P : Program) (W : List (List Char)) (h : behindMainWord (wordsSigns P.initOrder.toList) = "cut".toList :: W) (h3 : stripLifts liftWords ("cut".toList :: W) = ([], "cut".toList :: W)) : P.liftsFinal = false := by
 unfold Program.liftsFinal Program.headLifts;rw[h];have e : ("cut".toList == "carried".toList) = false := by decide
 have e2 : (some "cut".toList == some "carried".toList) = false := by decide
 simp only[h3,List.head?_cons,e2,beq_self_eq_true,if_true,List.contains_nil,Bool.false_and,Bool.or_self]
theorem aBO (P : Program) (W : List (List Char)) (h : behindMainWord (wordsSigns P.initOrder.toList) = "cut".toList :: W) : P.make = some .cut := by
 unfold Program.make;rw[h];have e1 : ("cut".toList == "gc".toList) = false := by decide
 have e2 : ("cut".toList == "spec".toList) = false := by decide
 simp only[e1,e2,Bool.or_self,Bool.false_eq_true,if_false,beq_self_eq_true,Bool.true_or,if_true]
theorem u4:Tryz.prog.mayEnter=true:=P7 _ _ Qj TG AH Se r9
theorem MN:Tryz.prog.liftsFinal=false:=P8 _ _ Qj Se
theorem P9:Tryz.prog.make=some .cut:=aBO _ _ Qj
end Go.Proofs
namespace Go.Ab
open Go
end Go.Ab
section
namespace Go.Ab
open Classical
variable [Ext]
theorem Q0 {P:Program} {w:World} {r:Reach} {base:Nat}:∀(ts:List Nat) (ks:List (Option IntKind)) (cs:List Value),ts.mapM (Eg P)=some ks→cs.length=ts.length →
 (∀(i:Nat) (v:Value),cs[i]? = some v→∃u,ts[i]? = some u∧Cell.okWide P w r base u v)→∀k n,AV.v (.int k n)∈cs.map AV.v→k.has n
 | [],ks,[],h,_,_=>by simp
 | t :: ts,ks,c :: cs,h,hl,hc=>by
   rw[List.mapM_cons] at h;cases h1:Eg P t with
   | none=>rw[h1] at h;cases h
   | some k =>
     cases h2:ts.mapM (Eg P) with
     | none=>rw[h1,h2] at h;cases h
     | some ks' =>
       obtain⟨u,hu,pM⟩:=hc 0 c rfl
       obtain rfl:t=u:=by simpa using hu
       have ih:=Q0 ts ks' cs h2 (by simpa using hl) (fun i v hv=>hc (i+1) v (by simpa using hv))
       intro k0 n0 hm;rw[List.map_cons] at hm;rcases List.mem_cons.1 hm with e|hm
       ·injection e with e
        subst e;unfold Eg at h1;split at h1
        ·rename_i k1 hk1;simp only[Cell.okWide,Cell.ok,hk1] at pM;obtain⟨rfl,h⟩:=pM
         exact h
        ·rename_i hk1;simp only[Cell.okWide,Cell.ok,hk1] at pM
        ·cases h1
       ·exact ih k0 n0 hm
 | [],_,_ :: _,_,hl,_=>by simp at hl
 | _ :: _,_,[],_,hl,_=>by simp at hl
theorem MO {P:Program} {w:World} {r:Reach} {base t:Nat} {v:Value} {ks:List (Option IntKind)} (hk:FZ P t=some ks)
 (h:Value.okWide P w r base t v):∃l:List AV,nK ks l∧(∀k n,AV.v (.int k n)∈l→k.has n)∧∀C:Ctx,cS C (.agg l) v:=by
 unfold FZ at hk;split at hk
 ·rename_i ha;split at hk
  ·rename_i ts hts;split at hk
   ·rename_i hn;have h0:=h
    have h':∃cs,v=.agg cs∧cs.size=P.cellsOf t∧Row.okWide P w r base t cs:=by
     unfold Value.okWide at h;unfold P5 at ha;split at ha
     ·rename_i hu;rw[hu] at h;exact h
     ·rename_i hu;rw[hu] at h;exact h
     ·cases ha
    obtain⟨cs,rfl,XQ,ts',hts',hm,hc⟩:=h'
    obtain rfl:ts=ts':=by rw[hts] at hts';simpa using hts'
    rw[hn] at XQ;have hcc:∀(i:Nat) (v:Value),cs.toList[i]? = some v→∃u,ts[i]? = some u∧Cell.okWide P w r base u v:=fun i v hv=>by
     have hi:i<ts.length:=by
      have:=(List.getElem?_eq_some_iff.1 hv).1
      simp at this;omega
     obtain⟨u,hu,pM⟩:=hc i v (by simpa using hv)
     rw[Nat.mod_eq_of_lt hi] at hu;exact⟨u,hu,pM⟩
    obtain⟨k1,k2⟩:=MK (P:=P) (w:=w) (r:=r) (base:=base) ts ks cs.toList hk (by simpa using XQ) hcc
    refine⟨_,k1,Q0 ts ks cs.toList hk (by simpa using XQ) hcc,fun C=>.agg _ _ (by simp) (fun i x y hx hy=>?_) (fun i y hy=>k2 y (by
     rw[← Array.getElem?_toList] at hy;exact List.mem_of_getElem? hy))⟩
    rw[List.getElem?_map,Array.getElem?_toList,hy] at hx;simp at hx
    subst hx;exact .v _
   ·cases hk
  ·cases hk
 ·cases hk
end Go.Ab
end
