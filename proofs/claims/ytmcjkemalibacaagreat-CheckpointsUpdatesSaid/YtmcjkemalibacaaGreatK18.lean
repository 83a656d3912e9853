/-
  Part 18 of the proof: an evaluator of programs, its soundness, and what functions of this program compute.
-/
import Derived.Test.YtmcjkemalibacaaGreatK5
import Derived.Below
import Derived.ChangeSlices
import Derived.ChangeShapes
import Derived.WideShapes
import Derived.OpenShut
import Derived.Test.YtmcjkemalibacaaGreatProg
import Derived.JoinedOf
import Derived.KernelRfl
set_option linter.all false
set_option maxRecDepth 20000
set_option maxHeartbeats 40000000
namespace Go.Ab
open Go Go.RowKit
theorem Re {w w':World} (g:w.grownBy w' none):Below w.heap.size w w' :=
 ⟨g.os,g.tape,g.output,g.size,fun k hk=>g.block k hk (by simp)⟩
theorem l4 [Ext] {P:Program} (hm:P.follows .mixedOrders=true) (hx:FE P) {f:Nat} {xs:List AV} {b:Bool} (h:aB P f xs=some (.v (.bool b))) (hu:xs.any tU=false) (w:World) (vs:Array Value)
 (hr:lN (bare fun k o=>w.heap[k]? = some o) xs vs.toList) :
 Calls P f vs w fun e w'=>e=.returned (.bool b)∧Below w.heap.size w w':=by
 have hs:=VJ (P:=P) hm hx h
 have hC:HL P f xs (.v (.bool b)):=by
  unfold Hp at hs;split at hs
  ·simp[tU] at hu
  ·exact hs
 refine (hC w _ vs (fun _ _ h=>h) hr).mono fun e w' ⟨v,he,hv,hg⟩=>?_
 obtain⟨us,_,_,_,_,h5⟩:=hv
 have hl:us=[]:=by
  rename_i h4;have:=h4 0 0
  exact List.length_eq_zero_iff.1 this.symm
 subst hl;have:=(h5 (bare (newHs (fun k o=>w.heap[k]? = some o) w w' [])) 0 0 (fun _ _ h=>h) (by simp)).1
 have hv:v=.bool b:=by cases this;rfl
 subst hv;exact⟨he,Re hg⟩
end Go.Ab
namespace Go.Ab
open Go Go.WideShapes Go.ChangeShapes
theorem OD {H:Type} {enc:TypeId × Value→H} {P:Program} {w:World} {base:Nat} {held:Bool} {t e:TypeId} {k:IntKind} {v:Value} {d:DataW H} {p:List MemPlace} (ht:P.underlying t=some (.slice e)) (he:P.underlying e=some (.int k)) (hc:P.cellsOf e=1)
 {W2:World} {r:Reach} {b2:Nat} (hv:Value.okWide P W2 r b2 t v) (h:DataW.Trod enc P w base (fun _=>true) held t v d p) :
 ∃l:List Int,(l.length:Int)≤9223372036854775807∧cY (bare fun b o=>w.heap[b]? = some o) (.sl l.length (l.map fun x=>.v (.int k x))) v:=by
 obtain⟨a0,z9,cap0,rfl⟩:=okWide_slice ht hv
 obtain⟨m,hm⟩:=h
 rcases open_ints ht he hc hm with ⟨h1,h2⟩|⟨a,len,cap,zs,h1,hb,hl,E1,hzl,hx,oU,hwf⟩
 ·simp[Value.cells] at h1
  obtain⟨rfl,rfl,rfl⟩:=h1
  exact⟨[],by simp,.KW 0 0 none (Nat.le_refl _)⟩
 ·simp[Value.cells] at h1
  obtain⟨rfl,rfl,rfl⟩:=h1
  simp only[if_true] at hzl;have hlen:(zs.take z9).length=z9:=by simp;omega
  refine⟨zs.take z9,by rw[hlen];simp only[maxLen] at E1;omega, ?_⟩
  rw[hlen];rcases Nat.eq_zero_or_pos z9 with h0|h0
  ·subst h0;exact .KW 0 cap0 _ hl
  ·have qQ:=oU 0 (by omega)
   have ha:a.add 0=a:=by simp[Addr.add]
   rw[ha] at qQ;unfold World.cell? at qQ
   split at qQ
   ·rename_i arr T fr aG9;split at qQ
    ·cases qQ
    ·rename_i Mq;obtain⟨SI,off,spot⟩:=a
     simp only at aG9 qQ Mq
     have hspn:spot=none:=by cases spot<;>simp at Mq ⊢
     subst hspn;have each:∀i,i<zs.length→arr[off+i]? = some (.int k (zs.getD i 0)):=fun i hi=>by
      have:=oU i hi
      rw[lR] at this;rw[cell_of_row w SI (off+i) arr T fr aG9] at this;exact this
     have VH:off+zs.length≤arr.size:=by
      rcases Nat.eq_zero_or_pos zs.length with hz|hz
      ·omega
      ·have:=(Array.getElem?_eq_some_iff.1 (each (zs.length-1) (by omega))).1
       omega
     refine .sl _ _ SI off cap0 arr T fr hl aG9 (by simp;omega) (fun i x y hx hy=>?_) (fun i y hi hy=>?_)
     ·have hi:i<z9:=by
       have:=(List.getElem?_eq_some_iff.1 hx).1
       simp at this;omega
      rw[each i (by omega)] at hy
      simp only[Option.some.injEq] at hy;subst hy;rw[List.getElem?_map,List.getElem?_take,if_pos hi] at hx;have hz:zs[i]? = some (zs.getD i 0):=by simp[show i<zs.length by omega]
      rw[hz] at hx;simp at hx
      subst hx;exact .v _
     ·have Cs:i<zs.length:=by simp at hi;omega
      rw[each i Cs] at hy;simp only[Option.some.injEq] at hy;subst hy;rfl
   ·cases qQ
theorem FF (l:List Int):aK l=l.map fun x=>.v (.int .i64 x):=by
 induction l with
 | nil=>rfl
 | cons a l ih=>simp only[aK,List.flatMap_cons,List.map_cons,qS] at *;rw[ih];rfl
end Go.Ab
namespace Go.Ab
open Go Go.WideShapes
def oY:List (Option IntKind)→List AV→Prop
 | [],[]=>True
 | some k :: ks,.v (.int k' _) :: l=>k=k'∧oY ks l
 | none :: ks,.v (.bool _) :: l=>oY ks l
 | _,_=>False
theorem oY.app:∀ {a b:List (Option IntKind)} {l:List AV},oY (a++b) l→∃l1 l2,l=l1++l2∧oY a l1∧oY b l2
 | [],b,l,h=>⟨[],l,rfl,trivial,h⟩
 | some k :: a,b,[],h=>h.elim
 | none :: a,b,[],h=>h.elim
 | some k :: a,b,x :: l,h=>by
   match x,h with
   | .v (.int k' n),h =>
     obtain⟨l1,l2,rfl,h1,h2⟩:=oY.app (a:=a) h.2
     exact⟨.v (.int k' n) :: l1,l2,rfl,⟨h.1,h1⟩,h2⟩
 | none :: a,b,x :: l,h=>by
   match x,h with
   | .v (.bool n),h =>
     obtain⟨l1,l2,rfl,h1,h2⟩:=oY.app (a:=a) h
     exact⟨.v (.bool n) :: l1,l2,rfl,h1,h2⟩
theorem Yc (k:IntKind):∀(n:Nat) (l:List AV),oY (List.replicate n (some k)) l→∃xs:List Int,xs.length=n∧l=xs.map fun x=>.v (.int k x)
 | 0,[],_=>⟨[],rfl,rfl⟩
 | 0,_ :: _,h=>h.elim
 | n+1,[],h=>h.elim
 | n+1,x :: l,h=>by
   match x,h with
   | .v (.int k' m),h =>
     obtain⟨rfl,h⟩:=h
     obtain⟨xs,hl,rfl⟩:=Yc k n l h
     exact⟨m :: xs,by simp[hl],rfl⟩
theorem W7 {l:List AV} (h:oY (List.replicate 32 (some .u8)) l):∃r:cJ,l=bD r:=by
 obtain⟨xs,hl,rfl⟩:=Yc _ _ _ h
 exact⟨⟨xs.toArray,by simpa using hl⟩,by simp[bD]⟩
theorem aCX {l:List AV} (h:oY [some .u64] l):∃x:Int,l=lI x:=by
 obtain⟨xs,hl,rfl⟩:=Yc .u64 1 _ h
 match xs,hl with
 | [x],_=>exact⟨x,rfl⟩
def Et (P:Program) (t:Nat):Option (Option IntKind) :=
 match P.underlying t with
 | some (.int k)=>some (some k)
 | some .bool=>some none
 | _=>none
def W8 (P:Program) (t:Nat):Bool :=
 match P.underlying t with
 | some (.struct _)|some (.array _ _)=>true
 | _=>false
theorem OE {P:Program} {w:World} {r:Reach} {base:Nat}:∀(ts:List Nat) (ks:List (Option IntKind)) (cs:List Value),ts.mapM (Et P)=some ks→cs.length=ts.length →
 (∀(i:Nat) (v:Value),cs[i]? = some v→∃u,ts[i]? = some u∧Cell.okWide P w r base u v)→oY ks (cs.map AV.v)∧(∀v∈cs,v.oneCell'=true)
 | [],ks,[],h,_,_=>by
   simp at h;subst h;exact⟨trivial,by simp⟩
 | t :: ts,ks,c :: cs,h,hl,hc=>by
   rw[List.mapM_cons] at h;cases h1:Et P t with
   | none=>rw[h1] at h;cases h
   | some k =>
     cases h2:ts.mapM (Et P) with
     | none=>rw[h1,h2] at h;cases h
     | some ks' =>
       rw[h1,h2] at h;obtain rfl:k :: ks'=ks:=by simpa using h
       obtain⟨u,hu,oS⟩:=hc 0 c rfl
       obtain rfl:t=u:=by simpa using hu
       have ih:=OE ts ks' cs h2 (by simpa using hl) (fun i v hv=>hc (i+1) v (by simpa using hv))
       unfold Et at h1;split at h1
       ·rename_i k0 qA;have hv:Value.okWide P w r base t c:=by unfold Value.okWide;rw[qA];exact oS
        obtain⟨n,rfl⟩:=okWide_int qA hv
        obtain rfl:some k0=k:=by simpa using h1
        exact⟨⟨rfl,ih.1⟩,by intro v hv;rcases List.mem_cons.1 hv with rfl|hv;rfl;exact ih.2 v hv⟩
       ·rename_i qA;have hv:Value.okWide P w r base t c:=by unfold Value.okWide;rw[qA];exact oS
        obtain⟨n,rfl⟩:=okWide_bool qA hv
        obtain rfl:none=k:=by simpa using h1
        exact⟨ih.1,by intro v hv;rcases List.mem_cons.1 hv with rfl|hv;rfl;exact ih.2 v hv⟩
       ·cases h1
 | [],_,_ :: _,_,hl,_=>by simp at hl
 | _ :: _,_,[],_,hl,_=>by simp at hl
def HM (P:Program) (t:Nat):Option (List (Option IntKind)) :=
 if W8 P t=true then
  match P.cellTypes P.depth t with
  | some ts=>if P.cellsOf t=ts.length then ts.mapM (Et P) else none
  | none=>none
 else none
end Go.Ab
section
namespace Go.Ab
open Go Go.WideShapes Go.ChangeShapes
def HN (ks:List (Option IntKind)) (cs:List Value):Prop:=oY ks (cs.map AV.v)∧∀v∈cs,v.oneCell'=true
theorem oY.VK:∀ {a b:List (Option IntKind)} {l m:List AV},oY a l→oY b m→oY (a++b) (l++m)
 | [],b,[],m,_,h=>h
 | [],b,_ :: _,m,h,_=>h.elim
 | some k :: a,b,[],m,h,_=>h.elim
 | none :: a,b,[],m,h,_=>h.elim
 | some k :: a,b,x :: l,m,h,h2=>by
   match x,h with
   | .v (.int k' n),h=>exact⟨h.1,oY.VK (a:=a) h.2 h2⟩
 | none :: a,b,x :: l,m,h,h2=>by
   match x,h with
   | .v (.bool n),h=>exact oY.VK (a:=a) h h2
theorem HN.app {a b:List (Option IntKind)} {l m:List Value} (h:HN a l) (h2:HN b m):HN (a++b) (l++m) :=
 ⟨by rw[List.map_append];exact h.1.VK h2.1,fun v hv=>by rcases List.mem_append.1 hv with hv|hv;exact h.2 v hv;exact h2.2 v hv⟩
theorem oY.len:∀ {a:List (Option IntKind)} {l:List AV},oY a l→l.length=a.length
 | [],[],_=>rfl
 | [],_ :: _,h=>h.elim
 | some k :: a,[],h=>h.elim
 | none :: a,[],h=>h.elim
 | some k :: a,x :: l,h=>by
   match x,h with
   | .v (.int k' n),h=>simp[oY.len (a:=a) h.2]
 | none :: a,x :: l,h=>by
   match x,h with
   | .v (.bool n),h=>simp[oY.len (a:=a) h]
section
variable {H:Type} {enc:TypeId × Value→H} {P:Program} {w:World} {base:Nat} {spare:Nat→Bool} {held:Bool}
end
end Go.Ab
end
namespace Go.Proofs
open Go
def Lt:List Char:=[104,97,114,110,101,115,115,32,97,52,99,102,55,98,53,57,99,56,56,102,54,49,52,49,49,52,50,97,55,48,97,54,101,57,100,101,50,98,49,97,56,99,49,55,98,55,99,57,98,102,54,98,57,55,56,50,55,54,51,55,54,52,51,98,48,98,52,51,55,51,56,101,32,99,117,116,32,97,116,32,102,111,114,107,104,101,97,100,47,102,111,114,107,104,101,97,100,108,97,119,50,55,46,82,101,113,117,101,115,116,115,77,97,116,99,104,32,102,111,114,107,104,101,97,100,47,102,111,114,107,104,101,97,100,108,97,119,50,55,46,82,101,113,117,101,115,116,115,79,112,101,110,32,102,111,114,107,104,101,97,100,47,102,111,114,107,104,101,97,100,108,97,119,50,55,46,82,101,113,117,101,115,116,115,84,97,103,115,32,102,111,114,107,104,101,97,100,47,102,111,114,107,104,101,97,100,108,97,119,50,55,46,82,101,113,117,101,115,116,115,68,114,111,112,32,102,111,114,107,104,101,97,100,47,102,111,114,107,104,101,97,100,108,97,119,50,53,46,66,97,108,108,111,116,115,69,120,97,99,116,32,102,111,114,107,104,101,97,100,47,102,111,114,107,104,101,97,100,108,97,119,50,53,46,66,97,108,108,111,116,115,65,110,121,32,102,111,114,107,104,101,97,100,47,102,111,114,107,104,101,97,100,108,97,119,50,53,46,66,97,108,108,111,116,115,84,97,114,103,101,116,115,32,102,111,114,107,104,101,97,100,47,102,111,114,107,104,101,97,100,108,97,119,50,53,46,66,97,108,108,111,116,115,86,111,116,101,115,32,102,111,114,107,104,101,97,100,47,102,111,114,107,104,101,97,100,108,97,119,50,52,46,65,100,109,105,115,115,105,111,110,69,120,97,99,116,32,102,111,114,107,104,101,97,100,47,102,111,114,107,104,101,97,100,108,97,119,50,52,46,65,100,109,105,115,115,105,111,110,65,110,121,32,102,111,114,107,104,101,97,100,47,102,111,114,107,104,101,97,100,108,97,119,50,52,46,65,100,109,105,115,115,105,111,110,83,97,102,101,32,102,111,114,107,104,101,97,100,47,102,111,114,107,104,101,97,100,108,97,119,50,52,46,65,100,109,105,115,115,105,111,110,70,105,114,115,116,32,102,111,114,107,104,101,97,100,47,102,111,114,107,104,101,97,100,108,97,119,50,51,46,67,104,101,99,107,112,111,105,110,116,115,85,112,100,97,116,101,115,32,102,111,114,107,104,101,97,100,47,102,111,114,107,104,101,97,100,108,97,119,50,51,46,67,104,101,99,107,112,111,105,110,116,115,70,111,114,119,97,114,100,32,102,111,114,107,104,101,97,100,47,102,111,114,107,104,101,97,100,108,97,119,50,51,46,67,104,101,99,107,112,111,105,110,116,115,84,97,98,108,101,115,32,102,111,114,107,104,101,97,100,47,102,111,114,107,104,101,97,100,108,97,119,50,51,46,67,104,101,99,107,112,111,105,110,116,115,84,119,105,99,101,32,102,111,114,107,104,101,97,100,47,102,111,114,107,104,101,97,100,108,97,119,50,51,46,67,104,101,99,107,112,111,105,110,116,115,80,101,110,100,105,110,103,32,102,111,114,107,104,101,97,100,47,102,111,114,107,104,101,97,100,108,97,119,50,51,46,67,104,101,99,107,112,111,105,110,116,115,70,105,116,32,102,111,114,107,104,101,97,100,47,102,111,114,107,104,101,97,100,108,97,119,50,56,46,82,101,116,114,121,76,97,116,101,114,32,102,111,114,107,104,101,97,100,47,102,111,114,107,104,101,97,100,108,97,119,50,56,46,82,101,116,114,121,68,117,101,32,102,111,114,107,104,101,97,100,47,102,111,114,107,104,101,97,100,108,97,119,50,56,46,82,101,116,114,121,69,118,101,114,121].map Char.ofNat
theorem W9:Tryz.prog.initOrder=String.ofList Lt:=by kernel_rfl
theorem OF:Tryz.prog.initOrder.toList=Lt:=by rw[W9];exact String.toList_ofList
def Eu:List (List Char):=[[99,117,116],[97,116],[102,111,114,107,104,101,97,100,47,102,111,114,107,104,101,97,100,108,97,119,50,55,46,82,101,113,117,101,115,116,115,77,97,116,99,104],[102,111,114,107,104,101,97,100,47,102,111,114,107,104,101,97,100,108,97,119,50,55,46,82,101,113,117,101,115,116,115,79,112,101,110],[102,111,114,107,104,101,97,100,47,102,111,114,107,104,101,97,100,108,97,119,50,55,46,82,101,113,117,101,115,116,115,84,97,103,115],[102,111,114,107,104,101,97,100,47,102,111,114,107,104,101,97,100,108,97,119,50,55,46,82,101,113,117,101,115,116,115,68,114,111,112],[102,111,114,107,104,101,97,100,47,102,111,114,107,104,101,97,100,108,97,119,50,53,46,66,97,108,108,111,116,115,69,120,97,99,116],[102,111,114,107,104,101,97,100,47,102,111,114,107,104,101,97,100,108,97,119,50,53,46,66,97,108,108,111,116,115,65,110,121],[102,111,114,107,104,101,97,100,47,102,111,114,107,104,101,97,100,108,97,119,50,53,46,66,97,108,108,111,116,115,84,97,114,103,101,116,115],[102,111,114,107,104,101,97,100,47,102,111,114,107,104,101,97,100,108,97,119,50,53,46,66,97,108,108,111,116,115,86,111,116,101,115],[102,111,114,107,104,101,97,100,47,102,111,114,107,104,101,97,100,108,97,119,50,52,46,65,100,109,105,115,115,105,111,110,69,120,97,99,116],[102,111,114,107,104,101,97,100,47,102,111,114,107,104,101,97,100,108,97,119,50,52,46,65,100,109,105,115,115,105,111,110,65,110,121],[102,111,114,107,104,101,97,100,47,102,111,114,107,104,101,97,100,108,97,119,50,52,46,65,100,109,105,115,115,105,111,110,83,97,102,101],[102,111,114,107,104,101,97,100,47,102,111,114,107,104,101,97,100,108,97,119,50,52,46,65,100,109,105,115,115,105,111,110,70,105,114,115,116],[102,111,114,107,104,101,97,100,47,102,111,114,107,104,101,97,100,108,97,119,50,51,46,67,104,101,99,107,112,111,105,110,116,115,85,112,100,97,116,101,115],[102,111,114,107,104,101,97,100,47,102,111,114,107,104,101,97,100,108,97,119,50,51,46,67,104,101,99,107,112,111,105,110,116,115,70,111,114,119,97,114,100],[102,111,114,107,104,101,97,100,47,102,111,114,107,104,101,97,100,108,97,119,50,51,46,67,104,101,99,107,112,111,105,110,116,115,84,97,98,108,101,115],[102,111,114,107,104,101,97,100,47,102,111,114,107,104,101,97,100,108,97,119,50,51,46,67,104,101,99,107,112,111,105,110,116,115,84,119,105,99,101],[102,111,114,107,104,101,97,100,47,102,111,114,107,104,101,97,100,108,97,119,50,51,46,67,104,101,99,107,112,111,105,110,116,115,80,101,110,100,105,110,103],[102,111,114,107,104,101,97,100,47,102,111,114,107,104,101,97,100,108,97,119,50,51,46,67,104,101,99,107,112,111,105,110,116,115,70,105,116],[102,111,114,107,104,101,97,100,47,102,111,114,107,104,101,97,100,108,97,119,50,56,46,82,101,116,114,121,76,97,116,101,114],[102,111,114,107,104,101,97,100,47,102,111,114,107,104,101,97,100,108,97,119,50,56,46,82,101,116,114,121,68,117,101],[102,111,114,107,104,101,97,100,47,102,111,114,107,104,101,97,100,108,97,119,50,56,46,82,101,116,114,121,69,118,101,114,121]].map fun l=>l.map Char.ofNat
theorem OG:behindMainWord (wordsSigns Lt)=Eu:=by kernel_rfl
theorem Rf : behindMainWord (wordsSigns Tryz.prog.initOrder.toList) = "cut".toList :: Eu.tail := by
 rw[OF,OG];kernel_rfl
theorem VL:Tryz.prog.laysLater=false:=by kernel_rfl
theorem BO:Tryz.prog.bearsReflect=false:=by kernel_rfl
theorem E2:Tryz.prog.doorFits []=true:=by kernel_rfl
theorem Tc : stripLifts liftWords ("cut".toList :: Eu.tail) = ([], "cut".toList :: Eu.tail) := by kernel_rfl
theorem X0 (P : Program) (W : List (List Char)) (h : behindMainWord (wordsSigns P.initOrder.toList) = "cut".toList :: W) (h1 : P.laysLater = false) (h2 : P.bearsReflect = false) (h3 : stripLifts liftWords ("cut".toList :: W) = ([], "cut".toList :: W)) (h4 : P.doorFits [] = true) : P.mayEnter = true := by
 unfold Program.mayEnter;rw[h];simp only[h3,h1,h2,h4,List.head?_cons,List.contains_nil,Bool.not_false,Bool.or_true,Bool.true_or,Bool.and_true,beq_self_eq_true]
theorem X3 (P : Program) (W : List (List Char)) (h : behindMainWord (wordsSigns P.initOrder.toList) = "cut".toList :: W) (h3 : stripLifts liftWords ("cut".toList :: W) = ([], "cut".toList :: W)) : P.liftsFinal = false := by
 unfold Program.liftsFinal Program.headLifts;rw[h];have e : ("cut".toList == "carried".toList) = false := by decide
 have e2 : (some "cut".toList == some "carried".toList) = false := by decide
 simp only[h3,List.head?_cons,e2,beq_self_eq_true,if_true,List.contains_nil,Bool.false_and,Bool.or_self]
theorem aCY (P : Program) (W : List (List Char)) (h : behindMainWord (wordsSigns P.initOrder.toList) = "cut".toList :: W) : P.make = some .cut := by
 unfold Program.make;rw[h];have e1 : ("cut".toList == "gc".toList) = false := by decide
 have e2 : ("cut".toList == "spec".toList) = false := by decide
 simp only[e1,e2,Bool.or_self,Bool.false_eq_true,if_false,beq_self_eq_true,Bool.true_or,if_true]
theorem FG:Tryz.prog.mayEnter=true:=X0 _ _ Rf VL BO Tc E2
theorem Td:Tryz.prog.liftsFinal=false:=X3 _ _ Rf Tc
theorem OH:Tryz.prog.make=some .cut:=aCY _ _ Rf
end Go.Proofs
namespace Go.Ab
open Go
def X4:List (Option IntKind):=(([some .u64])++(List.replicate 32 (some .u8)))
theorem OI {l:List AV} (h:oY X4 l):∃x:dP,l=aY x:=by
 unfold X4 at h;obtain⟨l0,r0,e0,a0,b0⟩:=oY.app h
 obtain⟨x0,y0⟩:=aCX a0
 obtain⟨x1,y1⟩:=W7 b0
 refine⟨⟨x0,x1⟩, ?_⟩
 simp only[aY,e0,y0,y1]
end Go.Ab
section
namespace Go.Ab
open Classical
variable [Ext]
theorem X5 {P:Program} {w:World} {r:Reach} {base:Nat}:∀(ts:List Nat) (ks:List (Option IntKind)) (cs:List Value),ts.mapM (Et P)=some ks→cs.length=ts.length →
 (∀(i:Nat) (v:Value),cs[i]? = some v→∃u,ts[i]? = some u∧Cell.okWide P w r base u v)→∀k n,AV.v (.int k n)∈cs.map AV.v→k.has n
 | [],ks,[],h,_,_=>by simp
 | t :: ts,ks,c :: cs,h,hl,hc=>by
   rw[List.mapM_cons] at h;cases h1:Et P t with
   | none=>rw[h1] at h;cases h
   | some k =>
     cases h2:ts.mapM (Et P) with
     | none=>rw[h1,h2] at h;cases h
     | some ks' =>
       obtain⟨u,hu,oS⟩:=hc 0 c rfl
       obtain rfl:t=u:=by simpa using hu
       have ih:=X5 ts ks' cs h2 (by simpa using hl) (fun i v hv=>hc (i+1) v (by simpa using hv))
       intro k0 n0 hm;rw[List.map_cons] at hm;rcases List.mem_cons.1 hm with e|hm
       ·injection e with e
        subst e;unfold Et at h1;split at h1
        ·rename_i k1 hk1;simp only[Cell.okWide,Cell.ok,hk1] at oS;obtain⟨rfl,h⟩:=oS
         exact h
        ·rename_i hk1;simp only[Cell.okWide,Cell.ok,hk1] at oS
        ·cases h1
       ·exact ih k0 n0 hm
 | [],_,_ :: _,_,hl,_=>by simp at hl
 | _ :: _,_,[],_,hl,_=>by simp at hl
theorem Te {P:Program} {w:World} {r:Reach} {base t:Nat} {v:Value} {ks:List (Option IntKind)} (hk:HM P t=some ks)
 (h:Value.okWide P w r base t v):∃l:List AV,oY ks l∧(∀k n,AV.v (.int k n)∈l→k.has n)∧∀C:Ctx,cY C (.agg l) v:=by
 unfold HM at hk;split at hk
 ·rename_i ha;split at hk
  ·rename_i ts hts;split at hk
   ·rename_i hn;have h0:=h
    have h':∃cs,v=.agg cs∧cs.size=P.cellsOf t∧Row.okWide P w r base t cs:=by
     unfold Value.okWide at h;unfold W8 at ha;split at ha
     ·rename_i hu;rw[hu] at h;exact h
     ·rename_i hu;rw[hu] at h;exact h
     ·cases ha
    obtain⟨cs,rfl,VH,ts',hts',hm,hc⟩:=h'
    obtain rfl:ts=ts':=by rw[hts] at hts';simpa using hts'
    rw[hn] at VH;have hcc:∀(i:Nat) (v:Value),cs.toList[i]? = some v→∃u,ts[i]? = some u∧Cell.okWide P w r base u v:=fun i v hv=>by
     have hi:i<ts.length:=by
      have:=(List.getElem?_eq_some_iff.1 hv).1
      simp at this;omega
     obtain⟨u,hu,oS⟩:=hc i v (by simpa using hv)
     rw[Nat.mod_eq_of_lt hi] at hu;exact⟨u,hu,oS⟩
    obtain⟨k1,k2⟩:=OE (P:=P) (w:=w) (r:=r) (base:=base) ts ks cs.toList hk (by simpa using VH) hcc
    refine⟨_,k1,X5 ts ks cs.toList hk (by simpa using VH) hcc,fun C=>.agg _ _ (by simp) (fun i x y hx hy=>?_) (fun i y hy=>k2 y (by
     rw[← Array.getElem?_toList] at hy;exact List.mem_of_getElem? hy))⟩
    rw[List.getElem?_map,Array.getElem?_toList,hy] at hx;simp at hx
    subst hx;exact .v _
   ·cases hk
  ·cases hk
 ·cases hk
end Go.Ab
end
