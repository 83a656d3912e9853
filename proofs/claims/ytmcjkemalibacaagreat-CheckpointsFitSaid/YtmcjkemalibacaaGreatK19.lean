/-
  Part 19 of the proof: an evaluator of programs, its soundness, and what functions of this program compute.
-/
import Derived.Test.YtmcjkemalibacaaGreatK5
import Derived.Below
import Derived.ChangeSlices
import Derived.ChangeShapes
import Derived.WideShapes
import Derived.OpenShut
import Derived.Test.YtmcjkemalibacaaGreatProg
import Derived.JoinedOf
import Derived.KernelRfl
set_option linter.all false
set_option maxRecDepth 20000
set_option maxHeartbeats 40000000
namespace Go.Ab
open Go Go.RowKit
theorem Sc {w w':World} (g:w.grownBy w' none):Below w.heap.size w w' :=
 ⟨g.os,g.tape,g.output,g.size,fun k hk=>g.block k hk (by simp)⟩
theorem Wj [Ext] {P:Program} (hm:P.follows .mixedOrders=true) (hx:Tz P) {f:Nat} {xs:List AV} {b:Bool} (h:aB P f xs=some (.v (.bool b))) (hu:xs.any uA=false) (w:World) (vs:Array Value)
 (hr:lS (bare fun k o=>w.heap[k]? = some o) xs vs.toList) :
 Calls P f vs w fun e w'=>e=.returned (.bool b)∧Below w.heap.size w w':=by
 have hs:=WC (P:=P) hm hx h
 have hC:IJ P f xs (.v (.bool b)):=by
  unfold Ia at hs;split at hs
  ·simp[uA] at hu
  ·exact hs
 refine (hC w _ vs (fun _ _ h=>h) hr).mono fun e w' ⟨v,he,hv,hg⟩=>?_
 obtain⟨us,_,_,_,_,h5⟩:=hv
 have hl:us=[]:=by
  rename_i h4;have:=h4 0 0
  exact List.length_eq_zero_iff.1 this.symm
 subst hl;have:=(h5 (bare (newHs (fun k o=>w.heap[k]? = some o) w w' [])) 0 0 (fun _ _ h=>h) (by simp)).1
 have hv:v=.bool b:=by cases this;rfl
 subst hv;exact⟨he,Sc hg⟩
end Go.Ab
namespace Go.Ab
open Go Go.WideShapes Go.ChangeShapes
theorem Oy {H:Type} {enc:TypeId × Value→H} {P:Program} {w:World} {base:Nat} {held:Bool} {t e:TypeId} {k:IntKind} {v:Value} {d:DataW H} {p:List MemPlace} (ht:P.underlying t=some (.slice e)) (he:P.underlying e=some (.int k)) (hc:P.cellsOf e=1)
 {W2:World} {r:Reach} {b2:Nat} (hv:Value.okWide P W2 r b2 t v) (h:DataW.Trod enc P w base (fun _=>true) held t v d p) :
 ∃l:List Int,(l.length:Int)≤9223372036854775807∧cZ (bare fun b o=>w.heap[b]? = some o) (.sl l.length (l.map fun x=>.v (.int k x))) v:=by
 obtain⟨a0,D2,cap0,rfl⟩:=okWide_slice ht hv
 obtain⟨m,hm⟩:=h
 rcases open_ints ht he hc hm with ⟨h1,h2⟩|⟨a,len,cap,zs,h1,hb,hl,VT,hzl,hx,pA,hwf⟩
 ·simp[Value.cells] at h1
  obtain⟨rfl,rfl,rfl⟩:=h1
  exact⟨[],by simp,.LZ 0 0 none (Nat.le_refl _)⟩
 ·simp[Value.cells] at h1
  obtain⟨rfl,rfl,rfl⟩:=h1
  simp only[if_true] at hzl;have hlen:(zs.take D2).length=D2:=by simp;omega
  refine⟨zs.take D2,by rw[hlen];simp only[maxLen] at VT;omega, ?_⟩
  rw[hlen];rcases Nat.eq_zero_or_pos D2 with h0|h0
  ·subst h0;exact .LZ 0 cap0 _ hl
  ·have qT:=pA 0 (by omega)
   have ha:a.add 0=a:=by simp[Addr.add]
   rw[ha] at qT;unfold World.cell? at qT
   split at qT
   ·rename_i arr T fr aHD;split at qT
    ·cases qT
    ·rename_i Ng;obtain⟨TC,off,spot⟩:=a
     simp only at aHD qT Ng
     have hspn:spot=none:=by cases spot<;>simp at Ng ⊢
     subst hspn;have each:∀i,i<zs.length→arr[off+i]? = some (.int k (zs.getD i 0)):=fun i hi=>by
      have:=pA i hi
      rw[lW] at this;rw[cell_of_row w TC (off+i) arr T fr aHD] at this;exact this
     have WA:off+zs.length≤arr.size:=by
      rcases Nat.eq_zero_or_pos zs.length with hz|hz
      ·omega
      ·have:=(Array.getElem?_eq_some_iff.1 (each (zs.length-1) (by omega))).1
       omega
     refine .sl _ _ TC off cap0 arr T fr hl aHD (by simp;omega) (fun i x y hx hy=>?_) (fun i y hi hy=>?_)
     ·have hi:i<D2:=by
       have:=(List.getElem?_eq_some_iff.1 hx).1
       simp at this;omega
      rw[each i (by omega)] at hy
      simp only[Option.some.injEq] at hy;subst hy;rw[List.getElem?_map,List.getElem?_take,if_pos hi] at hx;have hz:zs[i]? = some (zs.getD i 0):=by simp[show i<zs.length by omega]
      rw[hz] at hx;simp at hx
      subst hx;exact .v _
     ·have Db:i<zs.length:=by simp at hi;omega
      rw[each i Db] at hy;simp only[Option.some.injEq] at hy;subst hy;rfl
   ·cases qT
theorem Jw (l:List Int):aK l=l.map fun x=>.v (.int .i64 x):=by
 induction l with
 | nil=>rfl
 | cons a l ih=>simp only[aK,List.flatMap_cons,List.map_cons,qV] at *;rw[ih];rfl
end Go.Ab
namespace Go.Ab
open Go Go.WideShapes
def jP:List (Option IntKind)→List AV→Prop
 | [],[]=>True
 | some k :: ks,.v (.int k' _) :: l=>k=k'∧jP ks l
 | none :: ks,.v (.bool _) :: l=>jP ks l
 | _,_=>False
theorem jP.app:∀ {a b:List (Option IntKind)} {l:List AV},jP (a++b) l→∃l1 l2,l=l1++l2∧jP a l1∧jP b l2
 | [],b,l,h=>⟨[],l,rfl,trivial,h⟩
 | some k :: a,b,[],h=>h.elim
 | none :: a,b,[],h=>h.elim
 | some k :: a,b,x :: l,h=>by
   match x,h with
   | .v (.int k' n),h =>
     obtain⟨l1,l2,rfl,h1,h2⟩:=jP.app (a:=a) h.2
     exact⟨.v (.int k' n) :: l1,l2,rfl,⟨h.1,h1⟩,h2⟩
 | none :: a,b,x :: l,h=>by
   match x,h with
   | .v (.bool n),h =>
     obtain⟨l1,l2,rfl,h1,h2⟩:=jP.app (a:=a) h
     exact⟨.v (.bool n) :: l1,l2,rfl,h1,h2⟩
theorem Oz (k:IntKind):∀(n:Nat) (l:List AV),jP (List.replicate n (some k)) l→∃xs:List Int,xs.length=n∧l=xs.map fun x=>.v (.int k x)
 | 0,[],_=>⟨[],rfl,rfl⟩
 | 0,_ :: _,h=>h.elim
 | n+1,[],h=>h.elim
 | n+1,x :: l,h=>by
   match x,h with
   | .v (.int k' m),h =>
     obtain⟨rfl,h⟩:=h
     obtain⟨xs,hl,rfl⟩:=Oz k n l h
     exact⟨m :: xs,by simp[hl],rfl⟩
theorem Pa {l:List AV} (h:jP (List.replicate 32 (some .u8)) l):∃r:cN,l=bF r:=by
 obtain⟨xs,hl,rfl⟩:=Oz _ _ _ h
 exact⟨⟨xs.toArray,by simpa using hl⟩,by simp[bF]⟩
theorem OZ {l:List AV} (h:jP (List.replicate 4 (some .u64)) l):∃r:qE,l=gG r:=by
 obtain⟨xs,hl,rfl⟩:=Oz _ _ _ h
 exact⟨⟨xs.toArray,by simpa using hl⟩,by simp[gG]⟩
theorem z4 {l:List AV} (h:jP [some .u64] l):∃x:Int,l=lG x:=by
 obtain⟨xs,hl,rfl⟩:=Oz .u64 1 _ h
 match xs,hl with
 | [x],_=>exact⟨x,rfl⟩
theorem Z9 {l:List AV} (h:jP [none] l):∃x:Bool,l=uT x:=by
 match l,h with
 | .v (.bool b) :: [],_=>exact⟨b,rfl⟩
 | .v (.bool b) :: _ :: _,h=>exact h.elim
def Fh (P:Program) (t:Nat):Option (Option IntKind) :=
 match P.underlying t with
 | some (.int k)=>some (some k)
 | some .bool=>some none
 | _=>none
def aAa (P:Program) (t:Nat):Bool :=
 match P.underlying t with
 | some (.struct _)|some (.array _ _)=>true
 | _=>false
theorem PA {P:Program} {w:World} {r:Reach} {base:Nat}:∀(ts:List Nat) (ks:List (Option IntKind)) (cs:List Value),ts.mapM (Fh P)=some ks→cs.length=ts.length →
 (∀(i:Nat) (v:Value),cs[i]? = some v→∃u,ts[i]? = some u∧Cell.okWide P w r base u v)→jP ks (cs.map AV.v)∧(∀v∈cs,v.oneCell'=true)
 | [],ks,[],h,_,_=>by
   simp at h;subst h;exact⟨trivial,by simp⟩
 | t :: ts,ks,c :: cs,h,hl,hc=>by
   rw[List.mapM_cons] at h;cases h1:Fh P t with
   | none=>rw[h1] at h;cases h
   | some k =>
     cases h2:ts.mapM (Fh P) with
     | none=>rw[h1,h2] at h;cases h
     | some ks' =>
       rw[h1,h2] at h;obtain rfl:k :: ks'=ks:=by simpa using h
       obtain⟨u,hu,oZ⟩:=hc 0 c rfl
       obtain rfl:t=u:=by simpa using hu
       have ih:=PA ts ks' cs h2 (by simpa using hl) (fun i v hv=>hc (i+1) v (by simpa using hv))
       unfold Fh at h1;split at h1
       ·rename_i k0 qC;have hv:Value.okWide P w r base t c:=by unfold Value.okWide;rw[qC];exact oZ
        obtain⟨n,rfl⟩:=okWide_int qC hv
        obtain rfl:some k0=k:=by simpa using h1
        exact⟨⟨rfl,ih.1⟩,by intro v hv;rcases List.mem_cons.1 hv with rfl|hv;rfl;exact ih.2 v hv⟩
       ·rename_i qC;have hv:Value.okWide P w r base t c:=by unfold Value.okWide;rw[qC];exact oZ
        obtain⟨n,rfl⟩:=okWide_bool qC hv
        obtain rfl:none=k:=by simpa using h1
        exact⟨ih.1,by intro v hv;rcases List.mem_cons.1 hv with rfl|hv;rfl;exact ih.2 v hv⟩
       ·cases h1
 | [],_,_ :: _,_,hl,_=>by simp at hl
 | _ :: _,_,[],_,hl,_=>by simp at hl
def Wk (P:Program) (t:Nat):Option (List (Option IntKind)) :=
 if aAa P t=true then
  match P.cellTypes P.depth t with
  | some ts=>if P.cellsOf t=ts.length then ts.mapM (Fh P) else none
  | none=>none
 else none
end Go.Ab
section
namespace Go.Ab
open Go Go.WideShapes Go.ChangeShapes
def IK (ks:List (Option IntKind)) (cs:List Value):Prop:=jP ks (cs.map AV.v)∧∀v∈cs,v.oneCell'=true
theorem jP.WD:∀ {a b:List (Option IntKind)} {l m:List AV},jP a l→jP b m→jP (a++b) (l++m)
 | [],b,[],m,_,h=>h
 | [],b,_ :: _,m,h,_=>h.elim
 | some k :: a,b,[],m,h,_=>h.elim
 | none :: a,b,[],m,h,_=>h.elim
 | some k :: a,b,x :: l,m,h,h2=>by
   match x,h with
   | .v (.int k' n),h=>exact⟨h.1,jP.WD (a:=a) h.2 h2⟩
 | none :: a,b,x :: l,m,h,h2=>by
   match x,h with
   | .v (.bool n),h=>exact jP.WD (a:=a) h h2
theorem IK.app {a b:List (Option IntKind)} {l m:List Value} (h:IK a l) (h2:IK b m):IK (a++b) (l++m) :=
 ⟨by rw[List.map_append];exact h.1.WD h2.1,fun v hv=>by rcases List.mem_append.1 hv with hv|hv;exact h.2 v hv;exact h2.2 v hv⟩
theorem jP.len:∀ {a:List (Option IntKind)} {l:List AV},jP a l→l.length=a.length
 | [],[],_=>rfl
 | [],_ :: _,h=>h.elim
 | some k :: a,[],h=>h.elim
 | none :: a,[],h=>h.elim
 | some k :: a,x :: l,h=>by
   match x,h with
   | .v (.int k' n),h=>simp[jP.len (a:=a) h.2]
 | none :: a,x :: l,h=>by
   match x,h with
   | .v (.bool n),h=>simp[jP.len (a:=a) h]
section
variable {H:Type} {enc:TypeId × Value→H} {P:Program} {w:World} {base:Nat} {spare:Nat→Bool} {held:Bool}
end
end Go.Ab
end
namespace Go.Proofs
open Go
def Mi:List Char:=[104,97,114,110,101,115,115,32,97,52,99,102,55,98,53,57,99,56,56,102,54,49,52,49,49,52,50,97,55,48,97,54,101,57,100,101,50,98,49,97,56,99,49,55,98,55,99,57,98,102,54,98,57,55,56,50,55,54,51,55,54,52,51,98,48,98,52,51,55,51,56,101,32,99,117,116,32,97,116,32,102,111,114,107,104,101,97,100,47,102,111,114,107,104,101,97,100,108,97,119,50,55,46,82,101,113,117,101,115,116,115,77,97,116,99,104,32,102,111,114,107,104,101,97,100,47,102,111,114,107,104,101,97,100,108,97,119,50,55,46,82,101,113,117,101,115,116,115,79,112,101,110,32,102,111,114,107,104,101,97,100,47,102,111,114,107,104,101,97,100,108,97,119,50,55,46,82,101,113,117,101,115,116,115,84,97,103,115,32,102,111,114,107,104,101,97,100,47,102,111,114,107,104,101,97,100,108,97,119,50,55,46,82,101,113,117,101,115,116,115,68,114,111,112,32,102,111,114,107,104,101,97,100,47,102,111,114,107,104,101,97,100,108,97,119,50,53,46,66,97,108,108,111,116,115,69,120,97,99,116,32,102,111,114,107,104,101,97,100,47,102,111,114,107,104,101,97,100,108,97,119,50,53,46,66,97,108,108,111,116,115,65,110,121,32,102,111,114,107,104,101,97,100,47,102,111,114,107,104,101,97,100,108,97,119,50,53,46,66,97,108,108,111,116,115,84,97,114,103,101,116,115,32,102,111,114,107,104,101,97,100,47,102,111,114,107,104,101,97,100,108,97,119,50,53,46,66,97,108,108,111,116,115,86,111,116,101,115,32,102,111,114,107,104,101,97,100,47,102,111,114,107,104,101,97,100,108,97,119,50,52,46,65,100,109,105,115,115,105,111,110,69,120,97,99,116,32,102,111,114,107,104,101,97,100,47,102,111,114,107,104,101,97,100,108,97,119,50,52,46,65,100,109,105,115,115,105,111,110,65,110,121,32,102,111,114,107,104,101,97,100,47,102,111,114,107,104,101,97,100,108,97,119,50,52,46,65,100,109,105,115,115,105,111,110,83,97,102,101,32,102,111,114,107,104,101,97,100,47,102,111,114,107,104,101,97,100,108,97,119,50,52,46,65,100,109,105,115,115,105,111,110,70,105,114,115,116,32,102,111,114,107,104,101,97,100,47,102,111,114,107,104,101,97,100,108,97,119,50,51,46,67,104,101,99,107,112,111,105,110,116,115,85,112,100,97,116,101,115,32,102,111,114,107,104,101,97,100,47,102,111,114,107,104,101,97,100,108,97,119,50,51,46,67,104,101,99,107,112,111,105,110,116,115,70,111,114,119,97,114,100,32,102,111,114,107,104,101,97,100,47,102,111,114,107,104,101,97,100,108,97,119,50,51,46,67,104,101,99,107,112,111,105,110,116,115,84,97,98,108,101,115,32,102,111,114,107,104,101,97,100,47,102,111,114,107,104,101,97,100,108,97,119,50,51,46,67,104,101,99,107,112,111,105,110,116,115,84,119,105,99,101,32,102,111,114,107,104,101,97,100,47,102,111,114,107,104,101,97,100,108,97,119,50,51,46,67,104,101,99,107,112,111,105,110,116,115,80,101,110,100,105,110,103,32,102,111,114,107,104,101,97,100,47,102,111,114,107,104,101,97,100,108,97,119,50,51,46,67,104,101,99,107,112,111,105,110,116,115,70,105,116,32,102,111,114,107,104,101,97,100,47,102,111,114,107,104,101,97,100,108,97,119,50,56,46,82,101,116,114,121,76,97,116,101,114,32,102,111,114,107,104,101,97,100,47,102,111,114,107,104,101,97,100,108,97,119,50,56,46,82,101,116,114,121,68,117,101,32,102,111,114,107,104,101,97,100,47,102,111,114,107,104,101,97,100,108,97,119,50,56,46,82,101,116,114,121,69,118,101,114,121].map Char.ofNat
theorem aAb:Tryz.prog.initOrder=String.ofList Mi:=by kernel_rfl
theorem PB:Tryz.prog.initOrder.toList=Mi:=by rw[aAb];exact String.toList_ofList
def Fi:List (List Char):=[[99,117,116],[97,116],[102,111,114,107,104,101,97,100,47,102,111,114,107,104,101,97,100,108,97,119,50,55,46,82,101,113,117,101,115,116,115,77,97,116,99,104],[102,111,114,107,104,101,97,100,47,102,111,114,107,104,101,97,100,108,97,119,50,55,46,82,101,113,117,101,115,116,115,79,112,101,110],[102,111,114,107,104,101,97,100,47,102,111,114,107,104,101,97,100,108,97,119,50,55,46,82,101,113,117,101,115,116,115,84,97,103,115],[102,111,114,107,104,101,97,100,47,102,111,114,107,104,101,97,100,108,97,119,50,55,46,82,101,113,117,101,115,116,115,68,114,111,112],[102,111,114,107,104,101,97,100,47,102,111,114,107,104,101,97,100,108,97,119,50,53,46,66,97,108,108,111,116,115,69,120,97,99,116],[102,111,114,107,104,101,97,100,47,102,111,114,107,104,101,97,100,108,97,119,50,53,46,66,97,108,108,111,116,115,65,110,121],[102,111,114,107,104,101,97,100,47,102,111,114,107,104,101,97,100,108,97,119,50,53,46,66,97,108,108,111,116,115,84,97,114,103,101,116,115],[102,111,114,107,104,101,97,100,47,102,111,114,107,104,101,97,100,108,97,119,50,53,46,66,97,108,108,111,116,115,86,111,116,101,115],[102,111,114,107,104,101,97,100,47,102,111,114,107,104,101,97,100,108,97,119,50,52,46,65,100,109,105,115,115,105,111,110,69,120,97,99,116],[102,111,114,107,104,101,97,100,47,102,111,114,107,104,101,97,100,108,97,119,50,52,46,65,100,109,105,115,115,105,111,110,65,110,121],[102,111,114,107,104,101,97,100,47,102,111,114,107,104,101,97,100,108,97,119,50,52,46,65,100,109,105,115,115,105,111,110,83,97,102,101],[102,111,114,107,104,101,97,100,47,102,111,114,107,104,101,97,100,108,97,119,50,52,46,65,100,109,105,115,115,105,111,110,70,105,114,115,116],[102,111,114,107,104,101,97,100,47,102,111,114,107,104,101,97,100,108,97,119,50,51,46,67,104,101,99,107,112,111,105,110,116,115,85,112,100,97,116,101,115],[102,111,114,107,104,101,97,100,47,102,111,114,107,104,101,97,100,108,97,119,50,51,46,67,104,101,99,107,112,111,105,110,116,115,70,111,114,119,97,114,100],[102,111,114,107,104,101,97,100,47,102,111,114,107,104,101,97,100,108,97,119,50,51,46,67,104,101,99,107,112,111,105,110,116,115,84,97,98,108,101,115],[102,111,114,107,104,101,97,100,47,102,111,114,107,104,101,97,100,108,97,119,50,51,46,67,104,101,99,107,112,111,105,110,116,115,84,119,105,99,101],[102,111,114,107,104,101,97,100,47,102,111,114,107,104,101,97,100,108,97,119,50,51,46,67,104,101,99,107,112,111,105,110,116,115,80,101,110,100,105,110,103],[102,111,114,107,104,101,97,100,47,102,111,114,107,104,101,97,100,108,97,119,50,51,46,67,104,101,99,107,112,111,105,110,116,115,70,105,116],[102,111,114,107,104,101,97,100,47,102,111,114,107,104,101,97,100,108,97,119,50,56,46,82,101,116,114,121,76,97,116,101,114],[102,111,114,107,104,101,97,100,47,102,111,114,107,104,101,97,100,108,97,119,50,56,46,82,101,116,114,121,68,117,101],[102,111,114,107,104,101,97,100,47,102,111,114,107,104,101,97,100,108,97,119,50,56,46,82,101,116,114,121,69,118,101,114,121]].map fun l=>l.map Char.ofNat
theorem PC:behindMainWord (wordsSigns Mi)=Fi:=by kernel_rfl
theorem Sd : behindMainWord (wordsSigns Tryz.prog.initOrder.toList) = "cut".toList :: Fi.tail := by
 rw[PB,PC];kernel_rfl
theorem WE:Tryz.prog.laysLater=false:=by kernel_rfl
theorem CS:Tryz.prog.bearsReflect=false:=by kernel_rfl
theorem H3:Tryz.prog.doorFits []=true:=by kernel_rfl
theorem Ua : stripLifts liftWords ("cut".toList :: Fi.tail) = ([], "cut".toList :: Fi.tail) := by kernel_rfl
theorem aAc (P : Program) (W : List (List Char)) (h : behindMainWord (wordsSigns P.initOrder.toList) = "cut".toList :: W) (h1 : P.laysLater = false) (h2 : P.bearsReflect = false) (h3 : stripLifts liftWords ("cut".toList :: W) = ([], "cut".toList :: W)) (h4 : P.doorFits [] = true) : P.mayEnter = true := by
 unfold Program.mayEnter;rw[h];simp only[h3,h1,h2,h4,List.head?_cons,List.contains_nil,Bool.not_false,Bool.or_true,Bool.true_or,Bool.and_true,beq_self_eq_true]
theorem aAd (P : Program) (W : List (List Char)) (h : behindMainWord (wordsSigns P.initOrder.toList) = "cut".toList :: W) (h3 : stripLifts liftWords ("cut".toList :: W) = ([], "cut".toList :: W)) : P.liftsFinal = false := by
 unfold Program.liftsFinal Program.headLifts;rw[h];have e : ("cut".toList == "carried".toList) = false := by decide
 have e2 : (some "cut".toList == some "carried".toList) = false := by decide
 simp only[h3,List.head?_cons,e2,beq_self_eq_true,if_true,List.contains_nil,Bool.false_and,Bool.or_self]
theorem aDr (P : Program) (W : List (List Char)) (h : behindMainWord (wordsSigns P.initOrder.toList) = "cut".toList :: W) : P.make = some .cut := by
 unfold Program.make;rw[h];have e1 : ("cut".toList == "gc".toList) = false := by decide
 have e2 : ("cut".toList == "spec".toList) = false := by decide
 simp only[e1,e2,Bool.or_self,Bool.false_eq_true,if_false,beq_self_eq_true,Bool.true_or,if_true]
theorem Jx:Tryz.prog.mayEnter=true:=aAc _ _ Sd WE CS Ua H3
theorem Bt:Tryz.prog.liftsFinal=false:=aAd _ _ Sd Ua
theorem Pb:Tryz.prog.make=some .cut:=aDr _ _ Sd
end Go.Proofs
namespace Go.Ab
open Go
def Ze:List (Option IntKind):=(([some .u64])++(List.replicate 32 (some .u8)))
theorem Du {l:List AV} (h:jP Ze l):∃x:dP,l=aW x:=by
 unfold Ze at h;obtain⟨l0,r0,e0,a0,b0⟩:=jP.app h
 obtain⟨x0,y0⟩:=z4 a0
 obtain⟨x1,y1⟩:=Pa b0
 refine⟨⟨x0,x1⟩, ?_⟩
 simp only[aW,e0,y0,y1]
def IL:List (Option IntKind):=(Ze++Ze)
theorem WG {l:List AV} (h:jP IL l):∃x:mI,l=dM x:=by
 unfold IL at h;obtain⟨l0,r0,e0,a0,b0⟩:=jP.app h
 obtain⟨x0,y0⟩:=Du a0
 obtain⟨x1,y1⟩:=Du b0
 refine⟨⟨x0,x1⟩, ?_⟩
 simp only[dM,e0,y0,y1]
def WH:List (Option IntKind):=(IL++(([some .u64])++((List.replicate 32 (some .u8))++((List.replicate 32 (some .u8))++((List.replicate 32 (some .u8))++((List.replicate 4 (some .u64))++((List.replicate 4 (some .u64))++(Ze++(Ze++([none]))))))))))
theorem H4 {l:List AV} (h:jP WH l):∃x:Block,l=aP x:=by
 unfold WH at h;obtain⟨l0,r0,e0,a0,b0⟩:=jP.app h
 obtain⟨l1,r1,e1,a1,b1⟩:=jP.app b0
 obtain⟨l2,r2,e2,a2,b2⟩:=jP.app b1
 obtain⟨l3,r3,e3,a3,b3⟩:=jP.app b2
 obtain⟨l4,r4,e4,a4,b4⟩:=jP.app b3
 obtain⟨l5,r5,e5,a5,b5⟩:=jP.app b4
 obtain⟨l6,r6,e6,a6,b6⟩:=jP.app b5
 obtain⟨l7,r7,e7,a7,b7⟩:=jP.app b6
 obtain⟨l8,r8,e8,a8,b8⟩:=jP.app b7
 obtain⟨x0,y0⟩:=WG a0
 obtain⟨x1,y1⟩:=z4 a1
 obtain⟨x2,y2⟩:=Pa a2
 obtain⟨x3,y3⟩:=Pa a3
 obtain⟨x4,y4⟩:=Pa a4
 obtain⟨x5,y5⟩:=OZ a5
 obtain⟨x6,y6⟩:=OZ a6
 obtain⟨x7,y7⟩:=Du a7
 obtain⟨x8,y8⟩:=Du a8
 obtain⟨x9,y9⟩:=Z9 b8
 refine⟨⟨x0,x1,x2,x3,x4,x5,x6,x7,x8,x9⟩, ?_⟩
 simp only[aP,e0,e1,e2,e3,e4,e5,e6,e7,e8,y0,y1,y2,y3,y4,y5,y6,y7,y8,y9]
end Go.Ab
section
namespace Go.Ab
open Classical
variable [Ext]
theorem aAe {P:Program} {w:World} {r:Reach} {base:Nat}:∀(ts:List Nat) (ks:List (Option IntKind)) (cs:List Value),ts.mapM (Fh P)=some ks→cs.length=ts.length →
 (∀(i:Nat) (v:Value),cs[i]? = some v→∃u,ts[i]? = some u∧Cell.okWide P w r base u v)→∀k n,AV.v (.int k n)∈cs.map AV.v→k.has n
 | [],ks,[],h,_,_=>by simp
 | t :: ts,ks,c :: cs,h,hl,hc=>by
   rw[List.mapM_cons] at h;cases h1:Fh P t with
   | none=>rw[h1] at h;cases h
   | some k =>
     cases h2:ts.mapM (Fh P) with
     | none=>rw[h1,h2] at h;cases h
     | some ks' =>
       obtain⟨u,hu,oZ⟩:=hc 0 c rfl
       obtain rfl:t=u:=by simpa using hu
       have ih:=aAe ts ks' cs h2 (by simpa using hl) (fun i v hv=>hc (i+1) v (by simpa using hv))
       intro k0 n0 hm;rw[List.map_cons] at hm;rcases List.mem_cons.1 hm with e|hm
       ·injection e with e
        subst e;unfold Fh at h1;split at h1
        ·rename_i k1 hk1;simp only[Cell.okWide,Cell.ok,hk1] at oZ;obtain⟨rfl,h⟩:=oZ
         exact h
        ·rename_i hk1;simp only[Cell.okWide,Cell.ok,hk1] at oZ
        ·cases h1
       ·exact ih k0 n0 hm
 | [],_,_ :: _,_,hl,_=>by simp at hl
 | _ :: _,_,[],_,hl,_=>by simp at hl
theorem Ib {P:Program} {w:World} {r:Reach} {base t:Nat} {v:Value} {ks:List (Option IntKind)} (hk:Wk P t=some ks)
 (h:Value.okWide P w r base t v):∃l:List AV,jP ks l∧(∀k n,AV.v (.int k n)∈l→k.has n)∧∀C:Ctx,cZ C (.agg l) v:=by
 unfold Wk at hk;split at hk
 ·rename_i ha;split at hk
  ·rename_i ts hts;split at hk
   ·rename_i hn;have h0:=h
    have h':∃cs,v=.agg cs∧cs.size=P.cellsOf t∧Row.okWide P w r base t cs:=by
     unfold Value.okWide at h;unfold aAa at ha;split at ha
     ·rename_i hu;rw[hu] at h;exact h
     ·rename_i hu;rw[hu] at h;exact h
     ·cases ha
    obtain⟨cs,rfl,WA,ts',hts',hm,hc⟩:=h'
    obtain rfl:ts=ts':=by rw[hts] at hts';simpa using hts'
    rw[hn] at WA;have hcc:∀(i:Nat) (v:Value),cs.toList[i]? = some v→∃u,ts[i]? = some u∧Cell.okWide P w r base u v:=fun i v hv=>by
     have hi:i<ts.length:=by
      have:=(List.getElem?_eq_some_iff.1 hv).1
      simp at this;omega
     obtain⟨u,hu,oZ⟩:=hc i v (by simpa using hv)
     rw[Nat.mod_eq_of_lt hi] at hu;exact⟨u,hu,oZ⟩
    obtain⟨k1,k2⟩:=PA (P:=P) (w:=w) (r:=r) (base:=base) ts ks cs.toList hk (by simpa using WA) hcc
    refine⟨_,k1,aAe ts ks cs.toList hk (by simpa using WA) hcc,fun C=>.agg _ _ (by simp) (fun i x y hx hy=>?_) (fun i y hy=>k2 y (by
     rw[← Array.getElem?_toList] at hy;exact List.mem_of_getElem? hy))⟩
    rw[List.getElem?_map,Array.getElem?_toList,hy] at hx;simp at hx
    subst hx;exact .v _
   ·cases hk
  ·cases hk
 ·cases hk
end Go.Ab
end
