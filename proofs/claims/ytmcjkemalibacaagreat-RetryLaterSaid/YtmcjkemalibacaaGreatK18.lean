/-
  Part 18 of the proof: an evaluator of programs, its soundness, and what functions of this program compute.
-/
import Derived.Test.YtmcjkemalibacaaGreatK5
import Derived.Below
import Derived.ChangeSlices
import Derived.ChangeShapes
import Derived.WideShapes
import Derived.OpenShut
import Derived.Test.YtmcjkemalibacaaGreatProg
import Derived.JoinedOf
import Derived.KernelRfl
import Derived.Test.YtmcjkemalibacaaGreatK8
import Derived.WalkKit
import Derived.Laws.CopyRow
import Derived.Lib.Overlaps
import Derived.Lib.AppendZerosOnto
import Derived.Laws.Externs
import Derived.Deep.RegionLaw
import Derived.Laws.AppendOwn
import Derived.Test.YtmcjkemalibacaaGreatK6
import Derived.Test.YtmcjkemalibacaaGreatK9
set_option linter.all false
set_option maxRecDepth 20000
set_option maxHeartbeats 40000000
namespace Go.Ab
open Go Go.RowKit
theorem Ub {w w':World} (g:w.grownBy w' none):Below w.heap.size w w' :=
 ⟨g.os,g.tape,g.output,g.size,fun k hk=>g.block k hk (by simp)⟩
theorem aEW [Ext] {P:Program} (hm:P.follows .mixedOrders=true) (hx:IX P) {f:Nat} {xs:List AV} {b:Bool} (h:aC P f xs=some (.v (.bool b))) (hu:xs.any oC=false) (w:World) (vs:Array Value)
 (hr:lA (bare fun k o=>w.heap[k]? = some o) xs vs.toList) :
 Calls P f vs w fun e w'=>e=.returned (.bool b)/\Below w.heap.size w w':=by
 have hs:=BS (P:=P) hm hx h
 have hC:Uc P f xs (.v (.bool b)):=by
  unfold Av at hs;split at hs
  ·simp[oC] at hu
  ·simp[oC] at hu
  ·exact hs
 refine (hC w _ vs (fun _ _ h=>h) hr).mono fun e w' ⟨v,he,hv,hg⟩=>?_
 obtain⟨us,_,_,_,_,h5⟩:=hv
 have hl:us=[]:=by
  rename_i h4;have:=h4 0 0
  exact List.length_eq_zero_iff.1 this.symm
 subst hl;have:=(h5 (bare (newHs (fun k o=>w.heap[k]? = some o) w w' [])) 0 0 (fun _ _ h=>h) (by simp)).1
 have hv:v=.bool b:=by cases this;rfl
 subst hv;exact⟨he,Ub hg⟩
end Go.Ab
namespace Go.Ab
open Go Go.WideShapes Go.ChangeShapes
theorem aBN {H:Type} {enc:TypeId × Value->H} {P:Program} {w:World} {base:Nat} {held:Bool} {t e:TypeId} {k:IntKind} {v:Value} {d:DataW H} {p:List MemPlace} (ht:P.underlying t=some (.slice e)) (he:P.underlying e=some (.int k)) (hc:P.cellsOf e=1)
 {W2:World} {r:Reach} {b2:Nat} (hv:Value.okWide P W2 r b2 t v) (h:DataW.Trod enc P w base (fun _=>true) held t v d p) :
 ∃l:List Int,(l.length:Int)<=9223372036854775807/\cK (bare fun b o=>w.heap[b]? = some o) (.sl l.length (l.map fun x=>.v (.int k x))) v:=by
 obtain⟨a0,J4,cap0,rfl⟩:=okWide_slice ht hv
 obtain⟨m,hm⟩:=h
 rcases open_ints ht he hc hm with ⟨h1,h2⟩|⟨a,len,cap,zs,h1,hb,hl,LI,hzl,hx,lZ,hwf⟩
 ·simp[Value.cells] at h1
  obtain⟨rfl,rfl,rfl⟩:=h1
  exact⟨[],by simp,.JQ 0 0 none (Nat.le_refl _)⟩
 ·simp[Value.cells] at h1
  obtain⟨rfl,rfl,rfl⟩:=h1
  simp only[if_true] at hzl;have hlen:(zs.take J4).length=J4:=by simp;omega
  refine⟨zs.take J4,by rw[hlen];simp only[maxLen] at LI;omega, ?_⟩
  rw[hlen];rcases Nat.eq_zero_or_pos J4 with h0|h0
  ·subst h0;exact .JQ 0 cap0 _ hl
  ·have oV:=lZ 0 (by omega)
   have ha:a.add 0=a:=by simp[Addr.add]
   rw[ha] at oV;unfold World.cell? at oV
   split at oV
   ·rename_i arr T fr aJa;split at oV
    ·cases oV
    ·rename_i Pn;obtain⟨WB,off,spot⟩:=a
     simp only at aJa oV Pn
     have hspn:spot=none:=by cases spot<;>simp at Pn ⊢
     subst hspn;have each:∀i,i<zs.length->arr[off+i]? = some (.int k (zs.getD i 0)):=fun i hi=>by
      have:=lZ i hi
      rw[lB] at this;rw[cell_of_row w WB (off+i) arr T fr aJa] at this;exact this
     have F6:off+zs.length<=arr.size:=by
      rcases Nat.eq_zero_or_pos zs.length with hz|hz
      ·omega
      ·have:=(Array.getElem?_eq_some_iff.1 (each (zs.length-1) (by omega))).1
       omega
     refine .sl _ _ WB off cap0 arr T fr hl aJa (by simp;omega) (fun i x y hx hy=>?_) (fun i y hi hy=>?_)
     ·have hi:i<J4:=by
       have:=(List.getElem?_eq_some_iff.1 hx).1
       simp at this;omega
      rw[each i (by omega)] at hy
      simp only[Option.some.injEq] at hy;subst hy;rw[List.getElem?_map,List.getElem?_take,if_pos hi] at hx;have hz:zs[i]? = some (zs.getD i 0):=by simp[show i<zs.length by omega]
      rw[hz] at hx;simp at hx
      subst hx;exact .v _
     ·have Dm:i<zs.length:=by simp at hi;omega
      rw[each i Dm] at hy;simp only[Option.some.injEq] at hy;subst hy;rfl
   ·cases oV
theorem O4 (l:List Int):aI l=l.map fun x=>.v (.int .i64 x):=by
 induction l with
 | nil=>rfl
 | cons a l ih=>simp only[aI,List.flatMap_cons,List.map_cons,qD] at *;rw[ih];rfl
end Go.Ab
namespace Go.Ab
open Go Go.WideShapes
def uT:List (Option IntKind)->List AV->Prop
 | [],[]=>True
 | some k :: ks,.v (.int k' _) :: l=>k=k'/\uT ks l
 | none :: ks,.v (.bool _) :: l=>uT ks l
 | _,_=>False
theorem uT.app:∀ {a b:List (Option IntKind)} {l:List AV},uT (a++b) l->∃l1 l2,l=l1++l2/\uT a l1/\uT b l2
 | [],b,l,h=>⟨[],l,rfl,trivial,h⟩
 | some k :: a,b,[],h=>h.elim
 | none :: a,b,[],h=>h.elim
 | some k :: a,b,x :: l,h=>by
   match x,h with
   | .v (.int k' n),h =>
     obtain⟨l1,l2,rfl,h1,h2⟩:=uT.app (a:=a) h.2
     exact⟨.v (.int k' n) :: l1,l2,rfl,⟨h.1,h1⟩,h2⟩
 | none :: a,b,x :: l,h=>by
   match x,h with
   | .v (.bool n),h =>
     obtain⟨l1,l2,rfl,h1,h2⟩:=uT.app (a:=a) h
     exact⟨.v (.bool n) :: l1,l2,rfl,h1,h2⟩
end Go.Ab
section
namespace Go.Ab
open Go Go.WideShapes Go.ChangeShapes
def LJ (ks:List (Option IntKind)) (cs:List Value):Prop:=uT ks (cs.map AV.v)/\∀v∈cs,v.oneCell'=true
theorem uT.ZB:∀ {a b:List (Option IntKind)} {l m:List AV},uT a l->uT b m->uT (a++b) (l++m)
 | [],b,[],m,_,h=>h
 | [],b,_ :: _,m,h,_=>h.elim
 | some k :: a,b,[],m,h,_=>h.elim
 | none :: a,b,[],m,h,_=>h.elim
 | some k :: a,b,x :: l,m,h,h2=>by
   match x,h with
   | .v (.int k' n),h=>exact⟨h.1,uT.ZB (a:=a) h.2 h2⟩
 | none :: a,b,x :: l,m,h,h2=>by
   match x,h with
   | .v (.bool n),h=>exact uT.ZB (a:=a) h h2
theorem LJ.app {a b:List (Option IntKind)} {l m:List Value} (h:LJ a l) (h2:LJ b m):LJ (a++b) (l++m) :=
 ⟨by rw[List.map_append];exact h.1.ZB h2.1,fun v hv=>by rcases List.mem_append.1 hv with hv|hv;exact h.2 v hv;exact h2.2 v hv⟩
theorem uT.len:∀ {a:List (Option IntKind)} {l:List AV},uT a l->l.length=a.length
 | [],[],_=>rfl
 | [],_ :: _,h=>h.elim
 | some k :: a,[],h=>h.elim
 | none :: a,[],h=>h.elim
 | some k :: a,x :: l,h=>by
   match x,h with
   | .v (.int k' n),h=>simp[uT.len (a:=a) h.2]
 | none :: a,x :: l,h=>by
   match x,h with
   | .v (.bool n),h=>simp[uT.len (a:=a) h]
section
variable {H:Type} {enc:TypeId × Value->H} {P:Program} {w:World} {base:Nat} {spare:Nat->Bool} {held:Bool}
end
end Go.Ab
end
namespace Go.Proofs
open Go
def Oj:List Char:=[104,97,114,110,101,115,115,32,97,52,99,102,55,98,53,57,99,56,56,102,54,49,52,49,49,52,50,97,55,48,97,54,101,57,100,101,50,98,49,97,56,99,49,55,98,55,99,57,98,102,54,98,57,55,56,50,55,54,51,55,54,52,51,98,48,98,52,51,55,51,56,101,32,99,117,116,32,97,116,32,102,111,114,107,104,101,97,100,47,102,111,114,107,104,101,97,100,108,97,119,50,55,46,82,101,113,117,101,115,116,115,77,97,116,99,104,32,102,111,114,107,104,101,97,100,47,102,111,114,107,104,101,97,100,108,97,119,50,55,46,82,101,113,117,101,115,116,115,79,112,101,110,32,102,111,114,107,104,101,97,100,47,102,111,114,107,104,101,97,100,108,97,119,50,55,46,82,101,113,117,101,115,116,115,84,97,103,115,32,102,111,114,107,104,101,97,100,47,102,111,114,107,104,101,97,100,108,97,119,50,55,46,82,101,113,117,101,115,116,115,68,114,111,112,32,102,111,114,107,104,101,97,100,47,102,111,114,107,104,101,97,100,108,97,119,50,53,46,66,97,108,108,111,116,115,69,120,97,99,116,32,102,111,114,107,104,101,97,100,47,102,111,114,107,104,101,97,100,108,97,119,50,53,46,66,97,108,108,111,116,115,65,110,121,32,102,111,114,107,104,101,97,100,47,102,111,114,107,104,101,97,100,108,97,119,50,53,46,66,97,108,108,111,116,115,84,97,114,103,101,116,115,32,102,111,114,107,104,101,97,100,47,102,111,114,107,104,101,97,100,108,97,119,50,53,46,66,97,108,108,111,116,115,86,111,116,101,115,32,102,111,114,107,104,101,97,100,47,102,111,114,107,104,101,97,100,108,97,119,50,52,46,65,100,109,105,115,115,105,111,110,69,120,97,99,116,32,102,111,114,107,104,101,97,100,47,102,111,114,107,104,101,97,100,108,97,119,50,52,46,65,100,109,105,115,115,105,111,110,65,110,121,32,102,111,114,107,104,101,97,100,47,102,111,114,107,104,101,97,100,108,97,119,50,52,46,65,100,109,105,115,115,105,111,110,83,97,102,101,32,102,111,114,107,104,101,97,100,47,102,111,114,107,104,101,97,100,108,97,119,50,52,46,65,100,109,105,115,115,105,111,110,70,105,114,115,116,32,102,111,114,107,104,101,97,100,47,102,111,114,107,104,101,97,100,108,97,119,50,51,46,67,104,101,99,107,112,111,105,110,116,115,85,112,100,97,116,101,115,32,102,111,114,107,104,101,97,100,47,102,111,114,107,104,101,97,100,108,97,119,50,51,46,67,104,101,99,107,112,111,105,110,116,115,70,111,114,119,97,114,100,32,102,111,114,107,104,101,97,100,47,102,111,114,107,104,101,97,100,108,97,119,50,51,46,67,104,101,99,107,112,111,105,110,116,115,84,97,98,108,101,115,32,102,111,114,107,104,101,97,100,47,102,111,114,107,104,101,97,100,108,97,119,50,51,46,67,104,101,99,107,112,111,105,110,116,115,84,119,105,99,101,32,102,111,114,107,104,101,97,100,47,102,111,114,107,104,101,97,100,108,97,119,50,51,46,67,104,101,99,107,112,111,105,110,116,115,80,101,110,100,105,110,103,32,102,111,114,107,104,101,97,100,47,102,111,114,107,104,101,97,100,108,97,119,50,51,46,67,104,101,99,107,112,111,105,110,116,115,70,105,116,32,102,111,114,107,104,101,97,100,47,102,111,114,107,104,101,97,100,108,97,119,50,56,46,82,101,116,114,121,76,97,116,101,114,32,102,111,114,107,104,101,97,100,47,102,111,114,107,104,101,97,100,108,97,119,50,56,46,82,101,116,114,121,68,117,101,32,102,111,114,107,104,101,97,100,47,102,111,114,107,104,101,97,100,108,97,119,50,56,46,82,101,116,114,121,69,118,101,114,121].map Char.ofNat
theorem aBO:Tryz.prog.initOrder=String.ofList Oj:=by kernel_rfl
theorem RW:Tryz.prog.initOrder.toList=Oj:=by rw[aBO];exact String.toList_ofList
def Gp:List (List Char):=[[99,117,116],[97,116],[102,111,114,107,104,101,97,100,47,102,111,114,107,104,101,97,100,108,97,119,50,55,46,82,101,113,117,101,115,116,115,77,97,116,99,104],[102,111,114,107,104,101,97,100,47,102,111,114,107,104,101,97,100,108,97,119,50,55,46,82,101,113,117,101,115,116,115,79,112,101,110],[102,111,114,107,104,101,97,100,47,102,111,114,107,104,101,97,100,108,97,119,50,55,46,82,101,113,117,101,115,116,115,84,97,103,115],[102,111,114,107,104,101,97,100,47,102,111,114,107,104,101,97,100,108,97,119,50,55,46,82,101,113,117,101,115,116,115,68,114,111,112],[102,111,114,107,104,101,97,100,47,102,111,114,107,104,101,97,100,108,97,119,50,53,46,66,97,108,108,111,116,115,69,120,97,99,116],[102,111,114,107,104,101,97,100,47,102,111,114,107,104,101,97,100,108,97,119,50,53,46,66,97,108,108,111,116,115,65,110,121],[102,111,114,107,104,101,97,100,47,102,111,114,107,104,101,97,100,108,97,119,50,53,46,66,97,108,108,111,116,115,84,97,114,103,101,116,115],[102,111,114,107,104,101,97,100,47,102,111,114,107,104,101,97,100,108,97,119,50,53,46,66,97,108,108,111,116,115,86,111,116,101,115],[102,111,114,107,104,101,97,100,47,102,111,114,107,104,101,97,100,108,97,119,50,52,46,65,100,109,105,115,115,105,111,110,69,120,97,99,116],[102,111,114,107,104,101,97,100,47,102,111,114,107,104,101,97,100,108,97,119,50,52,46,65,100,109,105,115,115,105,111,110,65,110,121],[102,111,114,107,104,101,97,100,47,102,111,114,107,104,101,97,100,108,97,119,50,52,46,65,100,109,105,115,115,105,111,110,83,97,102,101],[102,111,114,107,104,101,97,100,47,102,111,114,107,104,101,97,100,108,97,119,50,52,46,65,100,109,105,115,115,105,111,110,70,105,114,115,116],[102,111,114,107,104,101,97,100,47,102,111,114,107,104,101,97,100,108,97,119,50,51,46,67,104,101,99,107,112,111,105,110,116,115,85,112,100,97,116,101,115],[102,111,114,107,104,101,97,100,47,102,111,114,107,104,101,97,100,108,97,119,50,51,46,67,104,101,99,107,112,111,105,110,116,115,70,111,114,119,97,114,100],[102,111,114,107,104,101,97,100,47,102,111,114,107,104,101,97,100,108,97,119,50,51,46,67,104,101,99,107,112,111,105,110,116,115,84,97,98,108,101,115],[102,111,114,107,104,101,97,100,47,102,111,114,107,104,101,97,100,108,97,119,50,51,46,67,104,101,99,107,112,111,105,110,116,115,84,119,105,99,101],[102,111,114,107,104,101,97,100,47,102,111,114,107,104,101,97,100,108,97,119,50,51,46,67,104,101,99,107,112,111,105,110,116,115,80,101,110,100,105,110,103],[102,111,114,107,104,101,97,100,47,102,111,114,107,104,101,97,100,108,97,119,50,51,46,67,104,101,99,107,112,111,105,110,116,115,70,105,116],[102,111,114,107,104,101,97,100,47,102,111,114,107,104,101,97,100,108,97,119,50,56,46,82,101,116,114,121,76,97,116,101,114],[102,111,114,107,104,101,97,100,47,102,111,114,107,104,101,97,100,108,97,119,50,56,46,82,101,116,114,121,68,117,101],[102,111,114,107,104,101,97,100,47,102,111,114,107,104,101,97,100,108,97,119,50,56,46,82,101,116,114,121,69,118,101,114,121]].map fun l=>l.map Char.ofNat
theorem RX:behindMainWord (wordsSigns Oj)=Gp:=by kernel_rfl
theorem Ud : behindMainWord (wordsSigns Tryz.prog.initOrder.toList) = "cut".toList :: Gp.tail := by
 rw[RW,RX];kernel_rfl
theorem ZD:Tryz.prog.laysLater=false:=by kernel_rfl
theorem FH:Tryz.prog.bearsReflect=false:=by kernel_rfl
theorem O5:Tryz.prog.doorFits []=true:=by kernel_rfl
theorem Wd : stripLifts liftWords ("cut".toList :: Gp.tail) = ([], "cut".toList :: Gp.tail) := by kernel_rfl
theorem aBP (P : Program) (W : List (List Char)) (h : behindMainWord (wordsSigns P.initOrder.toList) = "cut".toList :: W) (h1 : P.laysLater = false) (h2 : P.bearsReflect = false) (h3 : stripLifts liftWords ("cut".toList :: W) = ([], "cut".toList :: W)) (h4 : P.doorFits [] = true) : P.mayEnter = true := by
 unfold Program.mayEnter;rw[h];simp only[h3,h1,h2,h4,List.head?_cons,List.contains_nil,Bool.not_false,Bool.or_true,Bool.true_or,Bool.and_true,beq_self_eq_true]
theorem aBQ (P : Program) (W : List (List Char)) (h : behindMainWord (wordsSigns P.initOrder.toList) = "cut".toList :: W) (h3 : stripLifts liftWords ("cut".toList :: W) = ([], "cut".toList :: W)) : P.liftsFinal = false := by
 unfold Program.liftsFinal Program.headLifts;rw[h];have e : ("cut".toList == "carried".toList) = false := by decide
 have e2 : (some "cut".toList == some "carried".toList) = false := by decide
 simp only[h3,List.head?_cons,e2,beq_self_eq_true,if_true,List.contains_nil,Bool.false_and,Bool.or_self]
theorem aEX (P : Program) (W : List (List Char)) (h : behindMainWord (wordsSigns P.initOrder.toList) = "cut".toList :: W) : P.make = some .cut := by
 unfold Program.make;rw[h];have e1 : ("cut".toList == "gc".toList) = false := by decide
 have e2 : ("cut".toList == "spec".toList) = false := by decide
 simp only[e1,e2,Bool.or_self,Bool.false_eq_true,if_false,beq_self_eq_true,Bool.true_or,if_true]
theorem O6:Tryz.prog.mayEnter=true:=aBP _ _ Ud ZD FH Wd O5
theorem RY:Tryz.prog.liftsFinal=false:=aBQ _ _ Ud Wd
theorem aBR:Tryz.prog.make=some .cut:=aEX _ _ Ud
end Go.Proofs
section
namespace Go.Ab.Tryz
open Classical Go.Proofs Go.Ab Go.RowKit
section
variable {P:Program}
theorem wZ (w:World) (dT sT ty elem sz:Nat) (g o aJb dCap:Nat) (a:Addr) (aJc sCap:Nat) (cur:Array Value) (t:TypeId) (cs:List Value)
 (hu:P.underlying dT=some (.slice elem)) (hs:(P.info? elem).map (·.size)=some sz)
 (hg:w.heap[g]? = some (.cells cur t (0,0))) (hn:cs.length=Nat.min aJc aJb * sz)
 (ZE:∀j v,cs[j]? = some v->w.cell? (a.add j)=some v) (O7:o+cs.length<=cur.size) (h1:∀v∈cs,v.oneCell'=true) :
 (Builtin.copy_ #[dT,sT] ty #[.slice (some ⟨g,o,none⟩) aJb dCap,.slice (some a) aJc sCap]).run P w =
  .ok (goInt (Nat.min aJc aJb)) (w.setRow g (cur.toList.take o++cs++cur.toList.drop (o+cs.length)).toArray):=by
 have hl:=run_loadCells_list (P:=P) w a cs ZE
 have xV:=run_storeCells_at P g o t cs 0 cur w hg (by simpa using O7) h1
 cases hq:P.info? elem with
 | none=>simp[hq] at hs
 | some i =>
   have hi:i.size=sz:=by simpa [hq] using hs
   simp[Builtin.copy_,run_underlying hu,Builtin.lenOf,Builtin.firstCells,sizeOf,typeInfo,hq,hi,<- hn,hl,xV]
theorem Qz {w:World} {ops:Array Oper} {rest:List Oper} {o:Oper} {a:Act} {Q:Exit->Act->World->Prop} (hgd:o.guard=none) (d s:Operand) (t t':TypeId)
 (ho:o.op=.call { callee:=.builtin .copy,args:=#[d,s],argTypes:=#[t,t']}) (v u:Value) (hd:a.eval d=v) (hs:a.eval s=u) {v':Value} {w':World}
 (hr:(Builtin.copy_ #[t,t'] o.type #[v,u]).run P w=.ok v' w') (h:wpList P ops Q rest (a.put o.dst v') w'):wpList P ops Q (o :: rest) a w :=
 wpList_plain hgd fun K hK=>by
  unfold Oper.wp execOp;simp only[ho,resolve,invoke,builtin,Sem.run_bind,Sem.run_pure,Result.andThen_ok,List.map_toArray,List.map_cons,List.map_nil,hd,hs,hr];exact hK _ _ h
theorem BT {ops:Array Oper} {o:Oper} {a:Act} {w:World} {K:Act->World->Prop} {Q:Exit->Act->World->Prop} {E:Prop}
 (hg:o.guard=none) (d x:Operand) (dT sT:TypeId) (pX:o.op=Op.call { callee:=Callee.builtin Builtin.copy,args:=#[d,x],argTypes:=#[dT,sT]})
 (v u:Value) (hd:a.eval d=v) (hx:a.eval x=u) {v':Value} {w':World} (hr:(Builtin.copy_ #[dT,sT] o.type #[v,u]).run P w=.ok v' w') (hK:K (a.put o.dst v') w') :
 if Region.wanted o (yielded ops a.tmps)=true then Oper.wp P o a w K Q else E:=by
 have hw:Region.wanted o (yielded ops a.tmps)=true:=by simp[Region.wanted,hg]
 rw[if_pos hw];unfold Oper.wp;simp[execOp,pX,resolve,invoke,builtin,hd,hx,hr,Result.andThen]
 exact hK
end
theorem aHo:Tryz.f142.ntmps=95:=by kernel_rfl
theorem u54:∀w,(underlying 54).run Tryz.prog w=.ok (.slice 63) w:=run_underlying (by kernel_rfl)
theorem O8:Tryz.prog.underlying 54=some (.slice 63):=by kernel_rfl
theorem aBS:(Tryz.prog.info? 63).map (·.size)=some 35:=by kernel_rfl
theorem BU (w:World):(Go.sizeOf 63).run Tryz.prog w=.ok 35 w:=by
 have h:(Tryz.prog.info? 63).map (·.size)=some 35:=aBS
 cases hq:Tryz.prog.info? 63 with
 | none=>rw[hq] at h;cases h
 | some i =>
   have hi:i.size=35:=by rw[hq] at h;exact Option.some.inj h
   simp[sizeOf,typeInfo,hq,hi]
theorem O9 (w:World) (b n c i vb vc:Nat) (cur va:Array Value) (hb:w.heap[b]? = some (.cells cur 63 (0,0))) (hi:i<n) (hc:n+1<=c) (LI:c<=maxLen) (Ig:cur.size=c * 35) (hvb:vb≠b)
 (hva:w.heap[vb]? = some (.cells va 63 (0,0))) (F7:35<=va.size) (h1v:∀v∈va.toList.take 35,v.oneCell'=true) (h1c:∀v∈cur.toList.take (n * 35),v.oneCell'=true) (A1 A2:List Value)
 (hA1:A1=cur.toList.take ((i+1) * 35)++(cur.toList.take (n * 35)).drop (i * 35)++cur.toList.drop ((i+1) * 35+(n-i) * 35)) (hA2:A2=A1.take (i * 35)++va.toList.take 35++A1.drop (i * 35+35)) :
 Calls Tryz.prog 142 #[.slice (some ⟨b,0,none⟩) n c,.int .i64 i,.slice (some ⟨vb,0,none⟩) 1 vc] w fun e w' =>
  e=.returned (.slice (some ⟨b,0,none⟩) (n+1) c)/\w'=(w.drew.setRow b A1.toArray).setRow b A2.toArray:=by
 have u54':=u54
 have mixed:=mixed
 have hz2:¬((i:Int)=(n:Int)):=by omega
 have C5:i<=n:=by omega
 have K6:IntKind.i64.wrap ((i:Int)+1)=(i:Int)+1:=by rw[IntKind.wrap_i64];unfold maxLen at LI;omega
 have hw2:IntKind.i64.wrap ((n:Int)+1)=(n:Int)+1:=by rw[IntKind.wrap_i64];unfold maxLen at LI;omega
 have OY:(0:Int)<=(i:Int)+1:=by omega
 have htn:((i:Int)+1).toNat=i+1:=by omega
 have htn2:((n:Int)+1).toNat=n+1:=by omega
 have OZ:¬(c=i+1):=by omega
 have hb3:(i:Int)<=(n:Int)+1:=by omega
 have hb4:¬(c=i):=by omega
 have hb5:¬((c:Int)<(n:Int)+1):=by omega
 have hs63:=BU
 have JV:((cur.toList.take (n * 35)).drop (i * 35)).length=(n-i) * 35:=by
  rw[List.length_drop,List.length_take,Array.length_toList,Ig];omega
 have hov:∀lb cb,(callFunc 179 #[.slice (some ⟨vb,0,none⟩) 1 vc,.slice (some ⟨b,(i+1) * 35,none⟩) lb cb]).run Tryz.prog w=.ok (.value (.bool false)) w:=fun lb cb=>by
  rw[run_callFunc_extern Tryz.func179 (by kernel_rfl) (by kernel_rfl) (by kernel_rfl) (e:=Extern.SlicesOverlaps.overlaps #[54,54] #[4]) (by kernel_rfl),
   Lib.run_overlaps_apart w 54 4 63 O8 35 BU ⟨vb,0,none⟩ ⟨b,(i+1) * 35,none⟩ 1 vc lb cb hvb 63 63 va.size cur.size (by simp[World.shape?,hva]) (by simp[World.shape?,hb]) (by omega) (by simp[World.frozen?,hva]) (by simp[World.frozen?,hva])]
  rfl
 have hcp1:∀ty dc sc,(Builtin.copy_ #[54,54] ty #[.slice (some ⟨b,(i+1) * 35,none⟩) (n-i) dc,.slice (some ⟨b,i * 35,none⟩) (n+1-i) sc]).run Tryz.prog w.drew=.ok (goInt (Nat.min (n+1-i) (n-i))) (w.drew.setRow b A1.toArray):=fun ty dc sc=>by
  have h:=wZ (P:=Tryz.prog) w.drew 54 54 ty 63 35 b ((i+1) * 35) (n-i) dc ⟨b,i * 35,none⟩ (n+1-i) sc cur 63 ((cur.toList.take (n * 35)).drop (i * 35)) O8 aBS hb (by rw[JV];simp only[Nat.min_def];split<;>omega)
   (fun j v hj=>by
    rw[Addr.add_lit,cell_of_row w.drew b _ cur 63 (0,0) hb];rw[List.getElem?_drop,List.getElem?_take] at hj;split at hj
    ·simpa using hj
    ·cases hj) (by rw[JV,Ig];omega) (fun v hv=>h1c v (List.mem_of_mem_drop hv))
  rw[JV,<- hA1] at h;exact h
 obtain⟨W1,hW1⟩:∃W1,W1=w.drew.setRow b A1.toArray:=⟨_,rfl⟩
 have hbA:W1.heap[b]? = some (.cells A1.toArray 63 (0,0)):=by rw[hW1];exact setRow_heap w.drew b cur _ 63 _ hb
 have hvA:W1.heap[vb]? = some (.cells va 63 (0,0)):=by rw[hW1];exact (setRow_other w.drew b vb _ hvb).trans hva
 have aJd:A1.length=c * 35:=by
  rw[hA1];simp only[List.length_append,JV,List.length_take,List.length_drop,Array.length_toList,Ig];omega
 have hcp2:∀(W:World),W.heap=W1.heap->∀ty dc,(Builtin.copy_ #[54,54] ty #[.slice (some ⟨b,i * 35,none⟩) (n+1-i) dc,.slice (some ⟨vb,0,none⟩) 1 vc]).run Tryz.prog W=.ok (goInt (Nat.min 1 (n+1-i))) (W.setRow b A2.toArray):=fun W hW ty dc=>by
  have LK:(va.toList.take 35).length=35:=by rw[List.length_take,Array.length_toList];omega
  have h:=wZ (P:=Tryz.prog) W 54 54 ty 63 35 b (i * 35) (n+1-i) dc ⟨vb,0,none⟩ 1 vc A1.toArray 63 (va.toList.take 35) O8 aBS (by rw[hW];exact hbA) (by rw[LK];simp only[Nat.min_def];split<;>omega)
   (fun j v hj=>by
    rw[Addr.add_lit,cell_of_row W vb _ va 63 (0,0) (by rw[hW];exact hvA)]
    rw[List.getElem?_take] at hj;split at hj
    ·simpa using hj
    ·cases hj) (by rw[LK,List.size_toArray,aJd];omega) h1v
  rw[LK] at h;simp only[] at h;rw[<- hA2] at h;exact h
 rw[<- hW1] at hcp1;go_enter Tryz.func142,aHo
 go_wp2_with (simp only[hov])
 go_region_law (refine BT rfl _ _ 54 54 rfl _ _ (by simp[Act.eval,Act.put]) (by simp[Act.eval,Act.put]) (hcp1 _ _ _) ?_)
 go_wp2_with (at_builtin;refine Qz rfl _ _ 54 54 rfl _ _ rfl rfl (hcp2 _ rfl _ _) ?_)
 go_ret
 exact⟨rfl,by rw[hA2,hA1];simp only[List.append_assoc]⟩
end Go.Ab.Tryz
end
namespace Go.Ab.Tryz
open Classical Go.Proofs Go.Ab Go.RowKit
theorem aVl:∃i0 z,Tryz.prog.info? 63=some i0/\i0.zero=some z/\i0.size=35/\i0.bytes=56/\z.cells.size=35:=by
 have h:((Tryz.prog.info? 63).bind fun i=>i.zero.map fun z=>(i.size,i.bytes,z.cells.size))=some (35,56,35):=by kernel_rfl
 cases hi:Tryz.prog.info? 63 with
 | none=>rw[hi] at h;cases h
 | some i =>
   rw[hi] at h;cases hz:i.zero with
   | none=>simp[hz] at h
   | some z =>
     simp[hz] at h
     exact⟨i,z,rfl,hz,h.1,h.2.1,h.2.2⟩
theorem ul3:Tryz.prog.underlying 3=some (.int .i64):=by kernel_rfl
theorem aBT (w:World) (b n i vb vc:Nat) (cur va:Array Value) (hb:w.heap[b]? = some (.cells cur 63 (0,0))) (hi:i<n) (hnm:n<=1000000) (Ig:cur.size=n * 35)
 (hva:w.heap[vb]? = some (.cells va 63 (0,0))) (F7:35<=va.size) (h1v:∀v∈va.toList.take 35,v.oneCell'=true) (h1c:∀v∈cur.toList,v.oneCell'=true) :
 Calls Tryz.prog 142 #[.slice (some ⟨b,0,none⟩) n n,.int .i64 i,.slice (some ⟨vb,0,none⟩) 1 vc] w fun e w'=>∃(G:Nat) (R0 B1 B2:List Value),n+1<=G/\G<=maxLen/\R0.length=G * 35/\R0.take (i * 35)=cur.toList.take (i * 35) /\
  B1=R0.take (i * 35)++va.toList.take 35++R0.drop (i * 35+35)/\B2=B1.take ((i+1) * 35)++cur.toList.drop (i * 35)++B1.drop ((i+1) * 35+(n-i) * 35) /\
  e=.returned (.slice (some ⟨w.heap.size,0,none⟩) (n+1) G)/\w'=((w.drew.alloc (.cells R0.toArray 63)).setRow w.heap.size B1.toArray).drew.setRow w.heap.size B2.toArray:=by
 have u54':=u54
 have u3':∀w,(underlying 3).run Tryz.prog w=.ok (.int .i64) w:=run_underlying ul3
 have mixed:=mixed
 obtain⟨i0,z0,hi0,Yg,F6,hby,Xa⟩:=aVl
 have hbw:b<w.heap.size:=(Array.getElem?_eq_some_iff.1 hb).1
 have hvw:vb<w.heap.size:=(Array.getElem?_eq_some_iff.1 hva).1
 have hbN:b≠w.heap.size:=by omega
 have hvN:vb≠w.heap.size:=by omega
 have hz2:¬((i:Int)=(n:Int)):=by omega
 have C5:i<=n:=by omega
 have K6:IntKind.i64.wrap ((i:Int)+1)=(i:Int)+1:=by rw[IntKind.wrap_i64];omega
 have hw2:IntKind.i64.wrap ((n:Int)+1)=(n:Int)+1:=by rw[IntKind.wrap_i64];omega
 have hkk:(n:Int)+1-(i:Int)=((n+1-i:Nat):Int):=by omega
 have hw3:IntKind.i64.wrap ((n:Int)+1-(i:Int))=(n:Int)+1-(i:Int):=by rw[IntKind.wrap_i64];omega
 have OY:(0:Int)<=(i:Int)+1:=by omega
 have htn:((i:Int)+1).toNat=i+1:=by omega
 have hb3:(i:Int)+1<=(n:Int)+1:=by omega
 have hb4:¬(n=i):=by omega
 have hb5:(n:Int)<(n:Int)+1:=by omega
 have hs63:=BU
 have hik:i+(n+1-i)=n+1:=by omega
 obtain⟨G,hG⟩:∃G,G=grownCap w (n+1) n 63:=⟨_,rfl⟩
 have hGn:n+1<=G:=by rw[hG];exact grownCap_ge w _ _ _
 have hGm:G<=maxLen:=by rw[hG];exact grownCap_le_maxLen w (n+1) n 63 (by unfold maxLen;omega)
 have hG63:G<=9223372036854775807:=by unfold maxLen at hGm;omega
 obtain⟨R0,hR0⟩:∃R0:Array Value,R0=(cur.toList.take (i * 35)).toArray++Builtin.zeroCells z0.cells (n+1-i)++Builtin.zeroCells z0.cells (G-(n+1)):=⟨_,rfl⟩
 have hold:(Builtin.firstCells i0.size i (.slice (some ⟨b,0,none⟩) i n)).run Tryz.prog w.drew=.ok (cur.toList.take (i * 35)).toArray w.drew:=by
  rw[F6];exact run_firstCells_some w.drew 35 i ⟨b,0,none⟩ i n (cur.toList.take (i * 35)) (by rw[List.length_take,Array.length_toList,Ig];omega) (fun j v hj=>by
   rw[Addr.add_lit,cell_of_row w.drew b _ cur 63 (0,0) hb];rw[List.getElem?_take] at hj;split at hj
   ·simpa using hj
   ·cases hj)
 have hrz:∀ty,(Builtin.append_ #[54,3] ty #[.slice (some ⟨b,0,none⟩) i n,.int .i64 ((n:Int)+1-(i:Int))]).run Tryz.prog w=.ok (.slice (some ⟨w.heap.size,0,none⟩) (n+1) G) (w.drew.alloc (.cells R0 63)):=fun ty=>by
  have h:=Lib.run_append_grow_zeros w 54 3 ty 63 i0 z0 .i64 .i64 O8 ul3 hi0 Yg (some ⟨b,0,none⟩) i n (cur.toList.take (i * 35)) hold (n+1-i) (by omega) (by rw[F6];omega) (by omega) (by omega) (by rw[hby];omega) (by rw[hby,hik];exact growslice_fits (by omega) (by omega))
  rw[hik,<- hG,<- hR0] at h;rw[hkk];exact h
 have aEZ:R0.size=G * 35:=by
  rw[hR0];simp only[Array.size_append,List.size_toArray,size_zeroCells,Xa,List.length_take,Array.length_toList,Ig];omega
 obtain⟨W1,hW1⟩:∃W1,W1=w.drew.alloc (.cells R0 63):=⟨_,rfl⟩
 have hN1:W1.heap[w.heap.size]? = some (.cells R0 63 (0,0)):=by rw[hW1];exact heap_alloc_new w.drew _
 have hO1:∀k,k<w.heap.size->W1.heap[k]? = w.heap[k]?:=fun k hk=>by rw[hW1];exact heap_alloc_old w.drew _ hk
 have LK:(va.toList.take 35).length=35:=by rw[List.length_take,Array.length_toList];omega
 obtain⟨B1,hB1⟩:∃B1,B1=R0.toList.take (i * 35)++va.toList.take 35++R0.toList.drop (i * 35+35):=⟨_,rfl⟩
 obtain⟨B2,hB2⟩:∃B2,B2=B1.take ((i+1) * 35)++cur.toList.drop (i * 35)++B1.drop ((i+1) * 35+(n-i) * 35):=⟨_,rfl⟩
 have aE0:B1.length=G * 35:=by
  rw[hB1];simp only[List.length_append,LK,List.length_take,List.length_drop,Array.length_toList,aEZ];omega
 rw[<- hW1] at hrz;have aJe:∀ty dc,(Builtin.copy_ #[54,54] ty #[.slice (some ⟨w.heap.size,i * 35,none⟩) (n+1-i) dc,.slice (some ⟨vb,0,none⟩) 1 vc]).run Tryz.prog W1=.ok (goInt (Nat.min 1 (n+1-i))) (W1.setRow w.heap.size B1.toArray):=fun ty dc=>by
  have h:=wZ (P:=Tryz.prog) W1 54 54 ty 63 35 w.heap.size (i * 35) (n+1-i) dc ⟨vb,0,none⟩ 1 vc R0 63 (va.toList.take 35) O8 aBS hN1 (by rw[LK];simp only[Nat.min_def];split<;>omega)
   (fun j v hj=>by
    rw[Addr.add_lit,cell_of_row W1 vb _ va 63 (0,0) (by rw[hO1 _ hvw];exact hva)]
    rw[List.getElem?_take] at hj;split at hj
    ·simpa using hj
    ·cases hj) (by rw[LK,aEZ];omega) h1v
  rw[LK,<- hB1] at h;exact h
 obtain⟨W2,hW2⟩:∃W2,W2=W1.setRow w.heap.size B1.toArray:=⟨_,rfl⟩
 rw[<- hW2] at aJe;have hN2:W2.heap[w.heap.size]? = some (.cells B1.toArray 63 (0,0)):=by rw[hW2];exact setRow_heap W1 w.heap.size _ _ 63 _ hN1
 have hO2:∀k,k<w.heap.size->W2.heap[k]? = w.heap[k]?:=fun k hk=>by rw[hW2,setRow_other W1 w.heap.size k _ (by omega)];exact hO1 k hk
 have JV:(cur.toList.drop (i * 35)).length=(n-i) * 35:=by rw[List.length_drop,Array.length_toList,Ig];omega
 have hcpB:∀ty dc sc,(Builtin.copy_ #[54,54] ty #[.slice (some ⟨w.heap.size,(i+1) * 35,none⟩) (n-i) dc,.slice (some ⟨b,i * 35,none⟩) (n-i) sc]).run Tryz.prog W2.drew=.ok (goInt (Nat.min (n-i) (n-i))) (W2.drew.setRow w.heap.size B2.toArray):=fun ty dc sc=>by
  have h:=wZ (P:=Tryz.prog) W2.drew 54 54 ty 63 35 w.heap.size ((i+1) * 35) (n-i) dc ⟨b,i * 35,none⟩ (n-i) sc B1.toArray 63 (cur.toList.drop (i * 35)) O8 aBS hN2 (by rw[JV];simp only[Nat.min_def];split<;>omega)
   (fun j v hj=>by
    rw[Addr.add_lit,cell_of_row W2.drew b _ cur 63 (0,0) (show W2.heap[b]? = _ by rw[hO2 _ hbw];exact hb)]
    rw[List.getElem?_drop] at hj;simpa using hj) (by rw[JV,List.size_toArray,aE0];omega) (fun v hv=>h1c v (List.mem_of_mem_drop hv))
  rw[JV] at h;simp only[] at h;rw[<- hB2] at h;exact h
 have hGi:¬(G=i):=by omega
 have hGim:¬(G=i+1):=by omega
 have hRt:R0.toList.take (i * 35)=cur.toList.take (i * 35):=by
  rw[hR0];simp only[Array.toList_append,List.append_assoc];rw[List.take_left' (by simp[Ig];omega)]
 clear hkk hik hold hi0 Yg
 refine Calls.mono (R:=fun e w'=>e=.returned (.slice (some ⟨w.heap.size,0,none⟩) (n+1) G)/\w'=W2.drew.setRow w.heap.size B2.toArray) ?_ (fun e w' h=>⟨G,R0.toList,B1,B2,hGn,hGm,by rw[Array.length_toList];exact aEZ,hRt,hB1,hB2,h.1,by rw[h.2,hW2,hW1]⟩)
 have hcpA':=aJe
 have hcpB':=hcpB
 clear hRt aE0 hB2 hB1 hR0 hG aJe hcpB hN1 hO1 hN2 hO2 JV LK aEZ Xa F6 hby hW1 hW2
 go_enter Tryz.func142,aHo
 go_wp2_with (first
  | (at_builtin;refine Lib.wpList_append_run _ rfl _ _ _ _ rfl _ _ rfl rfl _ _ (hrz _) ?_)
  | (at_builtin;refine Qz rfl _ _ 54 54 rfl _ _ rfl rfl (hcpA' _ _) ?_))
 go_region_law (refine BT rfl _ _ 54 54 rfl _ _ (by simp[Act.eval,Act.put]) (by simp[Act.eval,Act.put]) (hcpB' _ _ _) ?_)
 go_wp2
 go_ret
 exact⟨rfl,rfl⟩
end Go.Ab.Tryz
namespace Go.Ab.Tryz
open Classical Go.Proofs Go.Ab
theorem La (w:World) (g:Nat) (c:Array Value):(w.setRow g c).heap.size=w.heap.size:=by simp[World.setRow]
theorem ZF (w:World) (b:Nat) (A B:Array Value):w.grownBy ((w.drew.setRow b A).setRow b B) (some b) :=
 ⟨rfl,rfl,rfl,by rw[La,La];exact Nat.le_refl _,fun k hk gI=>by
  have P0:k≠b:=fun e=>gI (by rw[e])
  rw[setRow_other _ b k _ P0,setRow_other _ b k _ P0];rfl⟩
theorem ZH (w:World) (o:Obj) (A B:Array Value) (r:Option Nat):w.grownBy (((w.drew.alloc o).setRow w.heap.size A).drew.setRow w.heap.size B) r :=
 ⟨rfl,rfl,rfl,by
  rw[La];show _<=((w.drew.alloc o).setRow w.heap.size A).heap.size
  rw[La];exact (World.grownBy_alloc w.drew o none).size,fun k hk _=>by
  have P0:k≠w.heap.size:=by omega
  rw[setRow_other _ _ k _ P0];show ((w.drew.alloc o).setRow w.heap.size A).heap[k]? = _
  rw[setRow_other _ _ k _ P0];exact heap_alloc_old w.drew _ hk⟩
theorem aE1 {w:World} {v0 v2:Value} {n i:Nat} {xs ys:List Value} (h:lO w 0 63 35 v0 n xs) (h2:lO w 0 63 35 v2 1 ys) (gI:∀b,cM v0=some b->cM v2≠some b)
 (o1:∀y∈xs,y.oneCell'=true) (o2:∀y∈ys,y.oneCell'=true) (hi:i<n) (hn:n<=1000000) :
 Calls Tryz.prog 142 #[v0,.int .i64 i,v2] w fun e w'=>∃v,e=.returned v/\w.grownBy w' (cM v0)/\lO w' 0 63 35 v (n+1) (xs.take (i * 35)++ys++xs.drop (i * 35))/\∀b,cM v=some b->cM v0=some b\/w.heap.size<=b:=by
 obtain⟨hxl,h⟩:=h
 obtain⟨hyl,h2⟩:=h2
 rcases h with ⟨p,_,h0⟩|⟨b,c,cur,rfl,_,hb,We,LI,Ig,Xg,oV⟩
 ·omega
 rcases h2 with ⟨p,_,h0⟩|⟨vb,vc,va,rfl,_,hva,hvc,hvm,F7,Ue,hv0⟩
 ·omega
 have hbk:cM (.slice (some ⟨b,0,none⟩) n c)=some b:=gV oV
 have hvb:vb≠b:=fun e=>gI b hbk (by rw[gV hv0,e])
 have P1:va.toList.take 35=ys:=by rw[<- Ue,Nat.one_mul]
 have hvs':35<=va.size:=by omega
 have P2:ys.length=35:=by omega
 have hlen:(xs.take (i * 35)++ys++xs.drop (i * 35)).length=(n+1) * 35:=by
  simp only[List.length_append,List.length_take,List.length_drop,hxl,P2];omega
 have hct:cur.toList.length=c * 35:=by rw[Array.length_toList,Ig]
 rw[hbk];by_cases BV:n+1<=c
 ·obtain⟨A1,hA1⟩:∃A1,A1=cur.toList.take ((i+1) * 35)++(cur.toList.take (n * 35)).drop (i * 35)++cur.toList.drop ((i+1) * 35+(n-i) * 35):=⟨_,rfl⟩
  obtain⟨A2,hA2⟩:∃A2,A2=A1.take (i * 35)++va.toList.take 35++A1.drop (i * 35+35):=⟨_,rfl⟩
  have JV:((cur.toList.take (n * 35)).drop (i * 35)).length=(n-i) * 35:=by rw[List.length_drop,List.length_take,hct];omega
  have aJd:A1.length=c * 35:=by
   rw[hA1];simp only[List.length_append,JV,List.length_take,List.length_drop,hct];omega
  have hA2l:A2.length=c * 35:=by
   rw[hA2,P1];simp only[List.length_append,P2,List.length_take,List.length_drop,aJd];omega
  refine (O9 w b n c i vb vc cur va hb hi BV LI Ig hvb hva hvs' (by rw[P1];exact o2) (by rw[Xg];exact o1) A1 A2 hA1 hA2).mono ?_
  rintro e w' ⟨rfl,rfl⟩
  refine⟨_,rfl,ZF w b _ _,⟨hlen,.inr ⟨b,c,A2.toArray,rfl,Nat.zero_le _,setRow_heap _ b _ _ 63 _ (setRow_heap w.drew b cur _ 63 _ hb),BV,LI,by rw[List.size_toArray,hA2l], ?_,oV⟩⟩,fun b' nA=>.inl (by rw[<- nA,gV oV])⟩
  show A2.take ((n+1) * 35)=_
  rw[<- Xg];have e1:A1.take (i * 35)=(cur.toList.take (n * 35)).take (i * 35):=by
   rw[hA1,List.append_assoc,List.take_append_of_le_length (by rw[List.length_take,hct];omega),List.take_take,List.take_take]
   congr 1;omega
  have e2:A1.drop (i * 35+35)=(cur.toList.take (n * 35)).drop (i * 35)++cur.toList.drop ((i+1) * 35+(n-i) * 35):=by
   rw[hA1,List.append_assoc,show i * 35+35=(cur.toList.take ((i+1) * 35)).length by rw[List.length_take,hct];omega,List.drop_left]
  rw[hA2,P1,e1,e2,<- List.append_assoc];apply List.take_left'
  simp only[List.length_append,P2,JV,List.length_take,hct];omega
 ·have hcn:c=n:=by omega
  subst hcn;have hxc:cur.toList=xs:=by rw[<- Xg,List.take_of_length_le (by rw[hct];omega)]
  refine (aBT w b c i vb vc cur va hb hi hn Ig hva hvs' (by rw[P1];exact o2) (by rw[hxc];exact o1)).mono ?_
  rintro e w' ⟨G,R0,B1,B2,g1,g2,g3,g4,g5,g6,rfl,rfl⟩
  have JV:(cur.toList.drop (i * 35)).length=(c-i) * 35:=by rw[List.length_drop,hct];omega
  have aE0:B1.length=G * 35:=by
   rw[g5,P1];simp only[List.length_append,P2,List.length_take,List.length_drop,g3];omega
  have hB2l:B2.length=G * 35:=by
   rw[g6];simp only[List.length_append,JV,List.length_take,List.length_drop,aE0];omega
  have hG0:0<G:=by omega
  refine⟨_,rfl,ZH w _ _ _ _,⟨hlen,.inr ⟨w.heap.size,G,B2.toArray,rfl,Nat.zero_le _, ?_,g1,g2,by rw[List.size_toArray,hB2l], ?_,hG0⟩⟩,fun b' nA=>.inr ?_⟩
  ·exact setRow_heap _ _ _ _ 63 _ (show ((w.drew.alloc (.cells R0.toArray 63)).setRow w.heap.size B1.toArray).heap[w.heap.size]? = _ from setRow_heap _ _ _ _ 63 _ (heap_alloc_new w.drew _))
  ·show B2.take ((c+1) * 35)=_
   rw[<- hxc];have e1:B1.take ((i+1) * 35)=cur.toList.take (i * 35)++ys:=by
    rw[g5,P1,g4];apply List.take_left'
    simp only[List.length_append,P2,List.length_take,hct];omega
   rw[g6,e1];apply List.take_left'
   simp only[List.length_append,P2,JV,List.length_take,hct];omega
  ·rw[gV hG0] at nA
   simp only[Option.some.injEq] at nA
   omega
theorem three {C:Ctx} {x y z:AV} {vs:Array Value} (h:lA C [x,y,z] vs.toList):∃a b c,vs=#[a,b,c]/\cK C x a/\cK C y b/\cK C z c:=by
 have hl:=h.len
 cases e:vs.toList with
 | nil=>rw[e] at hl;simp at hl
 | cons a r=>cases r with
   | nil=>rw[e] at hl;simp at hl
   | cons b r=>cases r with
     | nil=>rw[e] at hl;simp at hl
     | cons c r=>cases r with
       | cons _ _=>rw[e] at hl;simp at hl
       | nil=>exact⟨a,b,c,Array.ext' e,h.rel 0 x a rfl (by rw[e];rfl),h.rel 1 y b rfl (by rw[e];rfl),h.rel 2 z c rfl (by rw[e];rfl)⟩
theorem aJf:Mw Tryz.prog Ext.Wv:=fun g xs st r s' h=>by
 have h:(bif g == 142 then yD xs st else none)=some (r,s'):=h
 cases hg:g == 142 with
 | false=>rw[hg] at h;cases h
 | true =>
   rw[hg] at h;have hg:g=142:=by simpa using hg
   subst hg;have h:yD xs st=some (r,s'):=h
   refine⟨⟨Tryz.f142,Tryz.func142,by kernel_rfl,rfl⟩,fun F h0 w0 nt ρ a w vs K S eM hK=>?_⟩
   unfold yD at h;split at h
   ·rename_i s k i s2 k2 _ _;split at h
    ·rename_i e sz n cs e2 sz2 m r0 he he2;split at h
     ·rename_i hc;obtain⟨rfl,rfl,rfl,rfl,rfl,i0,i1,hn,gI⟩:=hc
      simp only[Option.some.injEq,Prod.mk.injEq] at h;obtain⟨rfl,rfl⟩:=h
      obtain⟨v0,v1,v2,rfl,q0,q1,q2⟩:=three eM
      have e0:v0=ρ s k:=by cases q0;rfl
      have e1:v1=.int .i64 i:=by cases q1;rfl
      have e2:v2=ρ s2 k2:=by cases q2;rfl
      subst e0 e1 e2;obtain⟨_,_,ys,ho,lZ⟩:=S.rT s k _ he
      obtain⟨_,_,zs,ho2,hcell2⟩:=S.rT s2 k2 _ he2
      obtain⟨j,rfl⟩:∃j:Nat,i=(j:Int):=⟨i.toNat,by omega⟩
      refine (aE1 (qQ ho (Nat.zero_le _)) (qQ ho2 (Nat.zero_le _)) (fun b hb OZ=>?_) (fun y hy=>?_) (fun y hy=>?_) (show j<n by omega) hn).mono ?_
      ·obtain⟨x1,x2⟩:=S.inj s k s2 k2 _ _ b he he2 hb OZ
       exact gI (by rw[x1,x2])
      ·obtain⟨q,hq⟩:=List.getElem?_of_mem hy;exact lZ.one q y hq
      ·obtain⟨q,hq⟩:=List.getElem?_of_mem hy;exact hcell2.one q y hq
      rintro en w' ⟨v,rfl,hg,hz,hzb⟩
      refine⟨v,rfl, ?_⟩
      have uU:∀b,cM (ρ s k)=some b->w0.heap.size<=b:=fun b hb=>(tS ho b hb).1
      obtain⟨S',kk,oF⟩:=S.WQ he hg s (.row 63 35 (n+1) (cs.take (j * 35)++r0++cs.drop (j * 35))) v (mW hz) hzb (fun C kC=>⟨_,Gq hz (fun b hb=>by
       rcases hzb b hb with h|h
       ·exact uU b h
       ·have:=S.ext.size;omega),(((lZ.take _).app hcell2).app (lZ.drop _)).le kC⟩)
      refine hK _ w' v S' ?_
      have aZ:st.aK s<(ctx h0 w0 (sQ ρ s (st.aK s) v) ((st.gT s k none).new s (.row 63 35 (n+1) (cs.take (j * 35)++r0++cs.drop (j * 35)))) w').aK s:=by simp[ctx,St.new,St.gT]
      have jP:(ctx h0 w0 (sQ ρ s (st.aK s) v) ((st.gT s k none).new s (.row 63 35 (n+1) (cs.take (j * 35)++r0++cs.drop (j * 35)))) w').ρ s (st.aK s)=v:=oF
      have:=cK.own (C:=ctx h0 w0 (sQ ρ s (st.aK s) v) ((st.gT s k none).new s (.row 63 35 (n+1) (cs.take (j * 35)++r0++cs.drop (j * 35)))) w') s (st.aK s) aZ (by rw[jP];exact mW hz)
      rw[jP] at this;exact this
     ·cases h
    ·cases h
   ·cases h
theorem aJg:IX Tryz.prog:=⟨P3,aJf⟩
end Go.Ab.Tryz
namespace Go.Ab
open Go
end Go.Ab
section
namespace Go.Ab
open Classical
variable [Ext]
end Go.Ab
end
