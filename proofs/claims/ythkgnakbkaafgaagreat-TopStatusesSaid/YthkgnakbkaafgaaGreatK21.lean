/-
  Part 21 of the proof: an evaluator of programs, its soundness, and what functions of this program compute.
-/
import Derived.Test.YthkgnakbkaafgaaGreatK5
import Derived.ChangeSlices
import Derived.ChangeShapes
import Derived.WideShapes
import Derived.OpenShut
import Derived.Test.YthkgnakbkaafgaaGreatProg
import Derived.JoinedOf
import Derived.KernelRfl
set_option linter.all false
set_option maxRecDepth 20000
set_option maxHeartbeats 40000000
open List Go.Proofs.Tryz
namespace Go.Ab
open Go Go.WideShapes Go.ChangeShapes
def aHq {H:Type} {enc:TypeId × Value->H} {P:Program} {w:World} {base:Nat} {held:Bool} {t e:TypeId} {k:IntKind} {v:Value} {d:DataW H} {p:List MemPlace} (D:P.underlying t=some (.slice e)) (he:P.underlying e=some (.int k)) (G:P.cellsOf e=1)
 {X:World} {r:Reach} {b2:Nat} (C:Value.okWide P X r b2 t v) (h:DataW.Trod enc P w base (fun _=>true) held t v d p) :
 ∃l:List Int,(l.length:Int)<=9223372036854775807/\cD (bare fun b o=>w.heap[b]? = some o) (.sl l.length (l.map fun x=>.v (.int k x))) v:=by
 obtain⟨a0,Px,cap0,rfl⟩:=okWide_slice D C
 obtain⟨m,hm⟩:=h
 rcases open_ints D he G hm with ⟨J,h2⟩|⟨a,len,cap,zs,J,hb,W,KJ,S,N,pA,hwf⟩
 ·simp[Value.cells] at J
  obtain⟨rfl,rfl,rfl⟩:=J
  exact⟨[],qe,.QR 0 0 none (Nat.le_refl _)⟩
 ·simp[Value.cells] at J
  obtain⟨rfl,rfl,rfl⟩:=J
  simp only[if_true] at S;have hlen:(zs.take Px).length=Px:=qs
  refine⟨zs.take Px,ot, ?_⟩
  rw[hlen];rcases Nat.eq_zero_or_pos Px with h0|h0
  ·grind [cD.QR]
  ·have A:=pA 0 WF
   have ha:a.add 0=a:=by simp[Addr.add]
   rw[ha] at A;unfold World.cell? at A
   split at A
   ·rename_i arr T fr u;split at A
    ·cases A
    ·rename_i ZD;obtain⟨KO,off,spot⟩:=a
     simp only at u A ZD
     have hspn:spot=none:=vq
     subst hspn;have each:∀i,i<zs.length->arr[off+i]? = some (.int k (zs.getD i 0)):=fun i hi=>by
      grind [mD,cell_of_row]
     have hsz:off+zs.length<=arr.size:=by
      rcases Nat.eq_zero_or_pos zs.length with R|R
      ·omega
      ·have:=(Array.getElem?_eq_some_iff.1 (each (zs.length-1) WF)).1
       omega
     refine .sl _ _ KO off cap0 arr T fr W u qs (fun i x y N Y=>?_) (fun i y hi Y=>?_)
     ·grind [cD.v]
     ·have M:i<zs.length:=by simp at hi;omega
      rw[each i M] at Y;simp only[cQ] at Y;subst Y;rfl
   ·cases A
def Wv (l:List Int):aH l=l.map fun x=>aa x:=by
 induction l<;>grind [aH,oF]
def wK:List (Option IntKind)->List AV->Prop
 | [],[]=>True
 | some k :: C,.v (.int A _) :: l=>k=A/\wK C l
 | none :: C,.v (.bool _) :: l=>wK C l
 | _,_=>False
theorem wK.app:∀ {a b:List (Option IntKind)} {l:List AV},wK (a++b) l->∃r W,l=r++W/\wK a r/\wK b W
 | [],b,l,h=>⟨[],l,rfl,trivial,h⟩
 | some k :: a,b,[],h=>h.elim
 | none :: a,b,[],h=>h.elim
 | some k :: a,b,x :: l,h=>by
   match x,h with
   | .v (.int A n),h =>
     obtain⟨r,W,rfl,J,h2⟩:=wK.app (a:=a) h.2
     exact⟨.v (.int A n) :: r,W,rfl,⟨h.1,J⟩,h2⟩
 | none :: a,b,x :: l,h=>by
   match x,h with
   | .v (.bool n),h =>
     obtain⟨r,W,rfl,J,h2⟩:=wK.app (a:=a) h
     exact⟨ae n :: r,W,rfl,J,h2⟩
end Go.Ab
section
namespace Go.Ab
open Go Go.WideShapes Go.ChangeShapes
def TY (C:List (Option IntKind)) (cs:List Value):Prop:=wK C (cs.map AV.v)/\∀v∈cs,v.oneCell'=true
def wK.Y0:∀ {a b:List (Option IntKind)} {l m:List AV},wK a l->wK b m->wK (a++b) (l++m)
 | [],b,[],m,_,h=>h
 | [],b,_ :: _,m,h,_=>h.elim
 | some k :: a,b,[],m,h,_=>h.elim
 | none :: a,b,[],m,h,_=>h.elim
 | some k :: a,b,x :: l,m,h,h2=>by
   match x,h with
   | .v (.int k' n),h=>exact⟨h.1,wK.Y0 (a:=a) h.2 h2⟩
 | none :: a,b,x :: l,m,h,h2=>by
   match x,h with
   | .v (.bool n),h=>exact wK.Y0 (a:=a) h h2
theorem TY.app {a b:List (Option IntKind)} {l m:List Value} (h:TY a l) (h2:TY b m):TY (a++b) (l++m) :=
 ⟨by rw[map_append];exact h.1.Y0 h2.1,fun v C=>by rcases mem_append.1 C with C|C;exact h.2 v C;exact h2.2 v C⟩
theorem wK.len:∀ {a:List (Option IntKind)} {l:List AV},wK a l->l.length=a.length
 | [],[],_=>rfl
 | [],_ :: _,h=>h.elim
 | some k :: a,[],h=>h.elim
 | none :: a,[],h=>h.elim
 | some k :: a,x :: l,h=>by
   match x,h with
   | .v (.int k' n),h=>simp[wK.len (a:=a) h.2]
 | none :: a,x :: l,h=>by
   match x,h with
   | .v (.bool n),h=>simp[wK.len (a:=a) h]
section
variable {H:Type} {enc:TypeId × Value->H} {P:Program} {w:World} {base:Nat} {spare:Nat->Bool} {held:Bool}
end
end Go.Ab
end
namespace Go.Proofs
open Go
def Qm:List Char:=[104,97,114,110,101,115,115,32,55,48,53,54,49,50,48,101,102,52,50,57,57,48,54,98,55,53,102,102,50,56,48,50,100,102,51,102,57,97,55,102,54,55,55,54,48,50,48,54,51,55,98,50,101,55,53,50,53,50,98,53,97,97,100,54,55,56,99,56,49,48,97,48,32,99,117,116,32,97,116,32,102,111,114,107,104,101,97,100,47,102,111,114,107,104,101,97,100,116,111,112,46,84,111,112,83,116,97,116,117,115,101,115,32,102,111,114,107,104,101,97,100,47,102,111,114,107,104,101,97,100,116,111,112,46,84,111,112,69,114,114,111,114,115,32,102,111,114,107,104,101,97,100,47,102,111,114,107,104,101,97,100,116,111,112,46,84,111,112,67,111,109,109,97,110,100,115,32,102,111,114,107,104,101,97,100,47,102,111,114,107,104,101,97,100,116,111,112,46,84,111,112,76,105,118,101,115].map Char.ofNat
def aHr:prog.initOrder=String.ofList Qm:=WP
def B6:prog.initOrder.toList=Qm:=by rw[aHr];exact String.toList_ofList
def Hy:List (List Char):=[[99,117,116],[97,116],[102,111,114,107,104,101,97,100,47,102,111,114,107,104,101,97,100,116,111,112,46,84,111,112,83,116,97,116,117,115,101,115],[102,111,114,107,104,101,97,100,47,102,111,114,107,104,101,97,100,116,111,112,46,84,111,112,69,114,114,111,114,115],[102,111,114,107,104,101,97,100,47,102,111,114,107,104,101,97,100,116,111,112,46,84,111,112,67,111,109,109,97,110,100,115],[102,111,114,107,104,101,97,100,47,102,111,114,107,104,101,97,100,116,111,112,46,84,111,112,76,105,118,101,115]].map fun l=>l.map Char.ofNat
def B7:behindMainWord (wordsSigns Qm)=Hy:=WP
def Xi : behindMainWord (wordsSigns Tryz.prog.initOrder.toList) = "cut".toList :: Hy.tail := by
 rw[B6,B7];kernel_rfl
def Y1:prog.laysLater=false:=WP
def LP:prog.bearsReflect=false:=WP
def aDz:prog.doorFits []=true:=WP
def Zm : stripLifts liftWords ("cut".toList :: Hy.tail) = ([], "cut".toList :: Hy.tail) := WP
def aHs (P : Program) (W : List (List Char)) (h : behindMainWord (wordsSigns P.initOrder.toList) = "cut".toList :: W) (J : P.laysLater = false) (h2 : P.bearsReflect = false) (S : stripLifts liftWords ("cut".toList :: W) = ([], "cut".toList :: W)) (X : P.doorFits [] = true) : P.mayEnter = true := by
 unfold Program.mayEnter;rw[h];simp only[S,J,h2,X,head?_cons,contains_nil,Bool.not_false,Bool.or_true,Bool.true_or,Bool.and_true,beq_self_eq_true]
def aHt (P : Program) (W : List (List Char)) (h : behindMainWord (wordsSigns P.initOrder.toList) = "cut".toList :: W) (S : stripLifts liftWords ("cut".toList :: W) = ([], "cut".toList :: W)) : P.liftsFinal = false := by
 unfold Program.liftsFinal Program.headLifts;rw[h];have e : ("cut".toList == "carried".toList) = false := ZB
 have M : (some "cut".toList == some "carried".toList) = false := ZB
 simp only[S,head?_cons,M,beq_self_eq_true,if_true,contains_nil,Bool.false_and,Bool.or_self]
def aLd (P : Program) (W : List (List Char)) (h : behindMainWord (wordsSigns P.initOrder.toList) = "cut".toList :: W) : P.make = some .cut := by
 unfold Program.make;rw[h];have A : ("cut".toList == "gc".toList) = false := ZB
 have M : ("cut".toList == "spec".toList) = false := ZB
 simp only[A,M,Bool.or_self,Bool.false_eq_true,if_false,beq_self_eq_true,Bool.true_or,if_true]
def aDA:prog.mayEnter=true:=aHs _ _ Xi Y1 LP Zm aDz
def B8:prog.liftsFinal=false:=aHt _ _ Xi Zm
def aHu:prog.make=some .cut:=aLd _ _ Xi
end Go.Proofs
