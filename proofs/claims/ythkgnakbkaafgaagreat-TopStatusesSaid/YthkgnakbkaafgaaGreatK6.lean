/-
  Part 6 of the proof: an evaluator of programs, its soundness, and what functions of this program compute.
-/
import Derived.Test.YthkgnakbkaafgaaGreatK5
set_option linter.all false
set_option maxRecDepth 20000
set_option maxHeartbeats 40000000
noncomputable section
namespace Go.Ab.Tryz
open Classical Go.Ab
variable {T g:Nat} {d:Option Nat}
def iW:Nat->Nat->Option Nat->List (Nat × Nat)
 | 1,8,some 5=>[(3,5)]
 | 1,8,some 9=>[(3,6)]
 | 1,8,some 16=>[(5,6)]
 | 1,10,some 13=>[(5,8)]
 | 1,14,some 5=>[(3,5),(3,8),(6,8),(3,11),(6,11),(9,11)]
 | 2,8,some 18=>[(3,5)]
 | 3,8,some 25=>[(3,5)]
 | 3,13,some 12=>[(7,9)]
 | 3,14,some 10=>[(7,9),(7,10)]
 | 4,5,some 17=>[(0,2)]
 | 4,13,some 23=>[(7,10)]
 | 4,13,some 32=>[(4,7),(4,10),(8,10)]
 | 4,14,some 11=>[(5,7),(5,10),(8,10)]
 | 5,5,some 19=>[(0,2)]
 | 5,5,some 20=>[(1,3)]
 | 5,8,some 26=>[(1,4)]
 | 5,9,some 18=>[(3,5)]
 | 6,8,some 37=>[(1,4)]
 | 6,9,some 26=>[(5,6)]
 | 6,9,some 56=>[(4,7)]
 | 6,12,some 33=>[(6,9)]
 | 6,15,some 27=>[(2,8)]
 | 7,5,some 44=>[(1,2)]
 | 7,8,some 27=>[(3,5)]
 | 8,11,some 24=>[(3,5),(3,8),(6,8)]
 | 9,5,some 116=>[(1,2)]
 | 12,5,some 92=>[(1,2)]
 | 16,6,some 56=>[(2,3)]
 | 17,12,some 137=>[(7,9)]
 | 19,8,some 54=>[(3,5)]
 | 20,8,some 162=>[(3,5)]
 | _,_,_=>[]
abbrev aP (a b c : Nat) : Prop := iW a b (some c) = []
def AR (g:Nat):Bool:=g == 250 || g == 302 || g == 303 || g == 305 || g == 304 || g == 306 || g == 307 || g == 245 || g == 136 || g == 143 || g == 127 || g == 189 || g == 190 || g == 191 || g == 192 || g == 194 || g == 335
def Sr (g:Nat):Bool:=g == 114 || g == 118 || g == 63 || g == 30 || g == 345 || g == 225 || g == 148 || g == 151 || g == 132 || g == 140 || g == 134 || g == 294
def GA (g d:Nat):Bool:=g == 260 || g == 268 || g == 319 || g == 263 || g == 34 || g == 179 || g == 156 || g == 140 || g == 132 && d == 53 || g == 134 && d == 71
def o8 (g d:Nat):Bool:=g == 255 && d == 80 || g == 257 && d == 50 || g == 138 || g == 197 || g == 201 || g == 225 && d == 56 || g == 148 && d == 47 || g == 151 && d == 55 || g == 298
def tx (T d:Nat):Bool:=d == 40 && T == 50 || d == 29 && T == 36
def rN (g:Nat):Bool:=g == 63 || g == 132 || g == 134 || g == 140 || g == 30
def Ro:Nat->Nat->List Nat
 | 63,12=>[114]
 | 63,35=>[113]
 | 63,23=>[46]
 | 63,48=>[149]
 | 63,14=>[114,149]
 | 63,11=>[45,113]
 | 132,24=>[114]
 | 132,53=>[114]
 | 140,59=>[114]
 | 140,97=>[114]
 | 134,71=>[113]
 | 30,18=>[150]
 | 30,6=>[150,151]
 | 30,8=>[150,151]
 | 30,9=>[150,151]
 | _,_=>[]
def pC (T d:Nat):Bool:=T == 53 && (d == 36 || d == 42) || T == 44 && (d == 84 || d == 91)
def To (T d:Nat):Bool:=(T == 53 || T == 44) && d == 26
@[reducible] def l9:Ext where
 mv:=AR
 oM:=Sr
 B1:=fun g d=>GA g (d.getD 0)
 inl:=fun g d=>o8 g (d.getD 0)
 dyn:=iW
 pa:=pC
 va:=To
 ext:=fun _ _=>none
 fz:=fun g d=>bif rN g then some (Ro g (d.getD 0)) else none
 im:=tx
def sg (e sz:Nat):List AV->Option AV
 | [.sl 0 []]=>some (.uniq e sz 0 [])
 | _=>none
def V4:AV->Option Int
 | .v (.int .i64 z)=>some z
 | _=>none
def r9:AV->Option (List Int)
 | .sl n cs=>if cs.length=n then bM (cs.map V4) else none
 | _=>none
def aPv (V W:List Int):AV:=if V.filter (fun x=>W.contains x)=[] then af else .uniq 3 1 (V.filter fun x=>W.contains x).length ((V.filter fun x=>W.contains x).map fun z=>aa z)
def gh:List AV->Option AV
 | [.agg cs] =>
   match cs[34]?.bind r9,cs[69]?.bind r9 with
   | some V,some W=>if cs.length=70/\V≠[]/\W≠[]/\V.Pairwise (· < ·)/\(∀x∈V++W,0<=x/\x<1000000)/\V.length<1000000/\W.length<1000000 then some (aPv V W) else none
   | _,_=>none
 | _=>none
def br:AV->Option Int
 | .v (.int .u8 z)=>some z
 | _=>none
def lexB:List UInt8->List UInt8->Int
 | [],[]=>0
 | [],_ :: _=>-1
 | _ :: _,[]=>1
 | a :: D,b :: A=>if a<b then -1 else if b<a then 1 else lexB D A
def gj:List AV->Option AV
 | [.agg a,.agg b] =>
   match bM (a.map br),bM (b.map br) with
   | some A,some B=>if a.length=32/\b.length=32 then some (aa (lexB (A.map fun z=>UInt8.ofNat z.toNat) (B.map fun z=>UInt8.ofNat z.toNat))) else none
   | _,_=>none
 | _=>none
def se:List AV->Option AV
 | [.v (.int .u64 x)]=>if x=100 then some (aa 57) else none
 | _=>none
def jx:List AV->Option AV
 | [.uniq e sz n cs] =>
   match bM (cs.map V4) with
   | some _=>if e=3/\sz=1/\cs.length=n then some (.cY [.uniq 3 1 n cs.reverse]) else none
   | none=>none
 | _=>none
def Q7 (g:Nat):Bool:=g == 117 || g == 65 || g == 146 || g == 243 || g == 340 || g == 335
def o0 (g:Nat) (xs:List AV):Option AV:=bif g == 117 then sg 66 238 xs else bif g == 65 then sg 102 35 xs else bif g == 146 then gh xs else bif g == 243 then gj xs else bif g == 340 then se xs else bif g == 335 then jx xs else none
def zK (E Z:Nat):List AV->St->Option (AV × St)
 | [.own s k,.v (.int .i64 i),.own s2 l],st =>
   match st.heap s k,st.heap s2 l with
   | some (.row e sz n cs),some (.row M A m r)=>if e=E/\sz=Z/\M=E/\A=Z/\m=1/\0<=i/\i<n/\n<=1000000/\(s2,l)≠(s,k) then some (.own s (st.aJ s),(st.gV s k none).new s (.row E Z (n+1) (cs.take (i.toNat * Z)++r++cs.drop (i.toNat * Z)))) else none
   | _,_=>none
 | _,_=>none
def gm (g:Nat):Bool:=g == 225 || g == 151 || g == 148
def lg (g:Nat) (xs:List AV) (st:St):Option (AV × St):=bif g == 225 then zK 102 35 xs st else bif g == 151 then zK 74 34 xs st else bif g == 148 then zK 3 1 xs st else none
noncomputable instance:Ext:={ l9 with ext:=o0,ow:=gm,Zy:=lg }
def aAs {E Z:Nat} {xs:List AV} {st:St} (h:BR xs=false):zK E Z xs st=none:=by
 unfold zK;split
 ·cases h
 ·rfl
def o9 (f:Nat) (xs:List AV) (st:St) (h:(Ext.ow f && BR xs)=false):Ext.Zy f xs st=none:=by
 show lg f xs st=none
 have h:(gm f && BR xs)=false:=h
 unfold lg;cases e:BR xs with
 | false=>simp only[aAs e,cond_false,Bool.cond_self]
 | true =>
   rw[e,Bool.and_true] at h;simp only[gm,Bool.or_eq_false_iff] at h;simp only[h,cond_false]
theorem KH {d:Nat} (h:(T == 50 || T == 36)=false:=by rfl):Ext.im T d=false:=by
 simp only[Bool.or_eq_false_iff] at h;show (d == 40 && T == 50 || d == 29 && T == 36)=false
 simp only[h.1,h.2,Bool.and_false,Bool.or_self]
def aCb {d:Nat} (h:To T d=false):Ext.va T d=false:=h
def aKg {d:Nat} (h:To T d=true):Ext.va T d=true:=h
def aLT {d:Nat} (h:pC T d=false):Ext.pa T d=false:=h
def aCc {d:Nat} (h:pC T d=true):Ext.pa T d=true:=h
def cF (g:Nat) (xs:List AV) (h:Q7 g=false:=by rfl):Ext.ext g xs=none:=by
 show o0 g xs=none
 simp only[Q7,Bool.or_eq_false_iff] at h;simp only[o0,h,cond_false]
def aQw (i n:Nat) (d:Option Nat):Ext.dyn i n d=iW i n d:=rfl
def I4 (h:GA g (d.getD 0)=false):Ext.B1 g d=false:=h
def I5 (h:GA g (d.getD 0)=true):Ext.B1 g d=true:=h
def CQ (h:AR g=false):Ext.mv g=false:=h
def aCd (h:AR g=true):Ext.mv g=true:=h
theorem aI (h:Sr g=false):Ext.oM g=false:=h
def Ws (h:Sr g=true):Ext.oM g=true:=h
def Th (h:o8 g (d.getD 0)=false):Ext.inl g d=false:=h
def Bs (h:o8 g (d.getD 0)=true):Ext.inl g d=true:=h
def aCe (h:rN g=false):Ext.fz g d=none:=by
 show (bif rN g then some (Ro g (d.getD 0)) else none)=none
 rw[h];rfl
def aCf (h:rN g=true):Ext.fz g d=some (Ro g (d.getD 0)):=by
 show (bif rN g then some (Ro g (d.getD 0)) else none)=_
 rw[h];rfl
end Go.Ab.Tryz
