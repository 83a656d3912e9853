/-
  Part 6 of the proof: an evaluator of programs, its soundness, and what functions of this program compute.
-/
import Derived.Test.YtmcjkemalibacaaGreatK5
set_option linter.all false
set_option maxRecDepth 20000
set_option maxHeartbeats 40000000
namespace Go.Ab.Tryz
open Classical Go.Ab
def aE:Nat->Nat->Option Nat->List (Nat × Nat)
 | 1,8,some 5=>[(3,5)]
 | 1,8,some 9=>[(3,6)]
 | 1,8,some 16=>[(5,6)]
 | 1,10,some 13=>[(5,8)]
 | 1,14,some 5=>[(3,5),(3,8),(6,8),(3,11),(6,11),(9,11)]
 | 1,29,some 11=>[(14,27),(20,27),(21,27),(23,27),(24,27)]
 | 2,8,some 18=>[(3,5)]
 | 2,12,some 36=>[(7,10)]
 | 3,8,some 25=>[(3,5)]
 | 3,13,some 12=>[(7,9)]
 | 3,14,some 10=>[(7,9),(7,10)]
 | 4,5,some 17=>[(0,2)]
 | 4,13,some 23=>[(7,10)]
 | 4,13,some 32=>[(4,7),(4,10),(8,10)]
 | 4,14,some 11=>[(5,7),(5,10),(8,10)]
 | 5,5,some 20=>[(1,3)]
 | 5,8,some 26=>[(1,4)]
 | 6,8,some 37=>[(1,4)]
 | 6,9,some 26=>[(5,6)]
 | 6,9,some 56=>[(4,7)]
 | 6,12,some 33=>[(6,9)]
 | 7,5,some 44=>[(1,2)]
 | 8,15,some 48=>[(5,10),(8,10),(8,12)]
 | 9,5,some 116=>[(1,2)]
 | 11,16,some 48=>[(8,14),(10,14),(11,14)]
 | 12,4,some 89=>[(1,2)]
 | 12,5,some 92=>[(1,2)]
 | 16,6,some 56=>[(2,3)]
 | 17,12,some 137=>[(7,9)]
 | 19,8,some 54=>[(3,5)]
 | 20,8,some 162=>[(3,5)]
 | _,_,_=>[]
@[reducible] noncomputable def aFw:Ext where
 mv:=fun g=>g == 215 || g == 226 || g == 227 || g == 229 || g == 228 || g == 230 || g == 231 || g == 210 || g == 81
 pY:=fun g=>g == 161 || g == 165 || g == 109 || g == 80 || g == 247 || g == 142
 eat:=fun g d=>g == 217 || g == 222 || g == 235 || g == 220 || g == 101 || g == 57 || g == 32 || (g == 43 && d == some 72) || (g == 31 && d == some 40)
 inl:=fun g d=>(g == 44 && d == some 80) || (g == 86 && d == some 50) || g == 90 || g == 123 || g == 126 || (g == 142 && d == some 56)
 dyn:=aE
 pa:=fun T d=>(T == 54 && (d == 36 || d == 42)) || (T == 45 && (d == 84 || d == 91))
 va:=fun T d=>T == 54 && d == 26
 ext:=fun _ _=>none
 WN:=fun g d=>g == 31 && d == some 56
def clE:List AV->Option AV
 | [.sl 0 []]=>some (.sl 0 [])
 | _=>none
noncomputable def yD:List AV->St->Option (AV × St)
 | [.own s k,.v (.int .i64 i),.own s2 k2],st =>
   match st.heap s k,st.heap s2 k2 with
   | some (.row e sz n cs),some (.row e2 sz2 m r)=>if e=63/\sz=35/\e2=63/\sz2=35/\m=1/\0<=i/\i<n/\n<=1000000/\(s2,k2)≠(s,k) then some (.own s (st.aK s),(st.gT s k none).new s (.row 63 35 (n+1) (cs.take (i.toNat * 35)++r++cs.drop (i.toNat * 35)))) else none
   | _,_=>none
 | _,_=>none
noncomputable instance:Ext:={ aFw with ext:=fun g xs=>bif g == 164 then clE xs else none,isI:=fun g=>g == 142,Wv:=fun g xs st=>bif g == 142 then yD xs st else none }
theorem aBL (f:Nat) (xs:List AV) (st:St) (h:(Ext.isI f && Kj xs)=false):Ext.Wv f xs st=none:=by
 show (bif f == 142 then yD xs st else none)=none
 have h:((f == 142) && Kj xs)=false:=h
 cases e:f == 142 with
 | false=>rfl
 | true =>
   rw[e,Bool.true_and] at h;show yD xs st=none
   unfold yD;split
   ·cases h
   ·rfl
theorem G9 {T d:Nat} (h:(T == 54 && d == 26)=false):Ext.va T d=false:=h
theorem aFx {T d:Nat} (h:((T == 54 && (d == 36 || d == 42)) || (T == 45 && (d == 84 || d == 91)))=false):Ext.pa T d=false:=h
theorem H0 {T d:Nat} (h:((T == 54 && (d == 36 || d == 42)) || (T == 45 && (d == 84 || d == 91)))=true):Ext.pa T d=true:=h
theorem S8 {g:Nat} {d:Option Nat} (h:(g == 31 && d == some 56)=false):Ext.WN g d=false:=h
theorem sV (g:Nat) (xs:List AV) (h:(g == 164)=false:=by rfl):Ext.ext g xs=none:=by
 show (bif g == 164 then clE xs else none)=none
 rw[h];rfl
theorem aJE (i n:Nat) (d:Option Nat):Ext.dyn i n d=aE i n d:=rfl
theorem aCP {g:Nat} {d:Option Nat} (h:(g == 217 || g == 222 || g == 235 || g == 220 || g == 101 || g == 57 || g == 32 || (g == 43 && d == some 72) || (g == 31 && d == some 40))=false):Ext.eat g d=false:=h
theorem aCQ {g:Nat} {d:Option Nat} (h:(g == 217 || g == 222 || g == 235 || g == 220 || g == 101 || g == 57 || g == 32 || (g == 43 && d == some 72) || (g == 31 && d == some 40))=true):Ext.eat g d=true:=h
theorem aFy {g:Nat} (h:(g == 215 || g == 226 || g == 227 || g == 229 || g == 228 || g == 230 || g == 231 || g == 210 || g == 81)=false):Ext.mv g=false:=h
theorem H2 {g:Nat} (h:(g == 215 || g == 226 || g == 227 || g == 229 || g == 228 || g == 230 || g == 231 || g == 210 || g == 81)=true):Ext.mv g=true:=h
theorem aJ {g:Nat} (h:(g == 161 || g == 165 || g == 109 || g == 80 || g == 247 || g == 142)=false):Ext.pY g=false:=h
theorem aCR {g:Nat} {d:Option Nat} (h:((g == 44 && d == some 80) || (g == 86 && d == some 50) || g == 90 || g == 123 || g == 126 || (g == 142 && d == some 56))=false):Ext.inl g d=false:=h
theorem Qt {g:Nat} {d:Option Nat} (h:((g == 44 && d == some 80) || (g == 86 && d == some 50) || g == 90 || g == 123 || g == 126 || (g == 142 && d == some 56))=true):Ext.inl g d=true:=h
end Go.Ab.Tryz
