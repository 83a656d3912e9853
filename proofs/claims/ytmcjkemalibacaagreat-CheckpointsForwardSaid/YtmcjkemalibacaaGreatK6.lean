/-
  Part 6 of the proof: an evaluator of programs, its soundness, and what functions of this program compute.
-/
import Derived.Test.YtmcjkemalibacaaGreatK5
set_option linter.all false
set_option maxRecDepth 20000
set_option maxHeartbeats 40000000
noncomputable section
namespace Go.Ab.Tryz
open Classical Go.Ab
def aB:Nat->Nat->Option Nat->List (Nat × Nat)
 | 1,8,some 5=>[(3,5)]
 | 1,8,some 9=>[(3,6)]
 | 1,8,some 16=>[(5,6)]
 | 1,10,some 13=>[(5,8)]
 | 1,14,some 5=>[(3,5),(3,8),(6,8),(3,11),(6,11),(9,11)]
 | 1,29,some 11=>[(14,27),(20,27),(21,27),(23,27),(24,27)]
 | 2,8,some 18=>[(3,5)]
 | 2,12,some 36=>[(7,10)]
 | 3,8,some 25=>[(3,5)]
 | 3,13,some 12=>[(7,9)]
 | 3,14,some 10=>[(7,9),(7,10)]
 | 4,5,some 17=>[(0,2)]
 | 4,13,some 23=>[(7,10)]
 | 4,13,some 32=>[(4,7),(4,10),(8,10)]
 | 4,14,some 11=>[(5,7),(5,10),(8,10)]
 | 5,5,some 20=>[(1,3)]
 | 5,8,some 26=>[(1,4)]
 | 6,8,some 37=>[(1,4)]
 | 6,9,some 26=>[(5,6)]
 | 6,9,some 56=>[(4,7)]
 | 6,12,some 33=>[(6,9)]
 | 7,5,some 44=>[(1,2)]
 | 8,15,some 48=>[(5,10),(8,10),(8,12)]
 | 9,5,some 116=>[(1,2)]
 | 11,16,some 48=>[(8,14),(10,14),(11,14)]
 | 12,4,some 89=>[(1,2)]
 | 12,5,some 92=>[(1,2)]
 | 16,6,some 56=>[(2,3)]
 | 17,12,some 137=>[(7,9)]
 | 19,8,some 54=>[(3,5)]
 | 20,8,some 162=>[(3,5)]
 | _,_,_=>[]
@[reducible] def aFq:Ext where
 mv:=fun g=>g == 215 || g == 226 || g == 227 || g == 229 || g == 228 || g == 230 || g == 231 || g == 210 || g == 81
 pI:=fun g=>g == 161 || g == 165 || g == 109 || g == 80 || g == 247 || g == 142
 eat:=fun g d=>g == 217 || g == 222 || g == 235 || g == 220 || g == 101 || g == 57 || g == 32 || (g == 43 && d == some 72) || (g == 31 && d == some 40)
 inl:=fun g d=>(g == 44 && d == some 80) || (g == 86 && d == some 50) || g == 90 || g == 123 || g == 126
 dyn:=aB
 pa:=fun T d=>(T == 54 && (d == 36 || d == 42)) || (T == 45 && (d == 84 || d == 91))
 va:=fun T d=>T == 54 && d == 26
 ext:=fun _ _=>none
 Z7:=fun g d=>g == 31 && d == some 56
def clE:List AV->Option AV
 | [.sl 0 []]=>some (.sl 0 [])
 | _=>none
noncomputable instance:Ext:={ aFq with ext:=fun g xs=>bif g == 164 then clE xs else none }
def K5 {T d:Nat} (h:(T == 54 && d == 26)=false):Ext.va T d=false:=h
def aFr {T d:Nat} (h:((T == 54 && (d == 36 || d == 42)) || (T == 45 && (d == 84 || d == 91)))=false):Ext.pa T d=false:=h
def K6 {T d:Nat} (h:((T == 54 && (d == 36 || d == 42)) || (T == 45 && (d == 84 || d == 91)))=true):Ext.pa T d=true:=h
def V1 {g:Nat} {d:Option Nat} (h:(g == 31 && d == some 56)=false):Ext.Z7 g d=false:=h
def vB (g:Nat) (xs:List AV) (h:(g == 164)=false:=by rfl):Ext.ext g xs=none:=by
 show (bif g == 164 then clE xs else none)=none
 rw[h];rfl
def aJb (i n:Nat) (d:Option Nat):Ext.dyn i n d=aB i n d:=rfl
def aCL {g:Nat} {d:Option Nat} (h:(g == 217 || g == 222 || g == 235 || g == 220 || g == 101 || g == 57 || g == 32 || (g == 43 && d == some 72) || (g == 31 && d == some 40))=false):Ext.eat g d=false:=h
def aCM {g:Nat} {d:Option Nat} (h:(g == 217 || g == 222 || g == 235 || g == 220 || g == 101 || g == 57 || g == 32 || (g == 43 && d == some 72) || (g == 31 && d == some 40))=true):Ext.eat g d=true:=h
def aFs {g:Nat} (h:(g == 215 || g == 226 || g == 227 || g == 229 || g == 228 || g == 230 || g == 231 || g == 210 || g == 81)=false):Ext.mv g=false:=h
def K7 {g:Nat} (h:(g == 215 || g == 226 || g == 227 || g == 229 || g == 228 || g == 230 || g == 231 || g == 210 || g == 81)=true):Ext.mv g=true:=h
def aJ {g:Nat} (h:(g == 161 || g == 165 || g == 109 || g == 80 || g == 247 || g == 142)=false):Ext.pI g=false:=h
def aCN {g:Nat} {d:Option Nat} (h:((g == 44 && d == some 80) || (g == 86 && d == some 50) || g == 90 || g == 123 || g == 126)=false):Ext.inl g d=false:=h
def BY {g:Nat} {d:Option Nat} (h:((g == 44 && d == some 80) || (g == 86 && d == some 50) || g == 90 || g == 123 || g == 126)=true):Ext.inl g d=true:=h
end Go.Ab.Tryz
