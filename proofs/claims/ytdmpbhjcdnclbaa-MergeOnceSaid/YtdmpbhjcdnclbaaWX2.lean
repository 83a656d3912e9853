/-
  Part WX2 of the proof: what functions of this program compute.
-/
import Derived.Test.YtdmpbhjcdnclbaaAb27
set_option linter.all false
set_option linter.unusedSimpArgs false
set_option linter.unusedVariables false
namespace Go.Ab.Try
open Classical Go.Ab
/-- The pairs of operations that drawing regions leave open, by a region's number, size and first register. -/
def dynTab : Nat → Nat → Option Nat → List (Nat × Nat)
  | 13, 6, some 44 => [(1, 3)]
  | _, _, _ => []
noncomputable instance : Ext where
  mv := fun _ => false
  keep := fun _ => false
  eat := fun _ => false
  inl := fun _ _ => false
  dyn := dynTab
  ext := fun _ _ => none
theorem ext_none (g : Nat) (xs : List AV) : Ext.ext g xs = none := rfl
theorem dyn_eq (i n : Nat) (d : Option Nat) : Ext.dyn i n d = dynTab i n d := rfl
theorem eat_none (g : Nat) : Ext.eat g = false := rfl
theorem mv_no (g : Nat) : Ext.mv g = false := rfl
theorem keep_no (g : Nat) : Ext.keep g = false := rfl
theorem inl_no (g : Nat) (d : Option Nat) : Ext.inl g d = false := rfl
end Go.Ab.Try
