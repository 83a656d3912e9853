/-
  Part Sx2 of the proof: what functions of this program compute.
-/
import Derived.Test.YtmcjkemalibacaaAb31
import Derived.Test.YtmcjkemalibacaaProg
import Derived.KernelRfl
set_option linter.all false
set_option linter.all false
namespace Go.Ab.Try
open Classical Go.Ab
def dynTab : Nat → Nat → Option Nat → List (Nat × Nat)
  | 4, 5, some 17 => [(0, 2)]
  | 5, 5, some 20 => [(1, 3)]
  | _, _, _ => []
noncomputable instance : Ext where
  mv := fun g => g == 21
  keep := fun g => g == 42 || g == 46 || g == 29 || g == 16 || g == 20
  eat := fun g d => g == 13 || g == 15
  inl := fun g d => false
  dyn := dynTab
  pa := fun T d => false
  va := fun T d => T == 53 && d == 26
  ext := fun _ _ => none
def okT : Nat → Bool := fun f => (Nat.ble 3 f && Nat.ble f 84) && !Nat.beq f 34
noncomputable def okAll : Bool := (List.range 85).all fun f => !okT f || match Go.Proofs.Try.prog.funcs[f]? with | some fn => fnOk fn | none => true
theorem okAll_is : okAll = true := by kernel_rfl
theorem okT_ok : OkT Go.Proofs.Try.prog okT := fun f fn h e => by
  have hl : f < 85 := by
    unfold okT at h
    simp only [Bool.and_eq_true, Nat.ble_eq] at h
    omega
  have := List.all_eq_true.1 okAll_is f (List.mem_range.2 hl)
  rw [h, e] at this
  exact this
end Go.Ab.Try
