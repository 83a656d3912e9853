/-
  Part X2 of the proof: equations of the evaluator at this program.
-/
import Derived.Test.YtgpkmepalmdmeaaK4
set_option linter.all false
set_option linter.unusedSimpArgs false
set_option linter.unusedVariables false
namespace Go.Ab.Try
open Classical Go.Ab
/-- slices.Reverse at ints is proved elsewhere. -/
noncomputable def ext2 (g : Nat) (xs : List AV) : Option AV :=
  if g = 89 then
    match xs with
    | [.v (.slice none 0 0)] => some (.tup [])
    | [.uniq e sz n cs] => if e = 3 ∧ sz = 1 ∧ ∃ l : List Int, cs = csInt l ∧ n = l.length then some (.tup [.uniq 3 1 n cs.reverse]) else none
    | _ => none
  else none
noncomputable instance : Ext where
  mv := fun g => g == 89
  keep := fun g => g == 102 || g == 98 || g == 104
  eat := fun g => g == 78 || g == 54
  ext := ext2
theorem ext_none {g : Nat} (xs : List AV) (h : g ≠ 89) : Ext.ext g xs = none := if_neg h
theorem mv_none {g : Nat} (h : g ≠ 89) : Ext.mv g = false := by
  show (g == 89) = false
  simp [h]
theorem eat_none {g : Nat} (h : (g == 89 || g == 78 || g == 54) = false) : Ext.eat g = false := by
  show (g == 78 || g == 54) = false
  simp only [Bool.or_eq_false_iff] at h ⊢
  exact ⟨h.1.2, h.2⟩
theorem mv_none' {g : Nat} (h : (g == 89 || g == 78 || g == 54) = false) : Ext.mv g = false := by
  show (g == 89) = false
  simp only [Bool.or_eq_false_iff] at h
  exact h.1.1
theorem keep_none {g : Nat} (h : (g == 102 || g == 98 || g == 104) = false) : Ext.keep g = false := h
end Go.Ab.Try
