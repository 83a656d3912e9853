/-
  Part Ab19 of the proof: an evaluator of the programs written in Lean once, and its soundness.
-/
import Derived.Test.YtmcjkemalibacaaAb18
import Derived.Below
set_option linter.all false
set_option linter.unusedVariables false
set_option linter.unusedSimpArgs false
namespace Go.Ab
open Go Go.RowKit
theorem below_of_grownBy {w w' : World} (g : w.grownBy w' none) : Below w.heap.size w w' :=
  ⟨g.os, g.tape, g.output, g.size, fun k hk => g.block k hk (by simp)⟩

/-- A function whose evaluation ends at a bool returns it, in any world and for any arguments that the evaluation stood for, and writes nothing that was there. -/
theorem walk_of [Ext] {P : Program} (hm : P.follows .mixedOrders = true) (hx : ExtOk P) {f : Nat} {xs : List AV} {b : Bool} (h : callL P f xs = some (.v (.bool b))) (hu : xs.any isUniq = false) (w : World) (vs : Array Value)
    (hr : RelL (bare fun k o => w.heap[k]? = some o) xs vs.toList) :
    Calls P f vs w fun e w' => e = .returned (.bool b) ∧ Below w.heap.size w w' := by
  have hs := call_sound (P := P) hm hx h
  have hC : SoundC P f xs (.v (.bool b)) := by
    unfold SoundX at hs
    split at hs
    · simp [isUniq] at hu
    · exact hs
  refine (hC w _ vs (fun _ _ h => h) hr).mono fun e w' ⟨v, he, hv, hg⟩ => ?_
  obtain ⟨us, _, _, _, _, h5⟩ := hv
  have hl : us = [] := by
    rename_i h4
    have := h4 0 0
    exact List.length_eq_zero_iff.1 this.symm
  subst hl
  have := (h5 (bare (newHs (fun k o => w.heap[k]? = some o) w w' [])) 0 0 (fun _ _ h => h) (by simp)).1
  have hv : v = .bool b := by cases this; rfl
  subst hv
  exact ⟨he, below_of_grownBy hg⟩
end Go.Ab
