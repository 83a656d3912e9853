/-
  Part Ab19 of the proof: an evaluator of the programs written in Lean once, its soundness, and the values that this program computes.
-/
import Derived.Test.YtdmpbhjcdnclbaaAb18
import Derived.Below
set_option linter.unusedVariables false
set_option linter.unusedSimpArgs false
namespace Go.Ab
open Go Go.RowKit
theorem below_of_grownBy {w w' : World} (g : w.grownBy w' none) : Below w.heap.size w w' :=
  ⟨g.os, g.tape, g.output, g.size, fun k hk => g.block k hk (by simp)⟩

/-- A function whose evaluation ends at a bool returns it, in any world and for any arguments that the evaluation stood for, and writes nothing that was there. -/
theorem walk_of {P : Program} (hm : P.follows .mixedOrders = true) {f : Nat} {xs : List AV} {b : Bool} (h : callL P f xs = some (.v (.bool b))) (w : World) (vs : Array Value)
    (hr : RelL (bare fun k o => w.heap[k]? = some o) xs vs.toList) :
    Calls P f vs w fun e w' => e = .returned (.bool b) ∧ Below w.heap.size w w' := by
  refine (call_sound (P := P) hm h w _ vs (fun _ _ h => h) hr).mono fun e w' ⟨v, he, hv, hg⟩ => ?_
  cases hv
  exact ⟨he, below_of_grownBy hg⟩
end Go.Ab
