/-
  Part Sx3 of the proof: what functions of this program compute.
-/
import Derived.Test.YtmcjkemalibacaaSx2
set_option linter.all false
set_option linter.all false
namespace Go.Ab.Try
open Classical Go.Proofs Go.Ab
theorem run7 : ansTrue ((qFI Try.prog okT noK 120).1 7 []) = true := by kernel_rfl
/-- retry's awake -/
theorem c7 : callL Try.prog 7 [] = some (.v (.bool true)) := callL_run Try.prog okT_ok (fun _ _ => rfl) (fun _ _ _ h => by cases h) 120 run7
end Go.Ab.Try
