/-
  Part L8 of the proof: what functions of this program compute.
-/
import Derived.Test.YtgpkmepalmdmeaaK12
set_option linter.all false
set_option linter.unusedSimpArgs false
set_option linter.unusedVariables false
set_option maxRecDepth 20000
set_option maxHeartbeats 4000000
namespace Go.Ab.Try
open Classical Go.Proofs Go.Ab
/-- Roots of different small numbers differ. -/
theorem mkRoot_get0 (n : Int) : (mkRoot n)[0] = IntKind.u8.wrap n := by
  simp [mkRoot]
theorem mkRoot_get1 (n : Int) : (mkRoot n)[1] = IntKind.u8.wrap (n.fdiv (2 ^ min 8 IntKind.i64.bits)) := by
  simp [mkRoot]
theorem mkRoot_inj {a b : Int} (a0 : 0 ≤ a) (a1 : a < 65536) (b0 : 0 ≤ b) (b1 : b < 65536) (h : mkRoot a = mkRoot b) : a = b := by
  have h0 : IntKind.u8.wrap a = IntKind.u8.wrap b := by rw [← mkRoot_get0, ← mkRoot_get0, h]
  have h1 : IntKind.u8.wrap (a.fdiv (2 ^ min 8 IntKind.i64.bits)) = IntKind.u8.wrap (b.fdiv (2 ^ min 8 IntKind.i64.bits)) := by rw [← mkRoot_get1, ← mkRoot_get1, h]
  have e : (2 : Int) ^ min 8 IntKind.i64.bits = 256 := by decide
  rw [e] at h1
  have fa : a.fdiv 256 = a / 256 := Int.fdiv_eq_ediv_of_nonneg _ (by omega)
  have fb : b.fdiv 256 = b / 256 := Int.fdiv_eq_ediv_of_nonneg _ (by omega)
  rw [fa, fb] at h1
  simp only [IntKind.wrap, IntKind.bits, IntKind.signed] at h0 h1
  simp at h0 h1
  omega
end Go.Ab.Try
