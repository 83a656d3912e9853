/-
  Part WM3a of the proof: what functions of this program compute.
-/
import Derived.Test.YtdmpbhjcdnclbaaWM3
set_option linter.all false
set_option linter.unusedSimpArgs false
set_option linter.unusedVariables false
set_option maxRecDepth 100000
namespace Go.Ab.Try
open Classical Go.Proofs Go.Ab
theorem c12 : callL Try.prog 12 [] = some (.v (.bool true)) := by
  rw [callL_eq Try.prog Try.func12 rfl ok12 _ (ext_none _ _) rfl]
  simp -implicitDefEqProofs only [EB, ge_iff_le, gt_iff_lt, Int.reduceLE, Int.reduceLT, Int.reduceToNat, Int.reduceSub, Int.reduceAdd, Int.reduceNeg, Int.reduceMul, Nat.reduceMul, Nat.reduceSub, Nat.reduceLT, Int.reduceBEq, Int.reduceEq, indexAddrA, unA, convA, gslot, List.getElem?_toArray, addOff, loadA, AV.stor, AV.cells, Nat.reduceEqDiff, Nat.reduceAdd, ↓reduceIte, reduceCtorEq, Value.oneCell', Ex.inBlock, FB, LB, Nat.reduceSub, Nat.reduceLeDiff, Nat.reduceMul, RB, up_Wide_at, Nat.reduceLT, k8, k13, k14, k15, k10, fits5, cmp_self, cmpA, zbp, root5, Bool.and_true, Bool.and_false, beq_self_eq_true]
  exact endL_tmp (keep_no _) (.inl rfl) rfl (by simp only [EB, ge_iff_le, gt_iff_lt, Int.reduceLE, Int.reduceLT, Int.reduceToNat, Int.reduceSub, Int.reduceAdd, Int.reduceNeg, Int.reduceMul, Nat.reduceMul, Nat.reduceSub, Nat.reduceLT, Int.reduceBEq, Int.reduceEq, indexAddrA, unA, convA, gslot, List.getElem?_toArray, addOff, loadA, AV.stor, AV.cells, Nat.reduceEqDiff, Nat.reduceAdd, ↓reduceIte, reduceCtorEq, Value.oneCell', Ex.inBlock]) (.v _)
theorem k12 (st : St) (d : Option Nat) : callFn (callL Try.prog) 12 [] st d = some { dst := d, val := .v (.bool true) } := call_flat (by simp) c12 (by first | exact .v _ | exact .agg _ (flat_cRoot _) | exact .agg _ (flat_cWide _))
end Go.Ab.Try
