/-
  Part WM3 of the proof: what functions of this program compute.
-/
import Derived.Test.YtdmpbhjcdnclbaaWM2
set_option linter.all false
set_option linter.unusedSimpArgs false
set_option linter.unusedVariables false
namespace Go.Ab.Try
open Classical Go.Proofs Go.Ab
theorem k11 (b : Block) (st : St) (d : Option Nat) : callFn (callL Try.prog) 11 [.agg (cBlock b)] st d = some { dst := d, val := .v (.int .i64 (if b.payload = zRoot then 1 else 0)) } := call_flat (flat1 (.agg _ (flat_cBlock b))) (c11 b) (by first | exact .v _ | exact .agg _ (flat_cRoot _) | exact .agg _ (flat_cWide _))
theorem set_z0 (n : Int) (h : IntKind.u8.wrap n ≠ 0) : (mkRoot n = zRoot) = False := by
  simp only [eq_iff_iff, iff_false]
  intro e
  have := congrArg (fun v : Root => v[0]) e
  simp [mkRoot, zRoot] at this
  exact h this
theorem root5 : (mkRoot 5 = zRoot) = False := set_z0 5 (by decide)
theorem fits5 (t d q : Wide) : fitsW t zBlock { pulled := zBlock.pulled, slot := zBlock.slot, root := zBlock.root, parent := zBlock.parent, payload := mkRoot 5, diff := d, pdiff := q, just := zBlock.just, fin := zBlock.fin, timely := zBlock.timely } = (decide (cmpW q t < 0) && decide (0 ≤ cmpW d t)) := by
  have h : isTr zBlock { pulled := zBlock.pulled, slot := zBlock.slot, root := zBlock.root, parent := zBlock.parent, payload := mkRoot 5, diff := d, pdiff := q, just := zBlock.just, fin := zBlock.fin, timely := zBlock.timely } = true := by
    simp only [isTr, root5, decide_false, Bool.not_false, Bool.and_true, decide_eq_true_eq]
    rfl
  simp only [fitsW, h, if_true]
theorem cmp_self (t : Wide) : cmpW t t = 0 := by simp only [cmpW, Int.lt_irrefl, if_false]
theorem zbp : (zBlock.payload = zRoot) = True := eq_true rfl
theorem cmpA : cmpW ((zWide.set 0 18446744073709551615).set 1 18446744073709551615) (((zWide.set 0 0).set 1 0).set 2 1) = -1 := by
  have e3 : ((zWide.set 0 18446744073709551615).set 1 18446744073709551615)[3] = (0:Int) := rfl
  have f3 : (((zWide.set 0 0).set 1 0).set 2 1)[3] = (0:Int) := rfl
  have e2 : ((zWide.set 0 18446744073709551615).set 1 18446744073709551615)[2] = (0:Int) := rfl
  have f2 : (((zWide.set 0 0).set 1 0).set 2 1)[2] = (1:Int) := rfl
  simp only [cmpW, e3, f3, e2, f2, Int.lt_irrefl, if_false, Int.reduceLT, if_true, ↓reduceIte]
end Go.Ab.Try
