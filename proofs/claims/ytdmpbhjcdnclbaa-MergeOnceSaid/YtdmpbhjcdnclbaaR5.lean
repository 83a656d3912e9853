/-
  'MergeOnce' of the given statements: whatever the input, the law returns true and what it read reads as it did. No condition of ours. The program is evaluated by an evaluator written once (its soundness is proved in the texts before this one), and this text reads the arguments and lays the row.
-/
import Derived.Test.YtdmpbhjcdnclbaaRows
import Derived.WalkKit
import Derived.ProofKit
import Derived.OpenShut
import Derived.ChangeOld
import Derived.Test.YtdmpbhjcdnclbaaAb19
import Derived.Test.YtdmpbhjcdnclbaaAb20
import Derived.Test.YtdmpbhjcdnclbaaAb22
import Derived.Test.YtdmpbhjcdnclbaaWM5
set_option linter.all false
namespace Go.Proofs.Ytdmpbhjcdnclbaa.mergeOnce
open Go.ChangeShapes Go.WideShapes Go.ChangeAt Go.RowKit
set_option linter.unusedVariables false

theorem own : ownKnob Try.prog.godebug = none := by kernel_rfl
theorem laidOut : laidOutB Try.prog = true := by kernel_rfl
theorem mixed : Try.prog.follows .mixedOrders = true := by kernel_rfl
theorem kinds24 : Go.Ab.kindsOf Try.prog 24 = some (List.replicate 4 (some .u64)) := by kernel_rfl

set_option maxRecDepth 100000 in
theorem lifted (os : Os) (started : os.Started) (H : Type) (enc : TypeId × Value → H) :
    ReturnsInHanded {} Try.checked os 5 .any (Rows.mergeOnceSpec.pre6 enc Try.prog Try.f5 Rows.mergeOnceRow.domain false) (Rows.mergeOnceSpec.post enc Try.prog Try.f5 false true false false) := by
  refine returnsInHanded_of_change (C := Try.checked) own started (by kernel_rfl) Try.func5
    (ChangeSpec.witness6 (enc := enc) (C := Try.checked) false ⟨#[], #[.agg (Array.replicate 4 (.int .u64 0)), .slice none 0 0], []⟩ 8 (by kernel_rfl) (by kernel_rfl) (by kernel_rfl) (by kernel_rfl)) ?_
  intro W base args ds gs before hval0 hW hcnd _
  have hval : ∀ (j : Nat) t v, Try.f5.params[j]? = some t → args[j]? = some v → Value.okWide Try.prog W .any base t v := hval0
  have hW' := hW
  obtain ⟨p, q, hA0, hV, rfl, hfz, hnd⟩ := hW
  have hA : DataW.TrodAll enc Try.prog W 0 (fun _ => true) true Try.f5.params.toList args.toList ds p := hA0
  rw [Try.params5] at hA hval
  obtain ⟨v0, vs0, d0, ds0, p0, q0, hargs, rfl, rfl, h0, r0⟩ := trodAll_cons hA
  obtain ⟨v1, vs1, d1, ds1, p1, q1, rfl, rfl, rfl, h1, r1⟩ := trodAll_cons r0
  obtain ⟨rfl, rfl, rfl⟩ := trodAll_nil r1
  obtain rfl : args = #[v0, v1] := by cases args; simp_all
  obtain ⟨rfl, rfl⟩ := trodVars_none hV
  have l0 : ∀ x ∈ p0, x.block < W.heap.size := by obtain ⟨m, hm⟩ := h0; exact DataW.trod_lt m _ _ _ hm
  have l1 : ∀ x ∈ p1, x.block < W.heap.size := by obtain ⟨m, hm⟩ := h1; exact DataW.trod_lt m _ _ _ hm
  obtain ⟨y0, k0, e0⟩ := Go.Ab.open_kinds kinds24 (hval 0 24 v0 rfl rfl)
  obtain ⟨x0, rfl⟩ := Go.Ab.dec_Wide k0
  obtain ⟨x1, b1, e1⟩ := Go.Ab.rel_ints Try.underlying42 Try.underlying3 (by kernel_rfl) (hval 1 42 v1 rfl rfl) h1
  rw [← Go.Ab.csInt_map] at e1
  clear hA0 hval0
  refine (Go.Ab.walk_of mixed Go.Ab.Try.ext_ok (Go.Ab.Try.c5 x0 x1) rfl W _ (.cons (e0 _) (.cons e1 (.nil _)))).mono fun e W' ⟨he, hg⟩ => ?_
  subst he
  exact ⟨_, rfl, _, _, _, [], _, [], hW', trodAll_mk1 (shut_bool Try.underlying4 _),
    (trodAll_cons_mk (Below.trod laidOut (by kernel_rfl) (of_decide_eq_true (by kernel_rfl)) h0 hg l0)
    (trodAll_cons_mk (Below.trod laidOut (by kernel_rfl) (of_decide_eq_true (by kernel_rfl)) h1 hg l1) trodAll_mk0)), rfl, hg.frame _, fun h => by cases h⟩

theorem over : Rows.mergeOnceRow.holds Try.pinned (OpenSpec.ofChange Rows.mergeOnceSpec) :=
  OpenClaim.holds_of_wide 5 Try.f5 rfl rfl rfl rfl rfl rfl rfl ⟨rfl, rfl, rfl, rfl, rfl⟩ rfl rfl rfl rfl rfl (by kernel_rfl) Try.func5 (by kernel_rfl)
    (of_decide_eq_true (by kernel_rfl)) (by unfold Func.isWrapper; first | (rw [if_pos (by decide +kernel)]; kernel_rfl) | (rw [if_neg (by decide +kernel)]; exact ⟨rfl, rfl⟩))
    (fun os started H enc _ => lifted os started H enc)

theorem proved : Rows.MergeOnceSaid :=
  over
end Go.Proofs.Ytdmpbhjcdnclbaa.mergeOnce
