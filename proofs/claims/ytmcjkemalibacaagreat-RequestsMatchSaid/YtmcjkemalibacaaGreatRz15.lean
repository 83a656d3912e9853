/-
  'RequestsMatch' of the given statements: whatever the input, the law returns true and what it read reads as it did. No condition of ours. The program is evaluated by an evaluator written once (its soundness is proved in the texts before this one), and this text reads the arguments and lays the row.
-/
import Derived.Test.YtmcjkemalibacaaGreatRows
import Derived.WalkKit
import Derived.ProofKit
import Derived.OpenShut
import Derived.ChangeOld
import Derived.Test.YtmcjkemalibacaaGreatK18
import Derived.Test.YtmcjkemalibacaaGreatK17
namespace Go.Proofs.YtmcjkemalibacaaGreat.requestsMatch
open Go.ChangeShapes Go.WideShapes Go.ChangeAt Go.RowKit
set_option linter.unusedVariables false

open Classical Go.Ab in
theorem ext_ok : Go.Ab.MJ Tryz.prog := fun g xs r h => by cases h
theorem own : ownKnob Tryz.prog.godebug = none := by kernel_rfl
theorem laidOut : laidOutB Tryz.prog = true := by kernel_rfl
theorem mixed : Tryz.prog.follows .mixedOrders = true := by kernel_rfl
theorem kinds29 : Go.Ab.FZ Tryz.prog 29 = some Go.Ab.Tryz.Wz := by kernel_rfl

set_option maxRecDepth 100000 in
theorem lifted (os : Os) (started : os.Started) (H : Type) (enc : TypeId × Value → H) :
    ReturnsInHanded {} Tryz.checked os 3 .any (Rows.requestsMatchSpec.pre6 enc Tryz.prog Tryz.f3 Rows.requestsMatchRow.domain false) (Rows.requestsMatchSpec.post enc Tryz.prog Tryz.f3 false true false false) := by
  refine returnsInHanded_of_change (C := Tryz.checked) own started (by kernel_rfl) Tryz.func3
    (ChangeSpec.witness6 (enc := enc) (C := Tryz.checked) false ⟨#[], #[.slice none 0 0, .agg Go.Ab.Tryz.zD.toArray, .int .i64 0], []⟩ 8 (by kernel_rfl) (by kernel_rfl) (by kernel_rfl) (by kernel_rfl)) ?_
  intro W base args ds gs before hval0 hW hcnd _
  have u9 : ∀ (j : Nat) t v, Tryz.f3.params[j]? = some t → args[j]? = some v → Value.okWide Tryz.prog W .any base t v := hval0
  have hW' := hW
  obtain ⟨p, q, hA0, hV, rfl, hfz, hnd⟩ := hW
  have hA : DataW.TrodAll enc Tryz.prog W 0 (fun _ => true) true Tryz.f3.params.toList args.toList ds p := hA0
  rw [Tryz.params3] at hA u9
  obtain ⟨v0, vs0, d0, ds0, p0, q0, wF, rfl, rfl, h0, r0⟩ := trodAll_cons hA
  obtain ⟨v1, vs1, d1, ds1, p1, q1, rfl, rfl, rfl, h1, r1⟩ := trodAll_cons r0
  obtain ⟨v2, vs2, d2, ds2, p2, q2, rfl, rfl, rfl, h2, r2⟩ := trodAll_cons r1
  obtain ⟨rfl, rfl, rfl⟩ := trodAll_nil r2
  obtain rfl : args = #[v0, v1, v2] := by cases args; simp_all
  obtain ⟨rfl, rfl⟩ := trodVars_none hV
  have l0 : ∀ x ∈ p0, x.block < W.heap.size := by obtain ⟨m, hm⟩ := h0; exact DataW.trod_lt m _ _ _ hm
  have l1 : ∀ x ∈ p1, x.block < W.heap.size := by obtain ⟨m, hm⟩ := h1; exact DataW.trod_lt m _ _ _ hm
  have l2 : ∀ x ∈ p2, x.block < W.heap.size := by obtain ⟨m, hm⟩ := h2; exact DataW.trod_lt m _ _ _ hm
  obtain ⟨x0, b0, e0⟩ := Go.Ab.P4 Tryz.underlying22 Tryz.underlying3 (by kernel_rfl) (u9 0 22 v0 rfl rfl) h0
  rw [← Go.Ab.r7] at e0
  obtain ⟨y1, k1, z1, e1⟩ := Go.Ab.MO kinds29 (u9 1 29 v1 rfl rfl)
  obtain ⟨x1, rfl⟩ := Go.Ab.Tryz.MH k1
  have b1 := Go.Ab.Tryz.MI z1
  obtain ⟨x2, rfl⟩ := okWide_int Tryz.underlying3 (u9 2 3 v2 rfl rfl)
  clear hA0 hval0
  refine (Go.Ab.aBN mixed ext_ok (Go.Ab.Tryz.c3 x0 x1 x2 b0 b1) rfl W _ (.cons e0 (.cons (e1 _) (.cons (.v _) (.nil _))))).mono fun e W' ⟨he, hg⟩ => ?_
  subst he
  exact ⟨_, rfl, _, _, _, [], _, [], hW', trodAll_mk1 (shut_bool Tryz.underlying4 _),
    (trodAll_cons_mk (Below.trod laidOut (by kernel_rfl) (of_decide_eq_true (by kernel_rfl)) h0 hg l0) (trodAll_cons_mk (Below.trod laidOut (by kernel_rfl) (of_decide_eq_true (by kernel_rfl)) h1 hg l1) (trodAll_cons_mk (Below.trod laidOut (by kernel_rfl) (of_decide_eq_true (by kernel_rfl)) h2 hg l2) trodAll_mk0))), rfl, hg.frame _, fun h => by cases h⟩

theorem ai {a b : Bool} (h : a = true) (h2 : b = true) : (a && b) = true := by rw [h, h2]; rfl
theorem lifted_as : (Rows.requestsMatchRow.lifted == Tryz.prog.liftsFinal) = true := by rw [MN]; kernel_rfl
theorem make_as : (Tryz.prog.make == some Rows.requestsMatchRow.make) = true := by rw [P9]; kernel_rfl
set_option maxRecDepth 100000 in
theorem closed : joinedFacts Tryz.prog 3 Tryz.f3 Rows.requestsMatchSpec Rows.requestsMatchRow = true := by
  unfold joinedFacts
  refine ai (ai (ai (ai (ai (ai (ai ?a u4) lifted_as) make_as) ?b) ?c) ?d) ?e
  · kernel_rfl
  · kernel_rfl
  · kernel_rfl
  · kernel_rfl
  · kernel_rfl

theorem over : Rows.requestsMatchRow.holds Tryz.pinned (OpenSpec.ofChange Rows.requestsMatchSpec) :=
  OpenClaim.holds_of_wide 3 Tryz.f3 rfl rfl rfl rfl rfl rfl rfl ⟨rfl, rfl, rfl, rfl, rfl⟩ rfl rfl rfl rfl rfl (by kernel_rfl) Tryz.func3 closed
    (of_decide_eq_true (by kernel_rfl)) (by unfold Func.isWrapper; first | (rw [if_pos (by decide +kernel)]; kernel_rfl) | (rw [if_neg (by decide +kernel)]; exact ⟨rfl, rfl⟩))
    (fun os started H enc _ => lifted os started H enc)

theorem proved : Rows.RequestsMatchSaid :=
  over
end Go.Proofs.YtmcjkemalibacaaGreat.requestsMatch
