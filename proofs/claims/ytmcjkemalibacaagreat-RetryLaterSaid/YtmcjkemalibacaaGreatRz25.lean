/-
  'RetryLater' of the given statements: whatever the input, the law returns true and what it read reads as it did. No condition of ours. The program is evaluated by an evaluator written once (its soundness is proved in the texts before this one), and this text reads the arguments and lays the row.
-/
import Derived.Test.YtmcjkemalibacaaGreatRows
import Derived.WalkKit
import Derived.ProofKit
import Derived.OpenShut
import Derived.ChangeOld
import Derived.Test.YtmcjkemalibacaaGreatK18
import Derived.Test.YtmcjkemalibacaaGreatK17
namespace Go.Proofs.YtmcjkemalibacaaGreat.retryLater
open Go.ChangeShapes Go.WideShapes Go.ChangeAt Go.RowKit
set_option linter.unusedVariables false

theorem own : ownKnob Tryz.prog.godebug = none := by kernel_rfl
theorem laidOut : laidOutB Tryz.prog = true := by kernel_rfl
theorem mixed : Tryz.prog.follows .mixedOrders = true := by kernel_rfl

set_option maxRecDepth 100000 in
theorem lifted (os : Os) (started : os.Started) (H : Type) (enc : TypeId × Value -> H) :
    ReturnsInHanded {} Tryz.checked os 21 .any (Rows.retryLaterSpec.pre6 enc Tryz.prog Tryz.f21 Rows.retryLaterRow.domain false) (Rows.retryLaterSpec.post enc Tryz.prog Tryz.f21 false true false false) := by
  refine returnsInHanded_of_change (C := Tryz.checked) own started (by kernel_rfl) Tryz.func21
    (ChangeSpec.witness6 (enc := enc) (C := Tryz.checked) false ⟨#[], #[.slice none 0 0, .int .i64 0], []⟩ 8 (by kernel_rfl) (by kernel_rfl) (by kernel_rfl) (by kernel_rfl)) ?_
  intro W base args ds gs before hval0 hW hcnd _
  have aB6 : ∀ (j : Nat) t v, Tryz.f21.params[j]? = some t -> args[j]? = some v -> Value.okWide Tryz.prog W .any base t v := hval0
  have hW' := hW
  obtain ⟨p, q, hA0, hV, rfl, hfz, hnd⟩ := hW
  have hA : DataW.TrodAll enc Tryz.prog W 0 (fun _ => true) true Tryz.f21.params.toList args.toList ds p := hA0
  rw [Tryz.params21] at hA aB6
  obtain ⟨v0, vs0, d0, ds0, p0, q0, vM, rfl, rfl, h0, r0⟩ := trodAll_cons hA
  obtain ⟨v1, vs1, d1, ds1, p1, q1, rfl, rfl, rfl, h1, r1⟩ := trodAll_cons r0
  obtain ⟨rfl, rfl, rfl⟩ := trodAll_nil r1
  obtain rfl : args = #[v0, v1] := by cases args; simp_all
  obtain ⟨rfl, rfl⟩ := trodVars_none hV
  have l0 : ∀ x ∈ p0, x.block < W.heap.size := by obtain ⟨m, hm⟩ := h0; exact DataW.trod_lt m _ _ _ hm
  have l1 : ∀ x ∈ p1, x.block < W.heap.size := by obtain ⟨m, hm⟩ := h1; exact DataW.trod_lt m _ _ _ hm
  obtain ⟨x0, b0, e0⟩ := Go.Ab.aBN Tryz.underlying22 Tryz.underlying3 (by kernel_rfl) (aB6 0 22 v0 rfl rfl) h0
  rw [<- Go.Ab.O4] at e0
  obtain ⟨x1, rfl⟩ := okWide_int Tryz.underlying3 (aB6 1 3 v1 rfl rfl)
  clear hA0 hval0
  refine (Go.Ab.aEW mixed Go.Ab.Tryz.aJg (Go.Ab.Tryz.c21 x0 x1 b0) rfl W _ (.cons e0 (.cons (.v _) (.nil _)))).mono fun e W' ⟨he, hg⟩ => ?_
  subst he
  exact ⟨_, rfl, _, _, _, [], _, [], hW', trodAll_mk1 (shut_bool Tryz.underlying4 _),
    (trodAll_cons_mk (Below.trod laidOut (by kernel_rfl) (of_decide_eq_true (by kernel_rfl)) h0 hg l0) (trodAll_cons_mk (Below.trod laidOut (by kernel_rfl) (of_decide_eq_true (by kernel_rfl)) h1 hg l1) trodAll_mk0)), rfl, hg.frame _, fun h => by cases h⟩

theorem ai {a b : Bool} (h : a = true) (h2 : b = true) : (a && b) = true := by rw [h, h2]; rfl
theorem lifted_as : (Rows.retryLaterRow.lifted == Tryz.prog.liftsFinal) = true := by rw [RY]; kernel_rfl
theorem make_as : (Tryz.prog.make == some Rows.retryLaterRow.make) = true := by rw [aBR]; kernel_rfl
set_option maxRecDepth 100000 in
theorem closed : joinedFacts Tryz.prog 21 Tryz.f21 Rows.retryLaterSpec Rows.retryLaterRow = true := by
  unfold joinedFacts
  refine ai (ai (ai (ai (ai (ai (ai ?a O6) lifted_as) make_as) ?b) ?c) ?d) ?e
  · kernel_rfl
  · kernel_rfl
  · kernel_rfl
  · kernel_rfl
  · kernel_rfl

theorem over : Rows.retryLaterRow.holds Tryz.pinned (OpenSpec.ofChange Rows.retryLaterSpec) :=
  OpenClaim.holds_of_wide 21 Tryz.f21 rfl rfl rfl rfl rfl rfl rfl ⟨rfl, rfl, rfl, rfl, rfl⟩ rfl rfl rfl rfl rfl (by kernel_rfl) Tryz.func21 closed
    (of_decide_eq_true (by kernel_rfl)) (by unfold Func.isWrapper; first | (rw [if_pos (by decide +kernel)]; kernel_rfl) | (rw [if_neg (by decide +kernel)]; exact ⟨rfl, rfl⟩))
    (fun os started H enc _ => lifted os started H enc)

theorem proved : Rows.RetryLaterSaid :=
  over
end Go.Proofs.YtmcjkemalibacaaGreat.retryLater
