/-
  'TopStatuses' of the given statements: whatever the input, the law returns true and what it read reads as it did. No condition of ours. The program is evaluated by an evaluator written once (its soundness is proved in the texts before this one), and this text reads the arguments and lays the row.
-/
import Derived.Test.YthkgnakbkaafgaaGreatRows
import Derived.WalkKit
import Derived.ProofKit
import Derived.OpenShut
import Derived.ChangeOld
import Derived.Test.YthkgnakbkaafgaaGreatK21
import Derived.Test.YthkgnakbkaafgaaGreatK20
namespace Go.Proofs.YthkgnakbkaafgaaGreat.topStatuses
open Go.ChangeShapes Go.WideShapes Go.ChangeAt Go.RowKit
set_option linter.unusedVariables false

theorem own : ownKnob Tryz.prog.godebug = none := by kernel_rfl
theorem laidOut : laidOutB Tryz.prog = true := by kernel_rfl
theorem mixed : Tryz.prog.follows .mixedOrders = true := by kernel_rfl

set_option maxRecDepth 100000 in
theorem lifted (os : Os) (started : os.Started) (H : Type) (enc : TypeId × Value -> H) :
    ReturnsInHanded {} Tryz.checked os 3 .any (Rows.topStatusesSpec.pre6 enc Tryz.prog Tryz.f3 Rows.topStatusesRow.domain false) (Rows.topStatusesSpec.post enc Tryz.prog Tryz.f3 false true false false) := by
  refine returnsInHanded_of_change (C := Tryz.checked) own started (by kernel_rfl) Tryz.func3
    (ChangeSpec.witness6 (enc := enc) (C := Tryz.checked) false ⟨#[], #[.slice none 0 0], []⟩ 8 (by kernel_rfl) (by kernel_rfl) (by kernel_rfl) (by kernel_rfl)) ?_
  intro W base args ds gs before hval0 hW hcnd _
  have aLe : ∀ (j : Nat) t v, Tryz.f3.params[j]? = some t -> args[j]? = some v -> Value.okWide Tryz.prog W .any base t v := hval0
  have hW' := hW
  obtain ⟨p, q, hA0, hV, rfl, hfz, hnd⟩ := hW
  have hA : DataW.TrodAll enc Tryz.prog W 0 (fun _ => true) true Tryz.f3.params.toList args.toList ds p := hA0
  rw [Tryz.params3] at hA aLe
  obtain ⟨v0, vs0, d0, ds0, p0, q0, Uh, rfl, rfl, h0, r0⟩ := trodAll_cons hA
  obtain ⟨rfl, rfl, rfl⟩ := trodAll_nil r0
  obtain rfl : args = #[v0] := by cases args; simp_all
  obtain ⟨rfl, rfl⟩ := trodVars_none hV
  have l0 : ∀ x ∈ p0, x.block < W.heap.size := by obtain ⟨m, hm⟩ := h0; exact DataW.trod_lt m _ _ _ hm
  obtain ⟨x0, b0, e0⟩ := Go.Ab.aHq Tryz.underlying22 Tryz.underlying3 (by kernel_rfl) (aLe 0 22 v0 rfl rfl) h0
  rw [<- Go.Ab.Wv] at e0
  clear hA0 hval0
  refine (Go.Ab.Tryz.aX2 x0 b0 W _ (.cons e0 (.nil _))).mono fun e W' ⟨he, hg⟩ => ?_
  subst he
  exact ⟨_, rfl, _, _, _, [], _, [], hW', trodAll_mk1 (shut_bool Tryz.underlying4 _),
    (trodAll_cons_mk (Below.trod laidOut (by kernel_rfl) (of_decide_eq_true (by kernel_rfl)) h0 hg l0) trodAll_mk0), rfl, hg.frame _, fun h => by cases h⟩

theorem ai {a b : Bool} (h : a = true) (h2 : b = true) : (a && b) = true := by rw [h, h2]; rfl
theorem lifted_as : (Rows.topStatusesRow.lifted == Tryz.prog.liftsFinal) = true := by rw [B8]; kernel_rfl
theorem make_as : (Tryz.prog.make == some Rows.topStatusesRow.make) = true := by rw [aHu]; kernel_rfl
set_option maxRecDepth 100000 in
theorem closed : joinedFacts Tryz.prog 3 Tryz.f3 Rows.topStatusesSpec Rows.topStatusesRow = true := by
  unfold joinedFacts
  refine ai (ai (ai (ai (ai (ai (ai ?a aDA) lifted_as) make_as) ?b) ?c) ?d) ?e
  · kernel_rfl
  · kernel_rfl
  · kernel_rfl
  · kernel_rfl
  · kernel_rfl

theorem over : Rows.topStatusesRow.holds Tryz.pinned (OpenSpec.ofChange Rows.topStatusesSpec) :=
  OpenClaim.holds_of_wide 3 Tryz.f3 rfl rfl rfl rfl rfl rfl rfl ⟨rfl, rfl, rfl, rfl, rfl⟩ rfl rfl rfl rfl rfl (by kernel_rfl) Tryz.func3 closed
    (of_decide_eq_true (by kernel_rfl)) (by unfold Func.isWrapper; first | (rw [if_pos (by decide +kernel)]; kernel_rfl) | (rw [if_neg (by decide +kernel)]; exact ⟨rfl, rfl⟩))
    (fun os started H enc _ => lifted os started H enc)

theorem proved : Rows.TopStatusesSaid :=
  over
end Go.Proofs.YthkgnakbkaafgaaGreat.topStatuses
