/-
  'CheckpointsUpdates' of the given statements: whatever the input, the law returns true and what it read reads as it did. No condition of ours. The program is evaluated by an evaluator written once (its soundness is proved in the texts before this one), and this text reads the arguments and lays the row.
-/
import Derived.Test.YtmcjkemalibacaaGreatRows
import Derived.WalkKit
import Derived.ProofKit
import Derived.OpenShut
import Derived.ChangeOld
import Derived.Test.YtmcjkemalibacaaGreatK18
import Derived.Test.YtmcjkemalibacaaGreatK17
import Derived.Test.YtmcjkemalibacaaGreatK16
namespace Go.Proofs.YtmcjkemalibacaaGreat.checkpointsUpdates
open Go.ChangeShapes Go.WideShapes Go.ChangeAt Go.RowKit
set_option linter.unusedVariables false

open Classical Go.Ab in
theorem ext_ok : Go.Ab.FE Tryz.prog := fun g xs r h => by cases h
theorem own : ownKnob Tryz.prog.godebug = none := by kernel_rfl
theorem laidOut : laidOutB Tryz.prog = true := by kernel_rfl
theorem mixed : Tryz.prog.follows .mixedOrders = true := by kernel_rfl
theorem kinds41 : Go.Ab.HM Tryz.prog 41 = some Go.Ab.X4 := by kernel_rfl

set_option maxRecDepth 100000 in
theorem lifted (os : Os) (started : os.Started) (H : Type) (enc : TypeId × Value → H) :
    ReturnsInHanded {} Tryz.checked os 15 .any (Rows.checkpointsUpdatesSpec.pre6 enc Tryz.prog Tryz.f15 Rows.checkpointsUpdatesRow.domain false) (Rows.checkpointsUpdatesSpec.post enc Tryz.prog Tryz.f15 false true false false) := by
  refine returnsInHanded_of_change (C := Tryz.checked) own started (by kernel_rfl) Tryz.func15
    (ChangeSpec.witness6 (enc := enc) (C := Tryz.checked) false ⟨#[], #[.slice none 0 0, .int .i64 0, .agg Go.Ab.zL.toArray, .agg Go.Ab.zL.toArray], []⟩ 8 (by kernel_rfl) (by kernel_rfl) (by kernel_rfl) (by kernel_rfl)) ?_
  intro W base args ds gs before SH hW hcnd _
  have Yj : ∀ (j : Nat) t v, Tryz.f15.params[j]? = some t → args[j]? = some v → Value.okWide Tryz.prog W .any base t v := SH
  have hW' := hW
  obtain ⟨p, q, hA0, hV, rfl, hfz, hnd⟩ := hW
  have hA : DataW.TrodAll enc Tryz.prog W 0 (fun _ => true) true Tryz.f15.params.toList args.toList ds p := hA0
  rw [Tryz.params15] at hA Yj
  obtain ⟨v0, vs0, d0, ds0, p0, q0, uX, rfl, rfl, h0, r0⟩ := trodAll_cons hA
  obtain ⟨v1, vs1, d1, ds1, p1, q1, rfl, rfl, rfl, h1, r1⟩ := trodAll_cons r0
  obtain ⟨v2, vs2, d2, ds2, p2, q2, rfl, rfl, rfl, h2, r2⟩ := trodAll_cons r1
  obtain ⟨v3, vs3, d3, ds3, p3, q3, rfl, rfl, rfl, h3, r3⟩ := trodAll_cons r2
  obtain ⟨rfl, rfl, rfl⟩ := trodAll_nil r3
  obtain rfl : args = #[v0, v1, v2, v3] := by cases args; simp_all
  obtain ⟨rfl, rfl⟩ := trodVars_none hV
  have l0 : ∀ x ∈ p0, x.block < W.heap.size := by obtain ⟨m, hm⟩ := h0; exact DataW.trod_lt m _ _ _ hm
  have l1 : ∀ x ∈ p1, x.block < W.heap.size := by obtain ⟨m, hm⟩ := h1; exact DataW.trod_lt m _ _ _ hm
  have l2 : ∀ x ∈ p2, x.block < W.heap.size := by obtain ⟨m, hm⟩ := h2; exact DataW.trod_lt m _ _ _ hm
  have l3 : ∀ x ∈ p3, x.block < W.heap.size := by obtain ⟨m, hm⟩ := h3; exact DataW.trod_lt m _ _ _ hm
  obtain ⟨x0, b0, e0⟩ := Go.Ab.OD Tryz.underlying22 Tryz.underlying3 (by kernel_rfl) (Yj 0 22 v0 rfl rfl) h0
  rw [← Go.Ab.FF] at e0
  obtain ⟨x1, rfl⟩ := okWide_int Tryz.underlying3 (Yj 1 3 v1 rfl rfl)
  obtain ⟨y2, k2, z2, e2⟩ := Go.Ab.Te kinds41 (Yj 2 41 v2 rfl rfl)
  obtain ⟨x2, rfl⟩ := Go.Ab.OI k2
  have b2 := Go.Ab.Tryz.NU z2
  obtain ⟨y3, k3, z3, e3⟩ := Go.Ab.Te kinds41 (Yj 3 41 v3 rfl rfl)
  obtain ⟨x3, rfl⟩ := Go.Ab.OI k3
  have b3 := Go.Ab.Tryz.NU z3
  clear hA0 SH
  refine (Go.Ab.l4 mixed ext_ok (Go.Ab.Tryz.c15 x0 x1 x2 x3 b0 b2 b3) rfl W _ (.cons e0 (.cons (.v _) (.cons (e2 _) (.cons (e3 _) (.nil _)))))).mono fun e W' ⟨he, hg⟩ => ?_
  subst he
  exact ⟨_, rfl, _, _, _, [], _, [], hW', trodAll_mk1 (shut_bool Tryz.underlying4 _),
    (trodAll_cons_mk (Below.trod laidOut (by kernel_rfl) (of_decide_eq_true (by kernel_rfl)) h0 hg l0) (trodAll_cons_mk (Below.trod laidOut (by kernel_rfl) (of_decide_eq_true (by kernel_rfl)) h1 hg l1) (trodAll_cons_mk (Below.trod laidOut (by kernel_rfl) (of_decide_eq_true (by kernel_rfl)) h2 hg l2) (trodAll_cons_mk (Below.trod laidOut (by kernel_rfl) (of_decide_eq_true (by kernel_rfl)) h3 hg l3) trodAll_mk0)))), rfl, hg.frame _, fun h => by cases h⟩

theorem ai {a b : Bool} (h : a = true) (h2 : b = true) : (a && b) = true := by rw [h, h2]; rfl
theorem lifted_as : (Rows.checkpointsUpdatesRow.lifted == Tryz.prog.liftsFinal) = true := by rw [Td]; kernel_rfl
theorem make_as : (Tryz.prog.make == some Rows.checkpointsUpdatesRow.make) = true := by rw [OH]; kernel_rfl
set_option maxRecDepth 100000 in
theorem closed : joinedFacts Tryz.prog 15 Tryz.f15 Rows.checkpointsUpdatesSpec Rows.checkpointsUpdatesRow = true := by
  unfold joinedFacts
  refine ai (ai (ai (ai (ai (ai (ai ?a FG) lifted_as) make_as) ?b) ?c) ?d) ?e
  · kernel_rfl
  · kernel_rfl
  · kernel_rfl
  · kernel_rfl
  · kernel_rfl

theorem over : Rows.checkpointsUpdatesRow.holds Tryz.pinned (OpenSpec.ofChange Rows.checkpointsUpdatesSpec) :=
  OpenClaim.holds_of_wide 15 Tryz.f15 rfl rfl rfl rfl rfl rfl rfl ⟨rfl, rfl, rfl, rfl, rfl⟩ rfl rfl rfl rfl rfl (by kernel_rfl) Tryz.func15 closed
    (of_decide_eq_true (by kernel_rfl)) (by unfold Func.isWrapper; first | (rw [if_pos (by decide +kernel)]; kernel_rfl) | (rw [if_neg (by decide +kernel)]; exact ⟨rfl, rfl⟩))
    (fun os started H enc _ => lifted os started H enc)

theorem proved : Rows.CheckpointsUpdatesSaid :=
  over
end Go.Proofs.YtmcjkemalibacaaGreat.checkpointsUpdates
