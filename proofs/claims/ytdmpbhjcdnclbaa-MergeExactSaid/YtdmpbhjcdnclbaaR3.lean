/-
  Part R3 of the proof: an evaluator of the programs written in Lean once, its soundness, and the values that this program computes.
-/
import Derived.Test.YtdmpbhjcdnclbaaRows
import Derived.WalkKit
import Derived.ProofKit
import Derived.OpenShut
import Derived.ChangeOld
import Derived.Test.YtdmpbhjcdnclbaaM3a
import Derived.Test.YtdmpbhjcdnclbaaM3b
import Derived.Test.YtdmpbhjcdnclbaaAb21
namespace Go.Proofs.Ytdmpbhjcdnclbaa.mergeExact
open Go.ChangeShapes Go.WideShapes Go.ChangeAt Go.RowKit
set_option linter.unusedVariables false

theorem own : ownKnob Try.prog.godebug = none := by kernel_rfl
theorem laidOut : laidOutB Try.prog = true := by kernel_rfl
theorem mixed : Try.prog.follows .mixedOrders = true := by kernel_rfl
theorem kinds24 : Go.Ab.kindsOf Try.prog 24 = some (List.replicate 4 (some .u64)) := by kernel_rfl
theorem kinds32 : Go.Ab.kindsOf Try.prog 32 = some Go.Ab.kBlock := by kernel_rfl

theorem walk (v0 v1 v2 v3 : Value) (w : World) {base : Nat} (h0 : Value.okWide Try.prog w .any base 24 v0) (h1 : Value.okWide Try.prog w .any base 32 v1) (h2 : Value.okWide Try.prog w .any base 32 v2) (h3 : Value.okWide Try.prog w .any base 3 v3) :
    Calls Try.prog 3 #[v0, v1, v2, v3] w fun e w' => e = .returned (.bool true) ∧ Below w.heap.size w w' := by
  obtain ⟨l0, k0, r0⟩ := Go.Ab.open_kinds kinds24 h0
  obtain ⟨l1, k1, r1⟩ := Go.Ab.open_kinds kinds32 h1
  obtain ⟨l2, k2, r2⟩ := Go.Ab.open_kinds kinds32 h2
  obtain ⟨x0, rfl⟩ := Go.Ab.dec_Wide k0
  obtain ⟨x1, rfl⟩ := Go.Ab.dec_Block k1
  obtain ⟨x2, rfl⟩ := Go.Ab.dec_Block k2
  obtain ⟨x3, rfl⟩ := okWide_int Try.underlying3 h3
  exact Go.Ab.walk_of mixed (Go.Ab.Try.c3 x0 x1 x2 x3 Go.Ab.Try.k12) w _ (.cons (r0 _) (.cons (r1 _) (.cons (r2 _) (.cons (.v _) (.nil _)))))

set_option maxRecDepth 100000 in
theorem lifted (os : Os) (started : os.Started) (H : Type) (enc : TypeId × Value → H) :
    ReturnsInHanded {} Try.checked os 3 .any (Rows.mergeExactSpec.pre6 enc Try.prog Try.f3 Rows.mergeExactRow.domain false) (Rows.mergeExactSpec.post enc Try.prog Try.f3 false true false false) := by
  refine returnsInHanded_of_change (C := Try.checked) own started (by kernel_rfl) Try.func3
    (ChangeSpec.witness6 (enc := enc) (C := Try.checked) false ⟨#[], #[.agg (Array.replicate 4 (.int .u64 0)), .agg Go.Ab.vBlock.toArray, .agg Go.Ab.vBlock.toArray, .int .i64 0], []⟩ 8 (by kernel_rfl) (by kernel_rfl) (by kernel_rfl) (by kernel_rfl)) ?_
  intro W base args ds gs before hval0 hW hcnd _
  have hval : ∀ (j : Nat) t v, Try.f3.params[j]? = some t → args[j]? = some v → Value.okWide Try.prog W .any base t v := hval0
  have hW' := hW
  obtain ⟨p, q, hA0, hV, rfl, hfz, hnd⟩ := hW
  have hA : DataW.TrodAll enc Try.prog W 0 (fun _ => true) true Try.f3.params.toList args.toList ds p := hA0
  rw [Try.params3] at hA hval
  obtain ⟨v0, vs0, d0, ds0, p0, q0, hargs, rfl, rfl, h0, r0⟩ := trodAll_cons hA
  obtain ⟨v1, vs1, d1, ds1, p1, q1, rfl, rfl, rfl, h1, r1⟩ := trodAll_cons r0
  obtain ⟨v2, vs2, d2, ds2, p2, q2, rfl, rfl, rfl, h2, r2⟩ := trodAll_cons r1
  obtain ⟨v3, vs3, d3, ds3, p3, q3, rfl, rfl, rfl, h3, r3⟩ := trodAll_cons r2
  obtain ⟨rfl, rfl, rfl⟩ := trodAll_nil r3
  obtain rfl : args = #[v0, v1, v2, v3] := by cases args; simp_all
  obtain ⟨rfl, rfl⟩ := trodVars_none hV
  have l0 : ∀ x ∈ p0, x.block < W.heap.size := by obtain ⟨m, hm⟩ := h0; exact DataW.trod_lt m _ _ _ hm
  have l1 : ∀ x ∈ p1, x.block < W.heap.size := by obtain ⟨m, hm⟩ := h1; exact DataW.trod_lt m _ _ _ hm
  have l2 : ∀ x ∈ p2, x.block < W.heap.size := by obtain ⟨m, hm⟩ := h2; exact DataW.trod_lt m _ _ _ hm
  have l3 : ∀ x ∈ p3, x.block < W.heap.size := by obtain ⟨m, hm⟩ := h3; exact DataW.trod_lt m _ _ _ hm
  clear hA0 hval0
  refine (walk v0 v1 v2 v3 W (hval 0 24 v0 rfl rfl) (hval 1 32 v1 rfl rfl) (hval 2 32 v2 rfl rfl) (hval 3 3 v3 rfl rfl)).mono fun e W' ⟨he, hg⟩ => ?_
  subst he
  exact ⟨_, rfl, _, _, _, [], _, [], hW', trodAll_mk1 (shut_bool Try.underlying4 _),
    (trodAll_cons_mk (Below.trod laidOut (by kernel_rfl) (of_decide_eq_true (by kernel_rfl)) h0 hg l0)
    (trodAll_cons_mk (Below.trod laidOut (by kernel_rfl) (of_decide_eq_true (by kernel_rfl)) h1 hg l1)
    (trodAll_cons_mk (Below.trod laidOut (by kernel_rfl) (of_decide_eq_true (by kernel_rfl)) h2 hg l2)
    (trodAll_cons_mk (Below.trod laidOut (by kernel_rfl) (of_decide_eq_true (by kernel_rfl)) h3 hg l3) trodAll_mk0)))), rfl, hg.frame _, fun h => by cases h⟩

theorem over : Rows.mergeExactRow.holds Try.pinned (OpenSpec.ofChange Rows.mergeExactSpec) :=
  OpenClaim.holds_of_wide 3 Try.f3 rfl rfl rfl rfl rfl rfl rfl ⟨rfl, rfl, rfl, rfl, rfl⟩ rfl rfl rfl rfl rfl (by kernel_rfl) Try.func3 (by kernel_rfl)
    (of_decide_eq_true (by kernel_rfl)) (by unfold Func.isWrapper; first | (rw [if_pos (by decide +kernel)]; kernel_rfl) | (rw [if_neg (by decide +kernel)]; exact ⟨rfl, rfl⟩))
    (fun os started H enc _ => lifted os started H enc)

theorem proved : Rows.MergeExactSaid :=
  over
end Go.Proofs.Ytdmpbhjcdnclbaa.mergeExact
