/-
  Part A8 of the proof: what the functions of the ancestry compute.
-/
import Derived.Test.YtgpkmepalmdmeaaA7
set_option linter.all false
set_option linter.unusedSimpArgs false
set_option linter.unusedVariables false
set_option maxRecDepth 20000
set_option maxHeartbeats 4000000
namespace Go.Ab.Try
open Classical Go.Proofs Go.Ab
theorem wu64 (x : Int) (h1 : 0 ≤ x) (h2 : x < 9223372036854775808) : IntKind.u64.wrap x = x := by
  have hb : IntKind.u64.bits = 64 := rfl
  have hs : IntKind.u64.signed = false := rfl
  unfold IntKind.wrap
  simp only [hb, hs, Bool.false_and, Bool.false_eq_true, if_false]
  omega
theorem and_boundU (x m : Int) (hm : 0 ≤ m ∧ m < 9223372036854775808) : 0 ≤ IntKind.u64.wrap ↑(BitVec.ofInt IntKind.u64.bits x &&& BitVec.ofInt IntKind.u64.bits m).toNat ∧ IntKind.u64.wrap ↑(BitVec.ofInt IntKind.u64.bits x &&& BitVec.ofInt IntKind.u64.bits m).toNat ≤ m := by
  have h0 : (BitVec.ofInt IntKind.u64.bits x &&& BitVec.ofInt IntKind.u64.bits m).toNat ≤ (BitVec.ofInt IntKind.u64.bits m).toNat := by rw [BitVec.toNat_and]; exact Nat.and_le_right
  have hb : IntKind.u64.bits = 64 := rfl
  have h : (BitVec.ofInt IntKind.u64.bits (m : Int)).toNat = m.toNat := by
    rw [BitVec.toNat_ofInt, hb]
    omega
  rw [h] at h0
  rw [wu64 _ (by omega) (by omega)]
  omega
/-- AncestryLater -/
theorem c7 (l : List Int) (i s t : Int) (hl : (l.length : Int) ≤ 9223372036854775807) : callL Try.prog 7 [.sl l.length (csInt l), .v (.int .i64 i), .v (.int .u64 s), .v (.int .u64 t)] = some (.v (.bool true)) := by
  rw [callL_eq Try.prog Try.func7 rfl ok7 _ (ext_none _ (by decide)) rfl]
  have g := (c30 l hl).2
  have k0 := k30 l hl
  generalize treeOf l = ns at g k0
  have g9 := g.len9
  have g0 := g.len0
  have hn : (ns.length : Int) < 1000000 := by omega
  have hne : ((ns.length : Int) = 0) = False := eq_false (by omega)
  have h42 := k39 ns g.up g.up0
  have h45 := k42 ns g.up
  have h46 := k43 ns g.up
  obtain ⟨b1, b2⟩ := and_bound i 65535 (by decide)
  have hm := tmod_bound (n := (ns.length : Int)) b1 (by omega)
  obtain ⟨j, hj, j0, j1⟩ : ∃ j, (IntKind.i64.wrap ↑(BitVec.ofInt IntKind.i64.bits i &&& BitVec.ofInt IntKind.i64.bits 65535).toNat).tmod (ns.length : Int) = j ∧ 0 ≤ j ∧ j < ns.length := ⟨_, rfl, hm.1, hm.2⟩
  obtain ⟨u, hu, u0, u1⟩ : ∃ u, IntKind.u64.wrap ↑(BitVec.ofInt IntKind.u64.bits s &&& BitVec.ofInt IntKind.u64.bits 31).toNat = u ∧ 0 ≤ u ∧ u ≤ 31 := ⟨_, rfl, and_boundU s 31 (by decide)⟩
  obtain ⟨v, hv, v0, v1⟩ : ∃ v, IntKind.u64.wrap ↑(BitVec.ofInt IntKind.u64.bits t &&& BitVec.ofInt IntKind.u64.bits 31).toNat = v ∧ 0 ≤ v ∧ v ≤ 31 := ⟨_, rfl, and_boundU t 31 (by decide)⟩
  have hw : IntKind.u64.wrap (u + v) = u + v := wu64 _ (by omega) (by omega)
  obtain ⟨p1, p2, p3⟩ := at_fact g u0 _ j rfl j0 j1
  obtain ⟨q1, q2, q3⟩ := at_fact g (show 0 ≤ u + v by omega) _ j rfl j0 j1
  have r := q3 _ p1 (by omega)
  generalize hA : atV ns j u = a at p1 p2 p3 r
  generalize hB : atV ns j (u + v) = b at q1 q2 q3 r
  obtain ⟨⟨a0, a1⟩, _⟩ := anc_in g.up p1
  obtain ⟨⟨b0, b1'⟩, _⟩ := anc_in g.up q1
  have na : ¬ a < 0 := by omega
  have nl : ¬ (ns.length : Int) ≤ a := by omega
  have nb : ¬ b < 0 := by omega
  have nsl : ¬ u < (nd ns a).block.slot := by omega
  have hneg := heir_neg g p1
  by_cases hab : a = j
  · have hh := hneg.2 hab
    have hq : (a == j) = true := by simp [hab]
    simp -implicitDefEqProofs only [ZZ, seval, k0, hne, hj, hu, hv, hw, h42, hA, hB, na, nl, nb, nsl, a0, a1, h45, p1, r, h46, hh, hq, k41, Int.le_refl]
    exact endL_tmp (keep_none (by decide)) (.inl rfl) rfl (by simp only [EV, seval] <;> rfl) (.v _)
  · have hh : ¬ heirV ns a j < 0 := fun h => hab (hneg.1 h)
    obtain ⟨e1, e2, e3⟩ := heir_pos g p1 hab
    have hin := (anc_in g.up e2).1
    have hsl : u < (nd ns (heirV ns a j)).block.slot := by
      apply Classical.byContradiction
      intro h
      have := anc_le g.up (p3 _ e2 (by omega))
      omega
    have h0 := hin.1
    have h1 := hin.2
    simp -implicitDefEqProofs only [ZZ, seval, k0, hne, hj, hu, hv, hw, h42, hA, hB, na, nl, nb, nsl, a0, a1, h45, p1, r, h46, hh, h0, h1, hsl, k41, Int.le_refl]
    exact endL_tmp (keep_none (by decide)) (.inl rfl) rfl (by simp only [EV, seval] <;> rfl) (.v _)
end Go.Ab.Try
