/-
  Part J5 of the proof: what functions of this program compute.
-/
import Derived.Test.YtgpkmepalmdmeaaJ4
set_option linter.all false
set_option linter.unusedSimpArgs false
set_option linter.unusedVariables false
set_option maxRecDepth 20000
set_option maxHeartbeats 4000000
namespace Go.Ab.Try
open Classical Go.Proofs Go.Ab
theorem ao_two (x : Int) : aoE 3 1 8 (some (.row 3 1 1 (csInt [0]))) 21 0 (some (1, [.v (.int .i64 x)])) = some (some (21, 0), .row 3 1 2 (csInt [0, x])) := ao_int1 [0] x 21 0 (by decide)
/-- Built -/
theorem c77 (ns : List Node) (h0 : 0 < ns.length) (hn : (ns.length : Int) < 1000000) (k : Int) : ∃ (v : Verdict) (kv : AV) (l : List Int), KeepV kv l ∧ (l.length : Int) < 1000000 ∧ callL Try.prog 77 [.agg (cTree ⟨ns⟩), .v (.int .i64 k)] = some (.tup [.agg (cVerdict v), kv]) := by
  rw [callL_eq Try.prog Try.func77 rfl ok77 _ (ext_none _ (by decide)) rfl]
  obtain ⟨r, h73⟩ := k73 ns h0 hn (k.fdiv (2 ^ min 3 IntKind.i64.bits))
  obtain ⟨a, ha⟩ : ∃ a, IntKind.i64.wrap ↑(BitVec.ofInt IntKind.i64.bits k &&& BitVec.ofInt IntKind.i64.bits 7).toNat = a := ⟨_, rfl⟩
  obtain ⟨b, hb⟩ : ∃ b, (IntKind.i64.wrap ↑(BitVec.ofInt IntKind.i64.bits (k.fdiv (2 ^ min 20 IntKind.i64.bits)) &&& BitVec.ofInt IntKind.i64.bits 1).toNat == 1) = b := ⟨_, rfl⟩
  obtain ⟨c, hc⟩ : ∃ c, (IntKind.i64.wrap ↑(BitVec.ofInt IntKind.i64.bits (k.fdiv (2 ^ min 21 IntKind.i64.bits)) &&& BitVec.ofInt IntKind.i64.bits 3).toNat == 3) = c := ⟨_, rfl⟩
  have hne : ((ns.length : Int) = 0) = False := eq_false (by omega)
  obtain ⟨x, hx⟩ : ∃ x, (IntKind.i64.wrap ↑(BitVec.ofInt IntKind.i64.bits (k.fdiv (2 ^ min 4 IntKind.i64.bits)) &&& BitVec.ofInt IntKind.i64.bits 65535).toNat).tmod (ns.length : Int) = x := ⟨_, rfl⟩
  cases b <;> cases c
  · refine ⟨⟨⟨0⟩, a, r⟩, .v (.slice none 0 0), [], .inr ⟨rfl, rfl⟩, by decide, ?_⟩
    simp -implicitDefEqProofs only [ZZ, seval, ZV, h73, ha, hb, hc, hx, hne]
    exact endL_two (keep_none (by decide)) (.inl rfl) rfl (by simp -implicitDefEqProofs only [resA, ZZ, ZV, seval] <;> rfl) (by simp only [resA, EV, seval] <;> rfl) (expo_id (.agg _ (flat_cVerdict _))) (by simp only [EV, seval] <;> rfl)
  · refine ⟨⟨⟨0⟩, a, r⟩, .sl 1 (csInt [x]), [x], .inl rfl, by simp, ?_⟩
    simp -implicitDefEqProofs only [ZZ, seval, ZV, h73, ha, hb, hc, hx, hne]
    exact endL_two (keep_none (by decide)) (.inl rfl) rfl (by simp -implicitDefEqProofs only [resA, ZZ, ZV, seval] <;> rfl) (by simp only [resA, EV, seval] <;> rfl) (expo_id (.agg _ (flat_cVerdict _))) (by simp only [EV, seval] <;> rfl)
  · refine ⟨⟨⟨0⟩, a, r⟩, .sl 1 (csInt [0]), [0], .inl rfl, by simp, ?_⟩
    simp -implicitDefEqProofs only [ZZ, seval, ZV, h73, ha, hb, hc, hx, hne]
    exact endL_two (keep_none (by decide)) (.inl rfl) rfl (by simp -implicitDefEqProofs only [resA, ZZ, ZV, seval] <;> rfl) (by simp only [resA, EV, seval] <;> rfl) (expo_id (.agg _ (flat_cVerdict _))) (by simp only [EV, seval] <;> rfl)
  · refine ⟨⟨⟨0⟩, a, r⟩, .sl 2 (csInt [0, x]), [0, x], .inl rfl, by simp, ?_⟩
    simp -implicitDefEqProofs only [ZZ, seval, ZV, h73, ha, hb, hc, hx, hne, ao_two]
    exact endL_two (keep_none (by decide)) (.inl rfl) rfl (by simp -implicitDefEqProofs only [resA, ZZ, ZV, seval] <;> rfl) (by simp only [resA, EV, seval] <;> rfl) (expo_id (.agg _ (flat_cVerdict _))) (by simp only [EV, seval] <;> rfl)
end Go.Ab.Try
