/-
  Part J8 of the proof: what functions of this program compute.
-/
import Derived.Test.YtgpkmepalmdmeaaJ7
set_option linter.all false
set_option linter.unusedSimpArgs false
set_option linter.unusedVariables false
set_option maxRecDepth 20000
set_option maxHeartbeats 4000000
namespace Go.Ab.Try
open Classical Go.Proofs Go.Ab
theorem k77 (ns : List Node) (h0 : 0 < ns.length) (hn : (ns.length : Int) < 1000000) (k : Int) : ∃ (v : Verdict) (kv : AV) (l : List Int), KeepV kv l ∧ (l.length : Int) < 1000000 ∧ ∀ (st : St) (d : Option Nat), callFn (callL Try.prog) 77 [.agg (cTree ⟨ns⟩), .v (.int .i64 k)] st d = some { dst := d, val := .tup [.agg (cVerdict v), kv] } := by
  obtain ⟨v, kv, l, h1, h2, h3⟩ := c77 ns h0 hn k
  exact ⟨v, kv, l, h1, h2, fun st d => call_flat (flat2 (flatT _) (.v _)) h3 (.tup _ (flat2 (.agg _ (flat_cVerdict _)) h1.flat))⟩
theorem same_two (q : List Node) (hq : (q.length : Int) < 1000000) (st : St) (d : Option Nat) : callFn (callL Try.prog) 33 [.agg (cTree ⟨q⟩), .agg (cTree ⟨q⟩)] st d = some { dst := d, val := .v (.bool true) } := by
  rw [k33t q q hq, decide_eq_true rfl]
/-- VerdictJudges -/
theorem c25 (l : List Int) (i j : Int) (hl : (l.length : Int) ≤ 9223372036854775807) : callL Try.prog 25 [.sl l.length (csInt l), .v (.int .i64 i), .v (.int .i64 j)] = some (.v (.bool true)) := by
  rw [callL_eq Try.prog Try.func25 rfl ok25 _ (ext_none _ (by decide)) rfl]
  have g := (c30 l hl).2
  have k0 := k30 l hl
  generalize treeOf l = ns at g k0
  have g9 := g.len9
  have g0 := g.len0
  have hn : (ns.length : Int) < 1000000 := by omega
  have hne : ((ns.length : Int) = 0) = False := eq_false (by omega)
  obtain ⟨v, kv, m, hkv, hm, h77⟩ := k77 ns g0 hn (IntKind.i64.wrap ↑(BitVec.ofInt IntKind.i64.bits j &&& BitVec.ofInt IntKind.i64.bits 16777215).toNat)
  have h78 := fun x => k78 ns g.up g.up0 hn x v m hm hkv
  have h79 := fun x => k79 ns g.up g.up0 hn x v m hm hkv
  obtain ⟨b, hb⟩ : ∃ b, decide (0 < IntKind.i64.wrap ↑(BitVec.ofInt IntKind.i64.bits i &&& BitVec.ofInt IntKind.i64.bits 7).toNat) = b := ⟨_, rfl⟩
  obtain ⟨x, hx⟩ : ∃ x, (IntKind.i64.wrap ↑(BitVec.ofInt IntKind.i64.bits (i.fdiv (2 ^ min 3 IntKind.i64.bits)) &&& BitVec.ofInt IntKind.i64.bits 65535).toNat).tmod (ns.length : Int) = x := ⟨_, rfl⟩
  have hsh := fun x => jud_shape ns hn x v m
  cases b
  · have p78 := h78 i
    have p79 := h79 i
    rcases hsh i with ⟨e, he⟩ | ⟨q, he, hq⟩
    all_goals
      rw [he] at p78 p79
      simp -implicitDefEqProofs only [ZZ, seval, ZV, k0, hne, h77, hb, p78, p79, extA, k33nn, beq_self_eq_true, k76]
    · exact endL_tmp (keep_none (by decide)) (.inl rfl) rfl (by simp only [EV, seval] <;> rfl) (.v _)
    · have hs := same_two q hq
      simp -implicitDefEqProofs only [ZZ, seval, hs, k76]
      exact endL_tmp (keep_none (by decide)) (.inl rfl) rfl (by simp only [EV, seval] <;> rfl) (.v _)
  · have p78 := h78 x
    have p79 := h79 x
    rcases hsh x with ⟨e, he⟩ | ⟨q, he, hq⟩
    all_goals
      rw [he] at p78 p79
      simp -implicitDefEqProofs only [ZZ, seval, ZV, k0, hne, h77, hb, hx, p78, p79, extA, k33nn, beq_self_eq_true, k76]
    · exact endL_tmp (keep_none (by decide)) (.inl rfl) rfl (by simp only [EV, seval] <;> rfl) (.v _)
    · have hs := same_two q hq
      simp -implicitDefEqProofs only [ZZ, seval, hs, k76]
      exact endL_tmp (keep_none (by decide)) (.inl rfl) rfl (by simp only [EV, seval] <;> rfl) (.v _)
end Go.Ab.Try
