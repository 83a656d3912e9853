/-
  Part J7 of the proof: what functions of this program compute.
-/
import Derived.Test.YtgpkmepalmdmeaaJ6
set_option linter.all false
set_option linter.unusedSimpArgs false
set_option linter.unusedVariables false
set_option maxRecDepth 20000
set_option maxHeartbeats 4000000
namespace Go.Ab.Try
open Classical Go.Proofs Go.Ab
/-- awake -/
theorem c76 : callL Try.prog 76 [] = some (.v (.bool true)) := by
  rw [callL_eq Try.prog Try.func76 rfl ok76 _ (ext_none _ (by decide)) rfl]
  obtain ⟨r, hr, l4, r1, r2, r3⟩ := chJud
  have hc := c78 (chn 3) chUp rfl (by decide) 3 ⟨zVerdict.tagged, 2, mkRoot 101⟩ [0] (by decide) (kv := .sl 1 (csInt [0])) (.inl rfl)
  have hf := flat_judV (chn 3) 3 ⟨zVerdict.tagged, 2, mkRoot 101⟩ [0]
  rw [hr] at hc hf
  have h78 := fun s k d => EQ_of (s := s) (k := k) (d := d) hc hf
  have h100 := k100
  generalize chn 3 = w at h78 h100
  have l1 : (1 : Int) < r.length := by omega
  have l2 : (2 : Int) < r.length := by omega
  have l3 : (3 : Int) < r.length := by omega
  have lq : ((r.length : Int) == 4) = true := by simp [l4]
  have hexp : ∀ st : St, expo st (.agg (cVerdict ⟨zVerdict.tagged, 2, mkRoot 101⟩)) = some (.agg (cVerdict ⟨zVerdict.tagged, 2, mkRoot 101⟩)) := fun st => expo_id (.agg _ (flat_cVerdict _))
  have hx1 : expoF (some (.row 3 1 1 [.v (.int .i64 0)])) = some (.sl 1 (csInt [0])) := expoF_int 3 1 1 [0]
  simp -implicitDefEqProofs only [ZZ, seval, ZV, h100, k53, e78, hx1, h78, hexp, extA, l1, l2, l3, lq, r1, r2, r3, Int.zero_le_ofNat, beq_self_eq_true]
  exact endL_tmp (keep_none (by decide)) (.inl rfl) rfl (by simp only [EV, seval] <;> rfl) (.v _)
theorem k76 (st : St) (d : Option Nat) : callFn (callL Try.prog) 76 [] st d = some { dst := d, val := .v (.bool true) } := call_flat (by simp) c76 (.v _)
/-- VerdictReaches -/
theorem c24 (l : List Int) (i j : Int) (hl : (l.length : Int) ≤ 9223372036854775807) : callL Try.prog 24 [.sl l.length (csInt l), .v (.int .i64 i), .v (.int .i64 j)] = some (.v (.bool true)) := by
  rw [callL_eq Try.prog Try.func24 rfl ok24 _ (ext_none _ (by decide)) rfl]
  have g := (c30 l hl).2
  have k0 := k30 l hl
  generalize treeOf l = ns at g k0
  have g9 := g.len9
  have g0 := g.len0
  have hn : (ns.length : Int) < 1000000 := by omega
  obtain ⟨r, h73⟩ := k73 ns g0 hn (IntKind.i64.wrap ↑(BitVec.ofInt IntKind.i64.bits j &&& BitVec.ofInt IntKind.i64.bits 16777215).toNat)
  have h74 := fun i => k74 ns g.up g.up0 hn i r
  have h75 := fun i => k75 ns g.up g.up0 hn i r
  simp -implicitDefEqProofs only [ZZ, seval, k0, h73]
  refine use_loop (fun n st => ∃ k : Int, (st.env 1 = .v (.int .i64 i) ∧ st.env 7 = .ptr 7 0 0 ∧ st.heap 7 0 = some (.cells (cTree ⟨ns⟩)) ∧ st.env 8 = .ptr 8 0 0 ∧ st.heap 8 0 = some (.cells (cRoot r)) ∧ st.env 9 = .v (.int .i64 k)) ∧ -1 ≤ k ∧ k ≤ ns.length + 1 ∧ n = (ns.length + 1 - k).toNat)
    (fun e st => e = .exit 0 ∧ st.env 1 = .v (.int .i64 i) ∧ st.env 7 = .ptr 7 0 0 ∧ st.heap 7 0 = some (.cells (cTree ⟨ns⟩)) ∧ st.env 8 = .ptr 8 0 0 ∧ st.heap 8 0 = some (.cells (cRoot r))) (ns.length + 2) ?step ?start ?rest
  case step =>
    rintro n st ⟨k, hI, hk0, hk1, hn'⟩
    by_cases hlt : (ns.length : Int) < k
    · have hd : decide (k ≤ (ns.length : Int)) = false := decide_eq_false (by omega)
      refine go_out (e := .exit 0) (st' := ?s1) ?h1 (by simp) ?q1
      case h1 =>
        simp -implicitDefEqProofs only [ZZ, seval, hI, hd]
        rfl
      case q1 => exact ⟨rfl, by simp only [EV, seval, hI]⟩
    · have hd : decide (k ≤ (ns.length : Int)) = true := decide_eq_true (by omega)
      have hw : IntKind.i64.wrap (k + 1) = k + 1 := w64 _ (by omega) (by omega)
      refine go_on (st' := ?s2) ?h2 ((ns.length + 1 - (k + 1)).toNat) (by omega) ?q2
      case h2 =>
        simp -implicitDefEqProofs only [ZZ, seval, hI, hd, hw, h74, h75, bne_self_eq_false, extA]
        rfl
      case q2 => exact ⟨k + 1, by simp only [EV, seval, hI], by omega, by omega, rfl⟩
  case start => exact ⟨-1, (by simp only [EV, seval]), by omega, by omega, by omega⟩
  case rest =>
    rintro e st ⟨rfl, hI⟩
    simp -implicitDefEqProofs only [ZZ, seval, hI, h74, h75, beq_self_eq_true, k76, extA]
    exact endL_tmp (keep_none (by decide)) (.inl rfl) rfl (by simp only [EV, seval] <;> rfl) (.v _)
end Go.Ab.Try
