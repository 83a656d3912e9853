/-
  Part G1 of the proof: what functions of this program compute.
-/
import Derived.Test.YtgpkmepalmdmeaaX5
set_option linter.all false
set_option linter.unusedSimpArgs false
set_option linter.unusedVariables false
set_option maxRecDepth 20000
namespace Go.Ab.Try
open Classical Go.Proofs Go.Ab
theorem w64 (x : Int) (h1 : -9223372036854775808 ≤ x) (h2 : x ≤ 9223372036854775807) : IntKind.i64.wrap x = x := wrap_i64 x h1 h2

/-- ref11.is -/
theorem c86 (ns : List Node) (i : Int) : callL Try.prog 86 [.agg (cTree ⟨ns⟩), .v (.int .i64 i)] = some (.v (.bool (decide (0 ≤ i) && decide (i < ns.length)))) := by
  rw [callL_eq Try.prog Try.func86 rfl ok86 _ (ext_none _ (by decide)) rfl]
  by_cases h : 0 ≤ i
  all_goals
    simp -implicitDefEqProofs only [ZZ, seval, h, decide_true, decide_false, Bool.false_eq_true, Bool.true_and, Bool.false_and]
    exact endL_tmp (keep_none (by decide)) (.inl rfl) rfl (by simp only [EV, seval]) (.v _)
theorem k86 (ns : List Node) (i : Int) (st : St) (d : Option Nat) : callFn (callL Try.prog) 86 [.agg (cTree ⟨ns⟩), .v (.int .i64 i)] st d = some { dst := d, val := .v (.bool (decide (0 ≤ i) && decide (i < ns.length))) } := call_flat (flat2 (flatT _) (.v _)) (c86 ns i) (.v _)

def isSt (n : Int) : Bool := decide (0 ≤ n) && decide (n ≤ 2)
theorem c94 (i : Int) : callL Try.prog 94 [.v (.int .i64 i)] = some (.v (.bool (isSt i))) := by
  rw [callL_eq Try.prog Try.func94 rfl ok94 _ (ext_none _ (by decide)) rfl]
  by_cases h : 0 ≤ i
  all_goals
    simp -implicitDefEqProofs only [ZZ, seval, h, decide_true, decide_false, Bool.false_eq_true, Bool.true_and, Bool.false_and]
    exact endL_tmp (keep_none (by decide)) (.inl rfl) rfl (by simp only [EV, seval, isSt, h, decide_true, decide_false, Bool.false_and, Bool.true_and]) (.v _)
theorem c90 (i : Int) : callL Try.prog 90 [.v (.int .i64 i)] = some (.v (.bool (isSt i))) := by
  rw [callL_eq Try.prog Try.func90 rfl ok90 _ (ext_none _ (by decide)) rfl]
  by_cases h : 0 ≤ i
  all_goals
    simp -implicitDefEqProofs only [ZZ, seval, h, decide_true, decide_false, Bool.false_eq_true, Bool.true_and, Bool.false_and]
    exact endL_tmp (keep_none (by decide)) (.inl rfl) rfl (by simp only [EV, seval, isSt, h, decide_true, decide_false, Bool.false_and, Bool.true_and]) (.v _)

/-- The index of a root, or -1. -/
noncomputable def findR (ns : List Node) (r : Root) : Int := match ns.findIdx? (fun n => decide (n.block.root = r)) with
  | some k => (k : Int)
  | none => -1
theorem findR_at {ns : List Node} {r : Root} {i : Int} (h0 : 0 ≤ i) (h1 : i < ns.length) (hr : (nd ns i).block.root = r) (hb : ∀ j, 0 ≤ j → j < i → (nd ns j).block.root ≠ r) : findR ns r = i := by
  obtain ⟨hi, e⟩ := nd_get h0 h1
  have : ns.findIdx? (fun n => decide (n.block.root = r)) = some i.toNat := by
    rw [List.findIdx?_eq_some_iff_getElem]
    refine ⟨hi, by simp [← e, hr], fun j hj => ?_⟩
    have h := hb j (by omega) (by omega)
    have hj' : j < ns.length := by omega
    simp [nd, hj'] at h
    simpa using h
  unfold findR
  rw [this]
  simp; omega
theorem findR_none {ns : List Node} {r : Root} (hb : ∀ j, 0 ≤ j → j < (ns.length : Int) → (nd ns j).block.root ≠ r) : findR ns r = -1 := by
  have : ns.findIdx? (fun n => decide (n.block.root = r)) = none := by
    rw [List.findIdx?_eq_none_iff]
    intro n hn
    obtain ⟨j, hj, rfl⟩ := List.getElem_of_mem hn
    have h := hb j (by omega) (by omega)
    simp [nd, hj] at h
    simpa using h
  unfold findR
  rw [this]

/-- ref11.Find -/
theorem c60 (ns : List Node) (r : Root) (hn : (ns.length : Int) < 1000000) : callL Try.prog 60 [.agg (cTree ⟨ns⟩), .agg (cRoot r)] = some (.v (.int .i64 (findR ns r))) := by
  rw [callL_eq Try.prog Try.func60 rfl ok60 _ (ext_none _ (by decide)) rfl]
  simp -implicitDefEqProofs only [ZZ, seval]
  refine use_loop (fun n st => ∃ i : Int, st.env 2 = .ptr 2 0 0 ∧ st.env 3 = .ptr 3 0 0 ∧ st.heap 2 0 = some (.cells (cTree ⟨ns⟩)) ∧ st.heap 3 0 = some (.cells (cRoot r)) ∧ st.env 5 = .v (.int .i64 i) ∧ 0 ≤ i ∧ i ≤ ns.length ∧ n = (ns.length - i).toNat ∧
      ∀ j, 0 ≤ j → j < i → (nd ns j).block.root ≠ r)
    (fun e st => (e = .ret ∧ st.env 4 = .v (.int .i64 (findR ns r))) ∨ (e = .exit 0 ∧ findR ns r = -1)) ns.length ?step ?start ?rest
  case step =>
    rintro n st ⟨i, h2, h3, hh2, hh3, h5, i0, i1, hn', hb⟩
    by_cases hlt : i < ns.length
    · have hw : IntKind.i64.wrap (i + 1) = i + 1 := w64 _ (by omega) (by omega)
      by_cases hr : (nd ns i).block.root = r
      · refine go_out (e := .ret) (st' := ?s1) ?h1 (by simp) ?q1
        case h1 =>
          simp -implicitDefEqProofs only [ZZ, seval, h2, h3, hh2, hh3, h5, hlt, i0, hr]
          rfl
        case q1 => exact .inl ⟨rfl, by simp only [EV, seval, findR_at i0 hlt hr hb]⟩
      · refine go_on (st' := ?s2) ?h2 ((ns.length - (i + 1)).toNat) (by omega) ?q2
        case h2 =>
          simp -implicitDefEqProofs only [ZZ, seval, h2, h3, hh2, hh3, h5, hlt, i0, hr, hw]
          rfl
        case q2 => exact ⟨i + 1, by simp only [EV, seval, h2], by simp only [EV, seval, h3], by simp only [EV, seval, hh2], by simp only [EV, seval, hh3], (by simp only [EV, seval]), by omega, by omega, rfl, fun j j0 j1 => by
          rcases Int.lt_or_eq_of_le (show j ≤ i by omega) with h | rfl
          · exact hb j j0 h
          · exact hr⟩
    · refine go_out (e := .exit 0) (st' := ?s3) ?h3 (by simp) ?q3
      case h3 =>
        simp -implicitDefEqProofs only [ZZ, seval, h2, h3, hh2, hh3, h5, hlt, i0]
        rfl
      case q3 => exact .inr ⟨rfl, findR_none fun j j0 j1 => hb j j0 (by omega)⟩
  case start => exact ⟨0, (by simp only [EV, seval]), (by simp only [EV, seval]), (by simp only [EV, seval]), (by simp only [EV, seval]), (by simp only [EV, seval]), by omega, by omega, by omega, fun j _ _ => by omega⟩
  case rest =>
    rintro e st (⟨rfl, h⟩ | ⟨rfl, h⟩)
    · simp -implicitDefEqProofs only [ZZ, seval]
      exact endL_tmp (keep_none (by decide)) (.inl rfl) rfl h (.v _)
    · simp -implicitDefEqProofs only [ZZ, seval]
      exact endL_tmp (keep_none (by decide)) (.inl rfl) rfl (by simp only [EV, seval, h]) (.v _)
end Go.Ab.Try
