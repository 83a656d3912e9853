/-
  Part B5 of the proof: the common ancestor.
-/
import Derived.Test.YtgpkmepalmdmeaaA11
set_option linter.all false
set_option linter.unusedSimpArgs false
set_option linter.unusedVariables false
set_option maxRecDepth 20000
set_option maxHeartbeats 4000000
namespace Go.Ab.Try
open Classical Go.Proofs Go.Ab
/-- ref11.Descendants -/
theorem c36 (ns : List Node) (hu : UpOk ns) (hn : (ns.length : Int) < 1000000) (i : Int) : callL Try.prog 36 [.agg (cTree ⟨ns⟩), .v (.int .i64 i)] = some (if dsc ns i ns.length = [] then .v (.slice none 0 0) else .uniq 3 1 (dsc ns i ns.length).length (csInt (dsc ns i ns.length))) := by
  rw [callL_eq Try.prog Try.func36 rfl ok36 _ (ext_none _ (by decide)) rfl]
  have h41 := k46 ns hu hn
  simp -implicitDefEqProofs only [ZZ, seval]
  refine use_loop (fun n st => ∃ k : Nat, st.env 1 = .v (.int .i64 i) ∧ st.env 2 = .ptr 2 0 0 ∧ st.heap 2 0 = some (.cells (cTree ⟨ns⟩)) ∧ st.env 6 = .v (.int .i64 k) ∧
      ((dsc ns i k = [] ∧ st.env 5 = .v (.slice none 0 0)) ∨ (dsc ns i k ≠ [] ∧ ∃ g, st.env 5 = .own 21 g ∧ g < st.cnt 21 ∧ st.heap 21 g = some (.row 3 1 (dsc ns i k).length (csInt (dsc ns i k))))) ∧ k ≤ ns.length ∧ n = ns.length - k)
    (fun e st => e = .exit 0 ∧ ((dsc ns i ns.length = [] ∧ st.env 5 = .v (.slice none 0 0)) ∨ (dsc ns i ns.length ≠ [] ∧ ∃ g, st.env 5 = .own 21 g ∧ g < st.cnt 21 ∧ st.heap 21 g = some (.row 3 1 (dsc ns i ns.length).length (csInt (dsc ns i ns.length)))))) ns.length ?step ?start ?rest
  case step =>
    rintro n st ⟨k, h1, h2, hh2, h6, h5, hk, hn'⟩
    have hdl := dsc_len ns i k
    have hdl' : ((dsc ns i k).length : Int) < 1000000 := by omega
    by_cases hlt : (k : Int) < ns.length
    · have hw : IntKind.i64.wrap ((k : Int) + 1) = ((k + 1 : Nat) : Int) := by rw [w64 _ (by omega) (by omega)]; omega
      cases ha : anc ns i k
      · have hs : dsc ns i (k + 1) = dsc ns i k := by simp only [dsc, ha, Bool.false_eq_true, if_false]
        rcases h5 with ⟨hy, h5⟩ | ⟨hy, g, h5, hg, hh5⟩
        · refine go_on (st' := ?s1) ?h1 (ns.length - (k + 1)) (by omega) ?q1
          case h1 =>
            simp -implicitDefEqProofs only [ZZ, seval, h1, h2, hh2, h6, h5, hlt, hw, h41, ha]
            rfl
          case q1 => exact ⟨k + 1, by simp only [EV, seval, h1], by simp only [EV, seval, h2], by simp only [EV, seval, hh2], (by simp only [EV, seval]), .inl ⟨by rw [hs]; exact hy, by simp only [EV, seval, h5]⟩, by omega, rfl⟩
        · refine go_on (st' := ?s2) ?h2 (ns.length - (k + 1)) (by omega) ?q2
          case h2 =>
            simp -implicitDefEqProofs only [ZZ, seval, h1, h2, hh2, h6, h5, hh5, hlt, hw, h41, ha]
            rfl
          case q2 => exact ⟨k + 1, by simp only [EV, seval, h1], by simp only [EV, seval, h2], by simp only [EV, seval, hh2], (by simp only [EV, seval]), .inr ⟨by rw [hs]; exact hy, g, by simp only [EV, seval, h5], (by simp only [EV, seval] <;> omega), (by rw [hs]; simp only [EV, seval, hh5])⟩, by omega, rfl⟩
      · have hs : dsc ns i (k + 1) = dsc ns i k ++ [(k : Int)] := by simp only [dsc, ha, if_true]
        rcases h5 with ⟨hy, h5⟩ | ⟨hy, g, h5, hg, hh5⟩
        · rw [hy] at hs
          refine go_on (st' := ?s3) ?h3 (ns.length - (k + 1)) (by omega) ?q3
          case h3 =>
            simp -implicitDefEqProofs only [ZZ, seval, h1, h2, hh2, h6, h5, hlt, hw, h41, ha]
            rfl
          case q3 => exact ⟨k + 1, by simp only [EV, seval, h1], by simp only [EV, seval, h2], by simp only [EV, seval, hh2], (by simp only [EV, seval]), .inr ⟨by rw [hs]; simp, _, by simp only [EV, seval] <;> rfl, (by simp only [EV, seval] <;> omega), (by rw [hs]; simp only [EV, seval] <;> rfl)⟩, by omega, rfl⟩
        · refine go_on (st' := ?s4) ?h4 (ns.length - (k + 1)) (by omega) ?q4
          case h4 =>
            simp -implicitDefEqProofs only [ZZ, seval, h1, h2, hh2, h6, h5, hh5, hdl', hlt, hw, h41, ha]
            rfl
          case q4 => exact ⟨k + 1, by simp only [EV, seval, h1], by simp only [EV, seval, h2], by simp only [EV, seval, hh2], (by simp only [EV, seval]), .inr ⟨by rw [hs]; simp, _, by simp only [EV, seval] <;> rfl, (by simp only [EV, seval] <;> omega), (by rw [hs]; simp only [EV, seval] <;> rfl)⟩, by omega, rfl⟩
    · obtain rfl : k = ns.length := by omega
      refine go_out (e := .exit 0) (st' := ?s5) ?h5 (by simp) ?q5
      case h5 =>
        simp -implicitDefEqProofs only [ZZ, seval, h2, hh2, h6, hlt]
        rfl
      case q5 => exact ⟨rfl, by simpa only [EV, seval] using h5⟩
  case start => exact ⟨0, (by simp only [EV, seval]), (by simp only [EV, seval]), (by simp only [EV, seval]), (by simp only [EV, seval]), .inl ⟨rfl, (by simp only [EV, seval])⟩, by omega, rfl⟩
  case rest =>
    rintro e st ⟨rfl, ⟨hy, h5⟩ | ⟨hy, g, h5, hg, hh5⟩⟩
    · rw [if_pos hy]
      simp -implicitDefEqProofs only [ZZ, seval, h5]
      exact endL_tmp (keep_none (by decide)) (.inl rfl) rfl (by simp only [EV, seval]) (.v _)
    · rw [if_neg hy]
      simp -implicitDefEqProofs only [ZZ, seval, h5, hh5]
      exact endL_row (keep_none (by decide)) (.inl rfl) rfl (by simp only [EV, seval]; rfl) (by simp only [EV, seval, hh5]) (flat_csInt _)
end Go.Ab.Try
