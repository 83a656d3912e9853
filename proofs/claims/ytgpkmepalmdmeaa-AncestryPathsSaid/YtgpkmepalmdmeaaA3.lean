/-
  Part A3 of the proof: what the functions of the ancestry compute.
-/
import Derived.Test.YtgpkmepalmdmeaaA2
set_option linter.all false
set_option linter.unusedSimpArgs false
set_option linter.unusedVariables false
set_option maxRecDepth 20000
namespace Go.Ab.Try
open Classical Go.Proofs Go.Ab
/-- ancestry.Heir -/
def heirF (ns : List Node) (a : Int) : Nat → Int → Int
  | 0, c => c
  | f + 1, c => if (nd ns c).up = a then c else heirF ns a f (nd ns c).up
def heirV (ns : List Node) (a b : Int) : Int := if a = b ∨ anc ns a b = false then -1 else heirF ns a b.toNat b
theorem anc_in {ns : List Node} (hu : UpOk ns) {a c : Int} (h : anc ns a c = true) : (0 ≤ a ∧ a < ns.length) ∧ (0 ≤ c ∧ c < ns.length) := by
  by_cases hv : (0 ≤ a ∧ a < ns.length) ∧ (0 ≤ c ∧ c < ns.length)
  · exact hv
  · rw [anc_range hu hv] at h; cases h
theorem anc_le {ns : List Node} (hu : UpOk ns) {a c : Int} (h : anc ns a c = true) : a ≤ c := by
  have hr := (anc_in hu h).2
  unfold anc at h
  exact (path_mem hu _ c rfl hr.1 hr.2 a (of_decide_eq_true h)).2
theorem c43 (ns : List Node) (hu : UpOk ns) (a b : Int) : callL Try.prog 43 [.agg (cTree ⟨ns⟩), .v (.int .i64 a), .v (.int .i64 b)] = some (.v (.int .i64 (heirV ns a b))) := by
  rw [callL_eq Try.prog Try.func43 rfl ok43 _ (ext_none _ (by decide)) rfl]
  by_cases hab : a = b
  · have hq : (a == b) = true := by simp [hab]
    have hh : heirV ns a b = -1 := by unfold heirV; rw [if_pos (.inl hab)]
    simp -implicitDefEqProofs only [ZZ, seval, hq]
    exact endL_tmp (keep_none (by decide)) (.inl rfl) rfl (by simp only [EV, seval, hh]) (.v _)
  · have hq : (a == b) = false := by simp [hab]
    cases hanc : anc ns a b
    · have hh : heirV ns a b = -1 := by unfold heirV; rw [if_pos (.inr hanc)]
      simp -implicitDefEqProofs only [ZZ, seval, hq, k42 ns hu, hanc]
      exact endL_tmp (keep_none (by decide)) (.inl rfl) rfl (by simp only [EV, seval, hh]) (.v _)
    · have hh : heirV ns a b = heirF ns a b.toNat b := by unfold heirV; rw [if_neg]; rintro (h | h); exact hab h; rw [hanc] at h; cases h
      have hin := anc_in hu hanc
      simp -implicitDefEqProofs only [ZZ, seval, hq, k42 ns hu, hanc]
      refine use_loop (fun n st => ∃ (c : Int) (f : Nat), st.env 1 = .v (.int .i64 a) ∧ st.env 2 = .v (.int .i64 c) ∧ st.env 3 = .ptr 3 0 0 ∧ st.heap 3 0 = some (.cells (cTree ⟨ns⟩)) ∧ heirV ns a b = heirF ns a f c ∧ anc ns a c = true ∧ a < c ∧ c.toNat ≤ f ∧ n = c.toNat)
        (fun e st => e = .exit 0 ∧ st.env 2 = .v (.int .i64 (heirV ns a b))) b.toNat ?step ?start ?rest
      case step =>
        rintro n st ⟨c, f, h1, h2, h3, hh3, hb, hac, hlt, hf, hn'⟩
        obtain ⟨⟨a0, _⟩, c0, c1⟩ := anc_in hu hac
        obtain ⟨u0, u1⟩ := hu c (by omega) c1
        obtain ⟨f, rfl⟩ : ∃ f', f = f' + 1 := ⟨f - 1, by omega⟩
        by_cases hup : (nd ns c).up = a
        · have hq2 : ((nd ns c).up != a) = false := by simp [hup]
          have hv : heirV ns a b = c := by rw [hb]; simp only [heirF, hup, if_true]
          refine go_out (e := .exit 0) (st' := ?s1) ?h1 (by simp) ?q1
          case h1 =>
            simp -implicitDefEqProofs only [ZZ, seval, h1, h2, h3, hh3, hq2, c0, c1]
            rfl
          case q1 => exact ⟨rfl, by simp only [EV, seval, h2, hv]⟩
        · have hq2 : ((nd ns c).up != a) = true := by simp [hup]
          have hac' : anc ns a (nd ns c).up = true := by rw [← anc_up hu c1 hlt a0]; exact hac
          have := anc_le hu hac'
          refine go_on (st' := ?s2) ?h2 (((nd ns c).up).toNat) (by omega) ?q2
          case h2 =>
            simp -implicitDefEqProofs only [ZZ, seval, h1, h2, h3, hh3, hq2, c0, c1]
            rfl
          case q2 => exact ⟨(nd ns c).up, f, by simp only [EV, seval, h1], (by simp only [EV, seval]), by simp only [EV, seval, h3], by simp only [EV, seval, hh3], by rw [hb]; simp only [heirF, if_neg hup], hac', by omega, by omega, rfl⟩
      case start => exact ⟨b, b.toNat, (by simp only [EV, seval]), (by simp only [EV, seval]), (by simp only [EV, seval]), (by simp only [EV, seval]), hh, hanc, by have := anc_le hu hanc; omega, Nat.le_refl _, rfl⟩
      case rest =>
        rintro e st ⟨rfl, h2⟩
        simp -implicitDefEqProofs only [ZZ, seval, h2]
        exact endL_tmp (keep_none (by decide)) (.inl rfl) rfl (by simp only [EV, seval]) (.v _)
theorem k43 (ns : List Node) (hu : UpOk ns) (a b : Int) (st : St) (d : Option Nat) : callFn (callL Try.prog) 43 [.agg (cTree ⟨ns⟩), .v (.int .i64 a), .v (.int .i64 b)] st d = some { dst := d, val := .v (.int .i64 (heirV ns a b)) } := call_flat (flat3 (flatT _) (.v _) (.v _)) (c43 ns hu a b) (.v _)
end Go.Ab.Try
