/-
  Part A2 of the proof: what the functions of the ancestry compute.
-/
import Derived.Test.YtgpkmepalmdmeaaA1
set_option linter.all false
set_option linter.unusedSimpArgs false
set_option linter.unusedVariables false
set_option maxRecDepth 20000
namespace Go.Ab.Try
open Classical Go.Proofs Go.Ab
theorem take_it {l : List Int} {j : Int} (j0 : 0 ≤ j) (j1 : j < l.length) : l.take (j + 1).toNat = l.take j.toNat ++ [it l j] := by
  obtain ⟨h, e⟩ := it_get j0 j1
  rw [e, show (j + 1).toNat = j.toNat + 1 by omega, List.take_succ_eq_append_getElem h]
theorem it_mem {l : List Int} {j : Int} (j0 : 0 ≤ j) (j1 : j < l.length) : it l j ∈ l := by
  obtain ⟨h, e⟩ := it_get j0 j1
  rw [e]; exact List.getElem_mem h
/-- ref11.At -/
theorem c40 (ns : List Node) (hu : UpOk ns) (hn : (ns.length : Int) < 1000000) (i s : Int) : callL Try.prog 40 [.agg (cTree ⟨ns⟩), .v (.int .i64 i), .v (.int .u64 s)] = some (.v (.int .i64 (atV ns i s))) := by
  rw [callL_eq Try.prog Try.func40 rfl ok40 _ (ext_none _ (by decide)) rfl]
  by_cases hv : 0 ≤ i ∧ i < ns.length
  · have hl : ((path ns i).length : Int) < 1000000 := by have := path_lt hu i; omega
    have hp := k45 ns hu hn i hv.1 hv.2
    have hrg : ∀ x ∈ path ns i, 0 ≤ x ∧ x < ns.length := fun x => path_range hu
    unfold atV
    generalize path ns i = p at hl hp hrg
    simp -implicitDefEqProofs only [ZZ, seval, hp]
    refine use_loop (fun n st => ∃ j : Int, st.env 2 = .v (.int .u64 s) ∧ st.env 3 = .ptr 3 0 0 ∧ st.heap 3 0 = some (.cells (cTree ⟨ns⟩)) ∧ st.env 8 = .own 12 0 ∧ st.heap 12 0 = some (.row 3 1 p.length (csInt p)) ∧ st.env 9 = .v (.int .i64 j) ∧ st.env 7 = .v (.int .i64 (lastLe ns s (p.take j.toNat))) ∧ 0 ≤ j ∧ j ≤ p.length ∧ n = (p.length - j).toNat)
      (fun e st => e = .exit 0 ∧ st.env 7 = .v (.int .i64 (lastLe ns s p))) p.length ?step ?start ?rest
    case step =>
      rintro n st ⟨j, h2, h3, hh3, h8, hh8, h9, h7, j0, j1, hn'⟩
      by_cases hlt : j < p.length
      · have hw : IntKind.i64.wrap (j + 1) = j + 1 := w64 _ (by omega) (by omega)
        obtain ⟨x0, x1⟩ := hrg _ (it_mem j0 hlt)
        have ht := take_it j0 hlt
        by_cases hs : (nd ns (it p j)).block.slot ≤ s
        · refine go_on (st' := ?s1) ?h1 ((p.length - (j + 1)).toNat) (by omega) ?q1
          case h1 =>
            simp -implicitDefEqProofs only [ZZ, seval, h2, h3, hh3, h8, hh8, h9, hlt, j0, hw, x0, x1, hs]
            rfl
          case q1 => exact ⟨j + 1, by simp only [EV, seval, h2], by simp only [EV, seval, h3], by simp only [EV, seval, hh3], by simp only [EV, seval, h8], by simp only [EV, seval, hh8], (by simp only [EV, seval]), by simp only [EV, seval, ht, lastLe_app, hs], by omega, by omega, rfl⟩
        · refine go_on (st' := ?s2) ?h2 ((p.length - (j + 1)).toNat) (by omega) ?q2
          case h2 =>
            simp -implicitDefEqProofs only [ZZ, seval, h2, h3, hh3, h8, hh8, h9, hlt, j0, hw, x0, x1, hs]
            rfl
          case q2 => exact ⟨j + 1, by simp only [EV, seval, h2], by simp only [EV, seval, h3], by simp only [EV, seval, hh3], by simp only [EV, seval, h8], by simp only [EV, seval, hh8], (by simp only [EV, seval]), by simp only [EV, seval, ht, lastLe_app, hs, h7], by omega, by omega, rfl⟩
      · have ht : p.take j.toNat = p := List.take_of_length_le (by omega)
        refine go_out (e := .exit 0) (st' := ?s3) ?h3 (by simp) ?q3
        case h3 =>
          simp -implicitDefEqProofs only [ZZ, seval, h2, h3, hh3, h8, hh8, h9, hlt, j0]
          rfl
        case q3 => exact ⟨rfl, by rw [← ht]; exact h7⟩
    case start => exact ⟨0, (by simp only [EV, seval]), (by simp only [EV, seval]), (by simp only [EV, seval]), (by simp only [EV, seval]), (by simp only [EV, seval]), (by simp only [EV, seval]), (by simp only [EV, seval]; rfl), by omega, by omega, by omega⟩
    case rest =>
      rintro e st ⟨rfl, h⟩
      simp -implicitDefEqProofs only [ZZ, seval, h]
      exact endL_tmp (keep_none (by decide)) (.inl rfl) rfl (by simp only [EV, seval]) (.v _)
  · rw [atV_none s hv]
    simp -implicitDefEqProofs only [ZZ, seval, k45n ns i hv, evL_loop, Int.natCast_zero, Int.lt_irrefl, decide_false]
    exact endL_tmp (keep_none (by decide)) (.inl rfl) rfl (by simp only [EV, seval]) (.v _)
theorem k40 (ns : List Node) (hu : UpOk ns) (hn : (ns.length : Int) < 1000000) (i s : Int) (st : St) (d : Option Nat) : callFn (callL Try.prog) 40 [.agg (cTree ⟨ns⟩), .v (.int .i64 i), .v (.int .u64 s)] st d = some { dst := d, val := .v (.int .i64 (atV ns i s)) } := call_flat (flat3 (flatT _) (.v _) (.v _)) (c40 ns hu hn i s) (.v _)

/-- ancestry.IsAncestor -/
theorem anc_big {ns : List Node} (hu : UpOk ns) {a c : Int} (h0 : 0 ≤ c) (h1 : c < ns.length) (h : ¬ a < c) : anc ns a c = decide (a = c) := by
  unfold anc
  rw [decide_eq_decide]
  constructor
  · intro hm; have := path_mem hu _ c rfl h0 h1 a hm; omega
  · rintro rfl; exact path_self hu h0 h1
theorem anc_up {ns : List Node} (hu : UpOk ns) {a c : Int} (h1 : c < ns.length) (h : a < c) (a0 : 0 ≤ a) : anc ns a c = anc ns a (nd ns c).up := by
  unfold anc
  rw [decide_eq_decide, path_step hu (by omega) h1]
  simp only [List.mem_append, List.mem_singleton]
  constructor
  · rintro (hm | rfl)
    · exact hm
    · omega
  · exact .inl
theorem anc_range {ns : List Node} (hu : UpOk ns) {a c : Int} (h : ¬ ((0 ≤ a ∧ a < ns.length) ∧ (0 ≤ c ∧ c < ns.length))) : anc ns a c = false := by
  unfold anc
  rw [decide_eq_false_iff_not]
  intro hm
  by_cases hc : 0 ≤ c ∧ c < ns.length
  · exact h ⟨path_range hu hm, hc⟩
  · rw [path_none hc] at hm; simp at hm
theorem c42 (ns : List Node) (hu : UpOk ns) (a b : Int) : callL Try.prog 42 [.agg (cTree ⟨ns⟩), .v (.int .i64 a), .v (.int .i64 b)] = some (.v (.bool (anc ns a b))) := by
  rw [callL_eq Try.prog Try.func42 rfl ok42 _ (ext_none _ (by decide)) rfl]
  by_cases hv : (0 ≤ a ∧ a < ns.length) ∧ (0 ≤ b ∧ b < ns.length)
  · have hda : (decide (0 ≤ a) && decide (a < ns.length)) = true := by simp [hv.1.1, hv.1.2]
    have hdb : (decide (0 ≤ b) && decide (b < ns.length)) = true := by simp [hv.2.1, hv.2.2]
    simp -implicitDefEqProofs only [ZZ, seval, k88, hda, hdb]
    refine use_loop (fun n st => ∃ c : Int, st.env 1 = .v (.int .i64 a) ∧ st.env 2 = .v (.int .i64 c) ∧ st.env 3 = .ptr 3 0 0 ∧ st.heap 3 0 = some (.cells (cTree ⟨ns⟩)) ∧ anc ns a b = anc ns a c ∧ 0 ≤ c ∧ c < ns.length ∧ n = c.toNat)
      (fun e st => e = .exit 0 ∧ ∃ c : Int, st.env 1 = .v (.int .i64 a) ∧ st.env 2 = .v (.int .i64 c) ∧ anc ns a b = decide (a = c)) b.toNat ?step ?start ?rest
    case step =>
      rintro n st ⟨c, h1, h2, h3, hh3, hb, c0, c1, hn'⟩
      by_cases hlt : a < c
      · obtain ⟨u0, u1⟩ := hu c (by omega) c1
        refine go_on (st' := ?s4) ?h4 (((nd ns c).up).toNat) (by omega) ?q4
        case h4 =>
          simp -implicitDefEqProofs only [ZZ, seval, h1, h2, h3, hh3, hlt, c0, c1]
          rfl
        case q4 => exact ⟨(nd ns c).up, by simp only [EV, seval, h1], (by simp only [EV, seval]), by simp only [EV, seval, h3], by simp only [EV, seval, hh3], hb.trans (anc_up hu c1 hlt hv.1.1), u0, by omega, rfl⟩
      · refine go_out (e := .exit 0) (st' := ?s5) ?h5 (by simp) ?q5
        case h5 =>
          simp -implicitDefEqProofs only [ZZ, seval, h1, h2, h3, hh3, hlt]
          rfl
        case q5 => exact ⟨rfl, c, by simp only [EV, seval, h1], by simp only [EV, seval, h2], hb.trans (anc_big hu c0 c1 hlt)⟩
    case start => exact ⟨b, (by simp only [EV, seval]), (by simp only [EV, seval]), (by simp only [EV, seval]), (by simp only [EV, seval]), rfl, hv.2.1, hv.2.2, rfl⟩
    case rest =>
      rintro e st ⟨rfl, c, h1, h2, h⟩
      have hbq : (a == c) = decide (a = c) := rfl
      simp -implicitDefEqProofs only [ZZ, seval, h1, h2]
      exact endL_tmp (keep_none (by decide)) (.inl rfl) rfl (by simp only [EV, seval, h, hbq]) (.v _)
  · rw [anc_range hu hv]
    by_cases ha : 0 ≤ a ∧ a < ns.length
    · have hda : (decide (0 ≤ a) && decide (a < ns.length)) = true := by simp [ha.1, ha.2]
      have hdb : (decide (0 ≤ b) && decide (b < ns.length)) = false := by rw [← Bool.not_eq_true]; simpa using fun h h' => hv ⟨ha, h, h'⟩
      simp -implicitDefEqProofs only [ZZ, seval, k88, hda, hdb]
      exact endL_tmp (keep_none (by decide)) (.inl rfl) rfl (by simp only [EV, seval]) (.v _)
    · have hda : (decide (0 ≤ a) && decide (a < ns.length)) = false := by rw [← Bool.not_eq_true]; simpa using ha
      simp -implicitDefEqProofs only [ZZ, seval, k88, hda]
      exact endL_tmp (keep_none (by decide)) (.inl rfl) rfl (by simp only [EV, seval]) (.v _)
theorem k42 (ns : List Node) (hu : UpOk ns) (a b : Int) (st : St) (d : Option Nat) : callFn (callL Try.prog) 42 [.agg (cTree ⟨ns⟩), .v (.int .i64 a), .v (.int .i64 b)] st d = some { dst := d, val := .v (.bool (anc ns a b)) } := call_flat (flat3 (flatT _) (.v _) (.v _)) (c42 ns hu a b) (.v _)
end Go.Ab.Try
