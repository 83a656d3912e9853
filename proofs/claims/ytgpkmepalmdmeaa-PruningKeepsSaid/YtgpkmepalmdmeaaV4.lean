/-
  Part V4 of the proof: what functions of this program compute.
-/
import Derived.Test.YtgpkmepalmdmeaaV3
set_option linter.all false
set_option linter.unusedSimpArgs false
set_option linter.unusedVariables false
set_option maxRecDepth 20000
set_option maxHeartbeats 4000000
namespace Go.Ab.Try
open Classical Go.Proofs Go.Ab
theorem csNode_drop (ns : List Node) : (csNode ns).drop 240 = csNode (ns.drop 1) := by
  cases ns with
  | nil => rfl
  | cons a l =>
    simp only [csNode, List.flatMap_cons, List.drop_succ_cons, List.drop_zero]
    rw [List.drop_append_of_le_length (by simp), List.drop_of_length_le (by simp)]
    rfl
theorem slice23_1 (st : St) {ns : List Node} (h0 : 0 < ns.length) : sliceA Try.prog st 23 (.sl ns.length (csNode ns)) (some (.const (.int .i64 1))) none = some (.sl (ns.drop 1).length (csNode (ns.drop 1))) := by
  have hl : (csNode ns).length = ns.length * 240 := by simp
  have e : ((csNode ns).drop ((1 : Int).toNat * 240)).take (((ns.length : Int) - 1).toNat * 240) = csNode (ns.drop 1) := by
    rw [show (1 : Int).toNat * 240 = 240 from rfl, csNode_drop]
    exact List.take_of_length_le (by simp)
  simp only [sliceA, sl23, hl, St.ev]
  rw [if_pos (by refine ⟨by decide, by omega, Int.le_refl _, trivial⟩), e]
  congr 2
  simp
theorem nd_drop (ns : List Node) {j : Int} (j0 : 0 ≤ j) : nd (ns.drop 1) j = nd ns (j + 1) := by
  unfold nd
  rw [List.getD_eq_getElem?_getD, List.getD_eq_getElem?_getD, List.getElem?_drop]
  congr 2
  omega
theorem nodeE_zero {ns : List Node} {i : Int} (i0 : 0 ≤ i) (h : nodeE ns i = 0) : isSt (nd ns i).status = true ∧ (i = 0 → (nd ns i).up = -1) ∧ (0 < i → 0 ≤ (nd ns i).up ∧ (nd ns i).up < i) ∧ (∀ j : Int, 0 ≤ j → j < i → (nd ns j).block.root ≠ (nd ns i).block.root) ∧
    (0 < i → (nd ns i).block.parent = (nd ns (nd ns i).up).block.root ∧ (nd ns (nd ns i).up).block.slot < (nd ns i).block.slot) := by
  unfold nodeE at h
  by_cases h1 : isSt (nd ns i).status = false ∨ (i = 0 ∧ (nd ns i).up ≠ -1) ∨ (0 < i ∧ ((nd ns i).up < 0 ∨ i ≤ (nd ns i).up))
  · rw [if_pos h1] at h; omega
  · rw [if_neg h1] at h
    by_cases h2 : ∃ j : Int, 0 ≤ j ∧ j < i ∧ (nd ns j).block.root = (nd ns i).block.root
    · rw [if_pos h2] at h; omega
    · rw [if_neg h2] at h
      simp only [not_or, not_and] at h1
      refine ⟨by simpa using h1.1, fun hi => Decidable.of_not_not (h1.2.1 hi), fun hi => by have := h1.2.2 hi; omega, fun j j0 j1 hj => h2 ⟨j, j0, j1, hj⟩, fun hi => ?_⟩
      rw [if_neg (by omega)] at h
      by_cases h3 : (nd ns i).block.parent ≠ (nd ns (nd ns i).up).block.root
      · rw [if_pos h3] at h; omega
      · rw [if_neg h3] at h
        by_cases h4 : (nd ns i).block.slot ≤ (nd ns (nd ns i).up).block.slot
        · rw [if_pos h4] at h; omega
        · exact ⟨Decidable.of_not_not h3, by omega⟩
theorem valF_all {ns : List Node} : ∀ k : Nat, valF ns k = 0 → ∀ i : Int, 0 ≤ i → i < k → nodeE ns i = 0
  | 0, _, i, i0, i1 => by omega
  | k + 1, h, i, i0, i1 => by
    simp only [valF] at h
    by_cases hk : valF ns k = 0
    · rw [if_pos hk] at h
      by_cases hi : i < k
      · exact valF_all k hk i i0 hi
      · rw [show i = k by omega]; exact h
    · rw [if_neg hk] at h; exact absurd h hk
theorem valV_zero {ns : List Node} (h : valV ns = 0) : Vld ns := by
  unfold valV at h
  by_cases h0 : ns.length = 0 ∨ 4096 < ns.length
  · rw [if_pos h0] at h; omega
  · rw [if_neg h0] at h
    have hz := fun i i0 i1 => nodeE_zero (ns := ns) (i := i) i0 (valF_all _ h i i0 i1)
    exact ⟨by omega, by omega, (hz 0 (by omega) (by omega)).2.1 rfl, fun i i0 i1 => (hz i (by omega) i1).2.2.1 i0, fun i i0 i1 => ((hz i (by omega) i1).2.2.2.2 i0).1, fun i i0 i1 => ((hz i (by omega) i1).2.2.2.2 i0).2,
      fun i j i0 i1 j1 => (hz j (by omega) j1).2.2.2.1 i i0 i1, fun i i0 i1 => (hz i i0 i1).1⟩
/-- status.Validate -/
theorem c50 (ns : List Node) (hn : (ns.length : Int) < 1000000) : callL Try.prog 50 [.agg (cTree ⟨ns⟩)] = some (.v (.int .i64 (clsV ns))) := by
  rw [callL_eq Try.prog Try.func50 rfl ok50 _ (ext_none _ (by decide)) rfl]
  have hK := k49 ns hn
  by_cases hv : valV ns = 0
  · have v := valV_zero hv
    have h0 := v.len0
    have hq : (valV ns != 0) = false := by simp [hv]
    have hc : clsV ns = if ∃ i : Int, 0 < i ∧ i < ns.length ∧ stE ns i then 15 else 0 := if_pos hv
    have hsl := fun st => slice23_1 st h0
    have hdl : (ns.drop 1).length = ns.length - 1 := by simp
    simp -implicitDefEqProofs only [ZZ, seval, hK, hq, hsl]
    refine use_loop (fun n st => ∃ k : Nat, (st.env 1 = .ptr 1 0 0 ∧ st.heap 1 0 = some (.cells (cTree ⟨ns⟩)) ∧ st.env 14 = .sl (ns.drop 1).length (csNode (ns.drop 1)) ∧ st.env 15 = .v (.int .i64 (ns.drop 1).length) ∧ st.env 16 = .v (.int .i64 k)) ∧ (∀ i : Int, 0 < i → i ≤ k → ¬ stE ns i) ∧ k ≤ ns.length - 1 ∧ n = ns.length - 1 - k)
      (fun e st => (e = .ret ∧ st.env 2 = .v (.int .i64 (clsV ns))) ∨ (e = .exit 0 ∧ clsV ns = 0)) (ns.length - 1) ?step ?start ?rest
    case step =>
      rintro n st ⟨k, hI, hj, hk, hn'⟩
      by_cases hlt : (k : Int) < (ns.drop 1).length
      · have hw : IntKind.i64.wrap ((k : Int) + 1) = ((k + 1 : Nat) : Int) := by rw [w64 _ (by omega) (by omega)]; omega
        have q0 : (0 : Int) ≤ k := by omega
        have hnd := nd_drop ns q0
        obtain ⟨u0, u1⟩ := v.up ((k : Int) + 1) (by omega) (by omega)
        have u2 : (nd ns ((k : Int) + 1)).up < ns.length := by omega
        have hnext : ¬ stE ns ((k : Int) + 1) → ∀ i : Int, 0 < i → i ≤ ((k + 1 : Nat) : Int) → ¬ stE ns i := fun h i i0 i1 => by
          by_cases hi : i ≤ k
          · exact hj i i0 hi
          · rw [show i = (k : Int) + 1 by omega]; exact h
        have hbad : stE ns ((k : Int) + 1) → clsV ns = 15 := fun h => by rw [hc, if_pos ⟨_, by omega, by omega, h⟩]
        by_cases hA : (nd ns ((k : Int) + 1)).status = 1 ∧ (nd ns (nd ns ((k : Int) + 1)).up).status ≠ 1
        · have h1 : ((nd ns ((k : Int) + 1)).status == 1) = true := by simp [hA.1]
          have h2 : ((nd ns (nd ns ((k : Int) + 1)).up).status != 1) = true := by simp [hA.2]
          refine go_out (e := .ret) (st' := ?s1) ?h1 (by simp) ?q1
          case h1 =>
            simp -implicitDefEqProofs only [ZZ, seval, hI, hlt, q0, hnd, u0, u2, h1, h2]
            rfl
          case q1 => exact .inl ⟨rfl, by rw [hbad (.inl hA)]; simp only [EV, seval]⟩
        · by_cases hB : (nd ns (nd ns ((k : Int) + 1)).up).status = 2 ∧ (nd ns ((k : Int) + 1)).status ≠ 2
          · have h1 : ((nd ns ((k : Int) + 1)).status == 1) = false := by
              rw [beq_eq_false_iff_ne]; intro h; exact hA ⟨h, by omega⟩
            have h3 : ((nd ns (nd ns ((k : Int) + 1)).up).status == 2) = true := by simp [hB.1]
            have h4 : ((nd ns ((k : Int) + 1)).status != 2) = true := by simp [hB.2]
            refine go_out (e := .ret) (st' := ?s2) ?h2 (by simp) ?q2
            case h2 =>
              simp -implicitDefEqProofs only [ZZ, seval, hI, hlt, q0, hnd, u0, u2, h1, h3, h4]
              rfl
            case q2 => exact .inl ⟨rfl, by rw [hbad (.inr hB)]; simp only [EV, seval]⟩
          · have hno : ¬ stE ns ((k : Int) + 1) := by rintro (h | h); exact hA h; exact hB h
            by_cases hs : (nd ns ((k : Int) + 1)).status = 1
            · have hu : (nd ns (nd ns ((k : Int) + 1)).up).status = 1 := Decidable.of_not_not fun h => hA ⟨hs, h⟩
              have h1 : ((nd ns ((k : Int) + 1)).status == 1) = true := by simp [hs]
              have h2 : ((nd ns (nd ns ((k : Int) + 1)).up).status != 1) = false := by simp [hu]
              have h3 : ((nd ns (nd ns ((k : Int) + 1)).up).status == 2) = false := by simp [hu]
              refine go_on (st' := ?s3) ?h3 (ns.length - 1 - (k + 1)) (by omega) ?q3
              case h3 =>
                simp -implicitDefEqProofs only [ZZ, seval, hI, hlt, q0, hnd, u0, u2, h1, h2, h3, hw]
                rfl
              case q3 => exact ⟨k + 1, by simp only [EV, seval, hI], hnext hno, by omega, rfl⟩
            · have h1 : ((nd ns ((k : Int) + 1)).status == 1) = false := by simp [hs]
              by_cases hu : (nd ns (nd ns ((k : Int) + 1)).up).status = 2
              · have h3 : ((nd ns (nd ns ((k : Int) + 1)).up).status == 2) = true := by simp [hu]
                have h4 : ((nd ns ((k : Int) + 1)).status != 2) = false := by
                  have : (nd ns ((k : Int) + 1)).status = 2 := Decidable.of_not_not fun h => hB ⟨hu, h⟩
                  simp [this]
                refine go_on (st' := ?s4) ?h4 (ns.length - 1 - (k + 1)) (by omega) ?q4
                case h4 =>
                  simp -implicitDefEqProofs only [ZZ, seval, hI, hlt, q0, hnd, u0, u2, h1, h3, h4, hw]
                  rfl
                case q4 => exact ⟨k + 1, by simp only [EV, seval, hI], hnext hno, by omega, rfl⟩
              · have h3 : ((nd ns (nd ns ((k : Int) + 1)).up).status == 2) = false := by simp [hu]
                refine go_on (st' := ?s5) ?h5 (ns.length - 1 - (k + 1)) (by omega) ?q5
                case h5 =>
                  simp -implicitDefEqProofs only [ZZ, seval, hI, hlt, q0, hnd, u0, u2, h1, h3, hw]
                  rfl
                case q5 => exact ⟨k + 1, by simp only [EV, seval, hI], hnext hno, by omega, rfl⟩
      · have hend : clsV ns = 0 := by
          rw [hc, if_neg]
          rintro ⟨i, i0, i1, h⟩
          exact hj i i0 (by omega) h
        refine go_out (e := .exit 0) (st' := ?s6) ?h6 (by simp) ?q6
        case h6 =>
          simp -implicitDefEqProofs only [ZZ, seval, hI, hlt]
          rfl
        case q6 => exact .inr ⟨rfl, hend⟩
    case start => exact ⟨0, by simp only [EV, seval], fun i i0 i1 => by omega, by omega, by omega⟩
    case rest =>
      rintro e st (⟨rfl, h⟩ | ⟨rfl, h⟩)
      · simp -implicitDefEqProofs only [ZZ, seval]
        exact endL_tmp (keep_none (by decide)) (.inl rfl) rfl h (.v _)
      · simp -implicitDefEqProofs only [ZZ, seval]
        exact endL_tmp (keep_none (by decide)) (.inl rfl) rfl (by simp only [EV, seval, h]) (.v _)
  · have hq : (valV ns != 0) = true := by simp [hv]
    have hc : clsV ns = valV ns := if_neg hv
    simp -implicitDefEqProofs only [ZZ, seval, hK, hq]
    exact endL_tmp (keep_none (by decide)) (.inl rfl) rfl (by simp only [EV, seval, hc]) (.v _)
theorem k50 (ns : List Node) (hn : (ns.length : Int) < 1000000) (st : St) (d : Option Nat) : callFn (callL Try.prog) 50 [.agg (cTree ⟨ns⟩)] st d = some { dst := d, val := .v (.int .i64 (clsV ns)) } := call_flat (flat1 (flatT _)) (c50 ns hn) (.v _)
end Go.Ab.Try
