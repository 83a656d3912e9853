/-
  Part A11 of the proof: what the functions of the ancestry compute.
-/
import Derived.Test.YtgpkmepalmdmeaaA10
set_option linter.all false
set_option linter.unusedSimpArgs false
set_option linter.unusedVariables false
set_option maxRecDepth 20000
set_option maxHeartbeats 4000000
namespace Go.Ab.Try
open Classical Go.Proofs Go.Ab
def csB (l : List Bool) : List AV := l.map fun b => .v (.bool b)
theorem len_csB (l : List Bool) : (csB l).length = l.length := by simp [csB]
theorem get_csB {l : List Bool} {i : Int} (h1 : i.toNat < l.length) : (csB l)[i.toNat]? = some (.v (.bool (l.getD i.toNat false))) := by
  simp [csB, h1]
theorem up_csB {l : List Bool} {i : Nat} (h1 : i < l.length) : upd (csB l) i [.v (.bool true)] (i + 1) = csB (l.set i true) := by
  unfold upd csB
  rw [List.set_eq_take_append_cons_drop, if_pos h1]
  simp
theorem idx93_own (st : St) (s g : Nat) (k : IntKind) (i : Int) : indexAddrA Try.prog st 93 (.own s g) (.v (.int k i)) = ioE 4 1 (st.heap s g) s g i := by
  simp only [indexAddrA, na93, sl93, ioE]
  cases st.heap s g with
  | none => rfl
  | some o => cases o <;> rfl
theorem ioE_b (l : List Bool) (n s g : Nat) (i : Int) (h0 : 0 ≤ i) (h1 : i < n) : ioE 4 1 (some (.row 4 1 n (csB l))) s g i = some (.ptr s g i.toNat) := by simp [ioE, h0, h1]
theorem mk_b (n : Nat) : ((List.range n).flatMap fun _ => [AV.v (.bool false)]) = csB (List.replicate n false) := by
  unfold csB
  rw [List.map_replicate]
  induction n with
  | zero => rfl
  | succ n ih => rw [List.range_succ, List.flatMap_append, ih, List.replicate_succ']; rfl
/-- The descendants among the first k. -/
def dsc (ns : List Node) (i : Int) : Nat → List Int
  | 0 => []
  | k + 1 => if anc ns i k = true then dsc ns i k ++ [(k : Int)] else dsc ns i k
theorem dsc_len (ns : List Node) (i : Int) : ∀ k, (dsc ns i k).length ≤ k
  | 0 => Nat.le_refl _
  | k + 1 => by
    have := dsc_len ns i k
    simp only [dsc]
    split
    · simp; omega
    · omega
theorem anc_ne {ns : List Node} (hu : UpOk ns) {i k : Int} (k0 : 0 < k) (k1 : k < ns.length) (h : k ≠ i) : anc ns i k = anc ns i (nd ns k).up := by
  unfold anc
  rw [decide_eq_decide, path_step hu k0 k1]
  simp only [List.mem_append, List.mem_singleton]
  constructor
  · rintro (hm | rfl)
    · exact hm
    · exact absurd rfl h
  · exact .inl
theorem dsc_ne {ns : List Node} (hu : UpOk ns) {i : Int} (i0 : 0 ≤ i) (i1 : i < ns.length) : ∀ k : Nat, i < k → dsc ns i k ≠ []
  | 0, h => by omega
  | k + 1, h => by
    simp only [dsc]
    by_cases hk : i = k
    · rw [if_pos (by unfold anc; rw [← hk]; exact decide_eq_true (path_self hu i0 i1))]; simp
    · have := dsc_ne hu i0 i1 k (by omega)
      split
      · simp
      · exact this
/-- ancestry.Descendants -/
theorem c47 (ns : List Node) (hu : UpOk ns) (hr : (nd ns 0).up = -1) (hn : (ns.length : Int) < 1000000) (i : Int) (i0 : 0 ≤ i) (i1 : i < ns.length) : callL Try.prog 47 [.agg (cTree ⟨ns⟩), .v (.int .i64 i)] = some (.uniq 3 1 (dsc ns i ns.length).length (csInt (dsc ns i ns.length))) := by
  rw [callL_eq Try.prog Try.func47 rfl ok47 _ (ext_none _ (by decide)) rfl]
  have hd : (decide (0 ≤ i) && decide (i < ns.length)) = true := by simp [i0, i1]
  have hmax : (ns.length : Int) ≤ maxLen := by unfold maxLen; omega
  have hb1 : (ns.length : Int) * 1 ≤ 140737488355328 := by omega
  have hnn : (0 : Int) ≤ (ns.length : Int) := by omega
  simp -implicitDefEqProofs only [ZZ, seval, k88, hd, hmax, hb1, hnn, mk_b, Int.toNat_natCast]
  refine use_loop (fun n st => ∃ (k : Nat) (fl : List Bool), st.env 1 = .v (.int .i64 i) ∧ st.env 5 = .own 16 0 ∧ st.heap 16 0 = some (.row 4 1 ns.length (csB fl)) ∧ st.env 18 = .sl ns.length (csNode ns) ∧ st.env 19 = .v (.int .i64 ns.length) ∧ st.env 20 = .v (.int .i64 k) ∧
      ((dsc ns i k = [] ∧ st.env 6 = .v (.slice none 0 0)) ∨ ∃ g, st.env 6 = .own 46 g ∧ g < st.cnt 46 ∧ st.heap 46 g = some (.row 3 1 (dsc ns i k).length (csInt (dsc ns i k)))) ∧
      fl.length = ns.length ∧ (∀ j : Nat, fl.getD j false = (decide (j < k) && anc ns i j)) ∧ k ≤ ns.length ∧ n = ns.length - k)
    (fun e st => e = .exit 0 ∧ ∃ g, st.env 6 = .own 46 g ∧ st.heap 46 g = some (.row 3 1 (dsc ns i ns.length).length (csInt (dsc ns i ns.length)))) ns.length ?step ?start ?rest
  case step =>
    rintro n st ⟨k, fl, h1, h5, hh5, h18, h19, h20, h6, hfl, hb, hk, hn'⟩
    have hdl := dsc_len ns i k
    have hdl' : ((dsc ns i k).length : Int) < 1000000 := by omega
    by_cases hlt : (k : Int) < ns.length
    · have hw : IntKind.i64.wrap ((k : Int) + 1) = ((k + 1 : Nat) : Int) := by rw [w64 _ (by omega) (by omega)]; omega
      have k0 : (0 : Int) ≤ k := by omega
      have hkf : (k : Int).toNat < fl.length := by omega
      have hle : k + 1 ≤ fl.length := by omega
      have hkf' : k < fl.length := by omega
      have hb' : anc ns i k = true → ∀ j : Nat, (fl.set k true).getD j false = (decide (j < k + 1) && anc ns i j) := by
        intro ha j
        by_cases h : j = k
        · subst h; simp [hkf', ha]
        · have h2 : decide (j < k) = decide (j < k + 1) := by rw [decide_eq_decide]; omega
          have := hb j
          rw [h2] at this
          rw [← this]
          simp [List.getElem?_set_ne (Ne.symm h)]
      have hb2 : anc ns i k = false → ∀ j : Nat, fl.getD j false = (decide (j < k + 1) && anc ns i j) := by
        intro ha j
        by_cases h : j = k
        · subst h; rw [hb j, ha]; simp
        · have h2 : decide (j < k) = decide (j < k + 1) := by rw [decide_eq_decide]; omega
          rw [hb j, h2]
      by_cases hki : (k : Int) = i
      · have hq : ((k : Int) == i) = true := by simp [hki]
        have ha : anc ns i k = true := by rw [hki]; unfold anc; exact decide_eq_true (path_self hu i0 i1)
        have hs : dsc ns i (k + 1) = dsc ns i k ++ [(k : Int)] := by simp only [dsc, ha, if_true]
        rcases h6 with ⟨hy, h6⟩ | ⟨g, h6, hg, hh6⟩
        · rw [hy] at hs
          refine go_on (st' := ?s1) ?h1 (ns.length - (k + 1)) (by omega) ?q1
          case h1 =>
            simp -implicitDefEqProofs only [ZZ, seval, h1, h5, hh5, h18, h19, h20, h6, hlt, k0, hw, hq, idx93_own, ioE_b, up_csB hkf', len_csB, hle, Int.toNat_natCast]
            rfl
          case q1 => exact ⟨k + 1, fl.set k true, by simp only [EV, seval, h1], by simp only [EV, seval, h5], (by simp only [EV, seval] <;> rfl), by simp only [EV, seval, h18], by simp only [EV, seval, h19], (by simp only [EV, seval]), .inr ⟨_, by simp only [EV, seval] <;> rfl, (by simp only [EV, seval] <;> omega), (by rw [hs]; simp only [EV, seval] <;> rfl)⟩, by simp [hfl], hb' ha, by omega, rfl⟩
        · refine go_on (st' := ?s2) ?h2 (ns.length - (k + 1)) (by omega) ?q2
          case h2 =>
            simp -implicitDefEqProofs only [ZZ, seval, h1, h5, hh5, h18, h19, h20, h6, hh6, hdl', hlt, k0, hw, hq, idx93_own, ioE_b, up_csB hkf', len_csB, hle, Int.toNat_natCast]
            rfl
          case q2 => exact ⟨k + 1, fl.set k true, by simp only [EV, seval, h1], by simp only [EV, seval, h5], (by simp only [EV, seval] <;> rfl), by simp only [EV, seval, h18], by simp only [EV, seval, h19], (by simp only [EV, seval]), .inr ⟨_, by simp only [EV, seval] <;> rfl, (by simp only [EV, seval] <;> omega), (by rw [hs]; simp only [EV, seval] <;> rfl)⟩, by simp [hfl], hb' ha, by omega, rfl⟩
      · have hq : ((k : Int) == i) = false := by simp [hki]
        by_cases hk0 : k = 0
        · have hup : ¬ 0 ≤ (nd ns k).up := by rw [hk0]; show ¬ 0 ≤ (nd ns 0).up; omega
          have ha : anc ns i k = false := by
            rw [← Bool.not_eq_true]
            intro h
            have := anc_le hu h
            omega
          have hs : dsc ns i (k + 1) = dsc ns i k := by simp only [dsc, ha, Bool.false_eq_true, if_false]
          rcases h6 with ⟨hy, h6⟩ | ⟨g, h6, hg, hh6⟩
          · refine go_on (st' := ?s3) ?h3 (ns.length - (k + 1)) (by omega) ?q3
            case h3 =>
              simp -implicitDefEqProofs only [ZZ, seval, h1, h5, hh5, h18, h19, h20, h6, hlt, k0, hw, hq, hup]
              rfl
            case q3 => exact ⟨k + 1, fl, by simp only [EV, seval, h1], by simp only [EV, seval, h5], by simp only [EV, seval, hh5], by simp only [EV, seval, h18], by simp only [EV, seval, h19], (by simp only [EV, seval]), .inl ⟨by rw [hs]; exact hy, by simp only [EV, seval, h6]⟩, hfl, hb2 ha, by omega, rfl⟩
          · refine go_on (st' := ?s4) ?h4 (ns.length - (k + 1)) (by omega) ?q4
            case h4 =>
              simp -implicitDefEqProofs only [ZZ, seval, h1, h5, hh5, h18, h19, h20, h6, hh6, hlt, k0, hw, hq, hup]
              rfl
            case q4 => exact ⟨k + 1, fl, by simp only [EV, seval, h1], by simp only [EV, seval, h5], by simp only [EV, seval, hh5], by simp only [EV, seval, h18], by simp only [EV, seval, h19], (by simp only [EV, seval]), .inr ⟨g, by simp only [EV, seval, h6], (by simp only [EV, seval] <;> omega), (by rw [hs]; simp only [EV, seval, hh6])⟩, hfl, hb2 ha, by omega, rfl⟩
        · obtain ⟨u0, u1⟩ := hu k (by omega) hlt
          have u1' : (nd ns k).up < ns.length := by omega
          have hul : (nd ns k).up.toNat < fl.length := by omega
          have hfa : fl.getD (nd ns k).up.toNat false = anc ns i k := by
            rw [hb, anc_ne hu (by omega) hlt hki]
            have : decide ((nd ns k).up.toNat < k) = true := decide_eq_true (by omega)
            rw [this, Bool.true_and, Int.toNat_of_nonneg u0]
          cases ha : anc ns i k
          · have hfv : fl.getD (nd ns k).up.toNat false = false := hfa.trans ha
            have hs : dsc ns i (k + 1) = dsc ns i k := by simp only [dsc, ha, Bool.false_eq_true, if_false]
            rcases h6 with ⟨hy, h6⟩ | ⟨g, h6, hg, hh6⟩
            · refine go_on (st' := ?s5) ?h5 (ns.length - (k + 1)) (by omega) ?q5
              case h5 =>
                simp -implicitDefEqProofs only [ZZ, seval, h6, h1, h5, hh5, h18, h19, h20, hlt, k0, hw, hq, idx93_own, ioE_b, len_csB, Int.toNat_natCast, u0, u1', hul, get_csB, hfv]
                rfl
              case q5 => exact ⟨k + 1, fl, by simp only [EV, seval, h1], by simp only [EV, seval, h5], by simp only [EV, seval, hh5], by simp only [EV, seval, h18], by simp only [EV, seval, h19], (by simp only [EV, seval]), .inl ⟨by rw [hs]; exact hy, by simp only [EV, seval, h6]⟩, hfl, hb2 ha, by omega, rfl⟩
            · refine go_on (st' := ?s6) ?h6 (ns.length - (k + 1)) (by omega) ?q6
              case h6 =>
                simp -implicitDefEqProofs only [ZZ, seval, h6, hh6, h1, h5, hh5, h18, h19, h20, hlt, k0, hw, hq, idx93_own, ioE_b, len_csB, Int.toNat_natCast, u0, u1', hul, get_csB, hfv]
                rfl
              case q6 => exact ⟨k + 1, fl, by simp only [EV, seval, h1], by simp only [EV, seval, h5], by simp only [EV, seval, hh5], by simp only [EV, seval, h18], by simp only [EV, seval, h19], (by simp only [EV, seval]), .inr ⟨g, by simp only [EV, seval, h6], (by simp only [EV, seval] <;> omega), (by rw [hs]; simp only [EV, seval, hh6])⟩, hfl, hb2 ha, by omega, rfl⟩
          · have hfv : fl.getD (nd ns k).up.toNat false = true := hfa.trans ha
            have hs : dsc ns i (k + 1) = dsc ns i k ++ [(k : Int)] := by simp only [dsc, ha, if_true]
            rcases h6 with ⟨hy, h6⟩ | ⟨g, h6, hg, hh6⟩
            · rw [hy] at hs
              refine go_on (st' := ?s7) ?h7 (ns.length - (k + 1)) (by omega) ?q7
              case h7 =>
                simp -implicitDefEqProofs only [ZZ, seval, h6, h1, h5, hh5, h18, h19, h20, hlt, k0, hw, hq, idx93_own, ioE_b, up_csB hkf', len_csB, hle, Int.toNat_natCast, u0, u1', hul, get_csB, hfv]
                rfl
              case q7 => exact ⟨k + 1, fl.set k true, by simp only [EV, seval, h1], by simp only [EV, seval, h5], (by simp only [EV, seval] <;> rfl), by simp only [EV, seval, h18], by simp only [EV, seval, h19], (by simp only [EV, seval]), .inr ⟨_, by simp only [EV, seval] <;> rfl, (by simp only [EV, seval] <;> omega), (by rw [hs]; simp only [EV, seval] <;> rfl)⟩, by simp [hfl], hb' ha, by omega, rfl⟩
            · refine go_on (st' := ?s8) ?h8 (ns.length - (k + 1)) (by omega) ?q8
              case h8 =>
                simp -implicitDefEqProofs only [ZZ, seval, h6, hh6, hdl', h1, h5, hh5, h18, h19, h20, hlt, k0, hw, hq, idx93_own, ioE_b, up_csB hkf', len_csB, hle, Int.toNat_natCast, u0, u1', hul, get_csB, hfv]
                rfl
              case q8 => exact ⟨k + 1, fl.set k true, by simp only [EV, seval, h1], by simp only [EV, seval, h5], (by simp only [EV, seval] <;> rfl), by simp only [EV, seval, h18], by simp only [EV, seval, h19], (by simp only [EV, seval]), .inr ⟨_, by simp only [EV, seval] <;> rfl, (by simp only [EV, seval] <;> omega), (by rw [hs]; simp only [EV, seval] <;> rfl)⟩, by simp [hfl], hb' ha, by omega, rfl⟩
    · obtain rfl : k = ns.length := by omega
      rcases h6 with ⟨hy, h6⟩ | ⟨g, h6, hg, hh6⟩
      · exact absurd hy (dsc_ne hu i0 i1 _ i1)
      · refine go_out (e := .exit 0) (st' := ?s9) ?h9 (by simp) ?q9
        case h9 =>
          simp -implicitDefEqProofs only [ZZ, seval, h19, h20, hlt]
          rfl
        case q9 => exact ⟨rfl, g, by simp only [EV, seval, h6], by simp only [EV, seval, hh6]⟩
  case start => exact ⟨0, List.replicate ns.length false, (by simp only [EV, seval]), (by simp only [EV, seval]), (by simp only [EV, seval]), (by simp only [EV, seval]), (by simp only [EV, seval]), (by simp only [EV, seval]), .inl ⟨rfl, (by simp only [EV, seval])⟩, by simp, fun j => by simp [List.getElem?_replicate]; split <;> rfl, by omega, rfl⟩
  case rest =>
    rintro e st ⟨rfl, g, h6, hh6⟩
    simp -implicitDefEqProofs only [ZZ, seval, h6, hh6]
    exact endL_row (keep_none (by decide)) (.inl rfl) rfl (by simp only [EV, seval]; rfl) (by simp only [EV, seval, hh6]) (flat_csInt _)
end Go.Ab.Try
