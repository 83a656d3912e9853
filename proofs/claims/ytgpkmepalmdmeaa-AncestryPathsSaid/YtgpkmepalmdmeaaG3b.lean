/-
  Part G3b of the proof: what functions of this program compute.
-/
import Derived.Test.YtgpkmepalmdmeaaG3
set_option linter.all false
set_option linter.unusedSimpArgs false
set_option linter.unusedVariables false
set_option maxRecDepth 20000
set_option maxHeartbeats 4000000
namespace Go.Ab.Try
open Classical Go.Proofs Go.Ab
/-- pruning.Prune -/
theorem c31 (ns : List Node) (hu : UpOk ns) (hr : (nd ns 0).up < 0) (hn : (ns.length : Int) < 1000000) (i : Int) (i0 : 0 ≤ i) (i1 : i < ns.length) : callL Try.prog 31 [.agg (cTree ⟨ns⟩), .v (.int .i64 i)] =
    some (.tup [.agg (cTree ⟨(prF ns i ns.length).1⟩), .sl (prF ns i ns.length).2.length (csInt (prF ns i ns.length).2), .v (.int .i64 0)]) := by
  have hi0 : decide (i < 0) = false := by simp; omega
  have hi1 : decide ((ns.length : Int) ≤ i) = false := by simp; omega
  rw [callL_eq Try.prog Try.func31 rfl ok31 _ (ext_none _ (by decide)) rfl]
  simp -implicitDefEqProofs only [ZZ, seval, hi0, hi1]
  refine use_loop (fun n st => ∃ (k : Nat) (x y : AV), st.env 4 = .ptr 4 0 0 ∧ st.heap 4 0 = some (.cells [x]) ∧ st.env 1 = .v (.int .i64 i) ∧ st.env 21 = .sl ns.length (csNode ns) ∧ st.env 22 = .v (.int .i64 ns.length) ∧ st.env 23 = .v (.int .i64 k) ∧
      k ≤ ns.length ∧ n = ns.length - k ∧ st.env 5 = y ∧ RowI st 50 58 y (prF ns i k).2 ∧ RowN st 63 x (prF ns i k).1)
    (fun e st => e = .exit 0 ∧ ∃ (x y : AV), st.env 4 = .ptr 4 0 0 ∧ st.heap 4 0 = some (.cells [x]) ∧ st.env 5 = y ∧ RowI st 50 58 y (prF ns i ns.length).2 ∧ RowN st 63 x (prF ns i ns.length).1) ns.length ?step ?start ?rest
  case step =>
    rintro n st ⟨k, x, y, h4, hh4, h1, h21, h22, h23, hk, hn', h5, hy, hx⟩
    have hlen := prF_idx ns i k
    have hlen2 := prF_nodes ns i k
    have hl1 : ((prF ns i k).2.length : Int) < 1000000 := by omega
    have hl2 : ((prF ns i k).1.length : Int) < 1000000 := by omega
    by_cases hlt : (k : Int) < ns.length
    · have hw : IntKind.i64.wrap ((k : Int) + 1) = ((k + 1 : Nat) : Int) := by rw [w64 _ (by omega) (by omega)]; simp
      have k0 : (0 : Int) ≤ k := by omega
      have hself := anc_self hu i0 i1
      by_cases hki : (k : Int) = i
      · have hq : ((k : Int) != i) = false := by simp [hki]
        have hs : prF ns i (k + 1) = ((prF ns i k).1 ++ [{ nd ns k with up := -1 }], (prF ns i k).2 ++ [((prF ns i k).1.length : Int)]) := by simp only [prF, hki, hself, if_true]
        rcases hy with ⟨rfl, hy⟩ | ⟨g, rfl, hg, hy⟩ | ⟨g, rfl, hg, hy⟩ <;> rcases hx with ⟨rfl, hx⟩ | ⟨g', rfl, hg', hx⟩
        · rw [hy, hx] at hs
          refine go_on (st' := ?s1) ?h1 ((ns.length - (k + 1))) (by omega) ?q1
          case h1 =>
            simp -implicitDefEqProofs only [ZZ, seval, h4, hh4, h1, h21, h22, h23, h5, hlt, k0, hw, hq]
            rfl
          case q1 => exact ⟨k + 1, _, _, (by simp only [EV, seval, h4]), (by simp only [EV, seval] <;> rfl), (by simp only [EV, seval, h1]), (by simp only [EV, seval, h21]), (by simp only [EV, seval, h22]), (by simp only [EV, seval]), by omega, by omega, (by simp only [EV, seval] <;> rfl), (by rw [hs]; (try simp only [List.nil_append]); exact .inr (.inr ⟨_, rfl, (by simp only [EV, seval] <;> omega), (by simp only [EV, seval] <;> rfl)⟩)), (by rw [hs]; (try simp only [List.nil_append]); exact .inr ⟨_, rfl, (by simp only [EV, seval] <;> omega), (by simp only [EV, seval] <;> rfl)⟩)⟩
        · rw [hy] at hs
          refine go_on (st' := ?s2) ?h2 ((ns.length - (k + 1))) (by omega) ?q2
          case h2 =>
            simp -implicitDefEqProofs only [ZZ, seval, h4, hh4, h1, h21, h22, h23, h5, hlt, k0, hw, hq, hx, hl2]
            rfl
          case q2 => exact ⟨k + 1, _, _, (by simp only [EV, seval, h4]), (by simp only [EV, seval] <;> rfl), (by simp only [EV, seval, h1]), (by simp only [EV, seval, h21]), (by simp only [EV, seval, h22]), (by simp only [EV, seval]), by omega, by omega, (by simp only [EV, seval] <;> rfl), (by rw [hs]; (try simp only [List.nil_append]); exact .inr (.inr ⟨_, rfl, (by simp only [EV, seval] <;> omega), (by simp only [EV, seval] <;> rfl)⟩)), (by rw [hs]; (try simp only [List.nil_append]); exact .inr ⟨_, rfl, (by simp only [EV, seval] <;> omega), (by simp only [EV, seval] <;> rfl)⟩)⟩
        · rw [hx] at hs
          refine go_on (st' := ?s3) ?h3 ((ns.length - (k + 1))) (by omega) ?q3
          case h3 =>
            simp -implicitDefEqProofs only [ZZ, seval, h4, hh4, h1, h21, h22, h23, h5, hlt, k0, hw, hq, hy, hl1]
            rfl
          case q3 => exact ⟨k + 1, _, _, (by simp only [EV, seval, h4]), (by simp only [EV, seval] <;> rfl), (by simp only [EV, seval, h1]), (by simp only [EV, seval, h21]), (by simp only [EV, seval, h22]), (by simp only [EV, seval]), by omega, by omega, (by simp only [EV, seval] <;> rfl), (by rw [hs]; (try simp only [List.nil_append]); exact .inr (.inr ⟨_, rfl, (by simp only [EV, seval] <;> omega), (by simp only [EV, seval] <;> rfl)⟩)), (by rw [hs]; (try simp only [List.nil_append]); exact .inr ⟨_, rfl, (by simp only [EV, seval] <;> omega), (by simp only [EV, seval] <;> rfl)⟩)⟩
        · refine go_on (st' := ?s4) ?h4 ((ns.length - (k + 1))) (by omega) ?q4
          case h4 =>
            simp -implicitDefEqProofs only [ZZ, seval, h4, hh4, h1, h21, h22, h23, h5, hlt, k0, hw, hq, hy, hl1, hx, hl2]
            rfl
          case q4 => exact ⟨k + 1, _, _, (by simp only [EV, seval, h4]), (by simp only [EV, seval] <;> rfl), (by simp only [EV, seval, h1]), (by simp only [EV, seval, h21]), (by simp only [EV, seval, h22]), (by simp only [EV, seval]), by omega, by omega, (by simp only [EV, seval] <;> rfl), (by rw [hs]; (try simp only [List.nil_append]); exact .inr (.inr ⟨_, rfl, (by simp only [EV, seval] <;> omega), (by simp only [EV, seval] <;> rfl)⟩)), (by rw [hs]; (try simp only [List.nil_append]); exact .inr ⟨_, rfl, (by simp only [EV, seval] <;> omega), (by simp only [EV, seval] <;> rfl)⟩)⟩
        · rw [hx] at hs
          refine go_on (st' := ?s5) ?h5 ((ns.length - (k + 1))) (by omega) ?q5
          case h5 =>
            simp -implicitDefEqProofs only [ZZ, seval, h4, hh4, h1, h21, h22, h23, h5, hlt, k0, hw, hq, hy, hl1]
            rfl
          case q5 => exact ⟨k + 1, _, _, (by simp only [EV, seval, h4]), (by simp only [EV, seval] <;> rfl), (by simp only [EV, seval, h1]), (by simp only [EV, seval, h21]), (by simp only [EV, seval, h22]), (by simp only [EV, seval]), by omega, by omega, (by simp only [EV, seval] <;> rfl), (by rw [hs]; (try simp only [List.nil_append]); exact .inr (.inr ⟨_, rfl, (by simp only [EV, seval] <;> omega), (by simp only [EV, seval] <;> rfl)⟩)), (by rw [hs]; (try simp only [List.nil_append]); exact .inr ⟨_, rfl, (by simp only [EV, seval] <;> omega), (by simp only [EV, seval] <;> rfl)⟩)⟩
        · refine go_on (st' := ?s6) ?h6 ((ns.length - (k + 1))) (by omega) ?q6
          case h6 =>
            simp -implicitDefEqProofs only [ZZ, seval, h4, hh4, h1, h21, h22, h23, h5, hlt, k0, hw, hq, hy, hl1, hx, hl2]
            rfl
          case q6 => exact ⟨k + 1, _, _, (by simp only [EV, seval, h4]), (by simp only [EV, seval] <;> rfl), (by simp only [EV, seval, h1]), (by simp only [EV, seval, h21]), (by simp only [EV, seval, h22]), (by simp only [EV, seval]), by omega, by omega, (by simp only [EV, seval] <;> rfl), (by rw [hs]; (try simp only [List.nil_append]); exact .inr (.inr ⟨_, rfl, (by simp only [EV, seval] <;> omega), (by simp only [EV, seval] <;> rfl)⟩)), (by rw [hs]; (try simp only [List.nil_append]); exact .inr ⟨_, rfl, (by simp only [EV, seval] <;> omega), (by simp only [EV, seval] <;> rfl)⟩)⟩
      · have hq : ((k : Int) != i) = true := by simp [hki]
        rcases Nat.eq_zero_or_pos k with hk0 | hk0
        · have hup : decide (0 ≤ (nd ns k).up) = false := by rw [hk0]; simp; omega
          have hanc : anc ns i k = false := by rw [hk0, show ((0 : Nat) : Int) = 0 from rfl, anc_zero (by omega)]; simp; omega
          have hs : prF ns i (k + 1) = ((prF ns i k).1, (prF ns i k).2 ++ [-1]) := by simp [prF, hanc]
          rcases hy with ⟨rfl, hy⟩ | ⟨g, rfl, hg, hy⟩ | ⟨g, rfl, hg, hy⟩ <;> rcases hx with ⟨rfl, hx⟩ | ⟨g', rfl, hg', hx⟩
          · rw [hy, hx] at hs
            refine go_on (st' := ?s7) ?h7 ((ns.length - (k + 1))) (by omega) ?q7
            case h7 =>
              simp -implicitDefEqProofs only [ZZ, seval, h4, hh4, h1, h21, h22, h23, h5, hlt, k0, hw, hq, hup]
              rfl
            case q7 => exact ⟨k + 1, _, _, (by simp only [EV, seval, h4]), (by simp only [EV, seval, hh4] <;> rfl), (by simp only [EV, seval, h1]), (by simp only [EV, seval, h21]), (by simp only [EV, seval, h22]), (by simp only [EV, seval]), by omega, by omega, (by simp only [EV, seval] <;> rfl), (by rw [hs]; (try simp only [List.nil_append]); exact .inr (.inl ⟨_, rfl, (by simp only [EV, seval] <;> omega), (by simp only [EV, seval] <;> rfl)⟩)), (by rw [hs]; exact .inl ⟨rfl, rfl⟩)⟩
          · rw [hy] at hs
            refine go_on (st' := ?s8) ?h8 ((ns.length - (k + 1))) (by omega) ?q8
            case h8 =>
              simp -implicitDefEqProofs only [ZZ, seval, h4, hh4, h1, h21, h22, h23, h5, hlt, k0, hw, hq, hup, hx, hl2]
              rfl
            case q8 => exact ⟨k + 1, _, _, (by simp only [EV, seval, h4]), (by simp only [EV, seval, hh4] <;> rfl), (by simp only [EV, seval, h1]), (by simp only [EV, seval, h21]), (by simp only [EV, seval, h22]), (by simp only [EV, seval]), by omega, by omega, (by simp only [EV, seval] <;> rfl), (by rw [hs]; (try simp only [List.nil_append]); exact .inr (.inl ⟨_, rfl, (by simp only [EV, seval] <;> omega), (by simp only [EV, seval] <;> rfl)⟩)), (by rw [hs]; exact .inr ⟨_, rfl, (by simp only [EV, seval] <;> omega), (by simp only [EV, seval, hx])⟩)⟩
          · rw [hx] at hs
            refine go_on (st' := ?s9) ?h9 ((ns.length - (k + 1))) (by omega) ?q9
            case h9 =>
              simp -implicitDefEqProofs only [ZZ, seval, h4, hh4, h1, h21, h22, h23, h5, hlt, k0, hw, hq, hup, hy, hl1]
              rfl
            case q9 => exact ⟨k + 1, _, _, (by simp only [EV, seval, h4]), (by simp only [EV, seval, hh4] <;> rfl), (by simp only [EV, seval, h1]), (by simp only [EV, seval, h21]), (by simp only [EV, seval, h22]), (by simp only [EV, seval]), by omega, by omega, (by simp only [EV, seval] <;> rfl), (by rw [hs]; (try simp only [List.nil_append]); exact .inr (.inl ⟨_, rfl, (by simp only [EV, seval] <;> omega), (by simp only [EV, seval] <;> rfl)⟩)), (by rw [hs]; exact .inl ⟨rfl, rfl⟩)⟩
          · refine go_on (st' := ?s10) ?h10 ((ns.length - (k + 1))) (by omega) ?q10
            case h10 =>
              simp -implicitDefEqProofs only [ZZ, seval, h4, hh4, h1, h21, h22, h23, h5, hlt, k0, hw, hq, hup, hy, hl1, hx, hl2]
              rfl
            case q10 => exact ⟨k + 1, _, _, (by simp only [EV, seval, h4]), (by simp only [EV, seval, hh4] <;> rfl), (by simp only [EV, seval, h1]), (by simp only [EV, seval, h21]), (by simp only [EV, seval, h22]), (by simp only [EV, seval]), by omega, by omega, (by simp only [EV, seval] <;> rfl), (by rw [hs]; (try simp only [List.nil_append]); exact .inr (.inl ⟨_, rfl, (by simp only [EV, seval] <;> omega), (by simp only [EV, seval] <;> rfl)⟩)), (by rw [hs]; exact .inr ⟨_, rfl, (by simp only [EV, seval] <;> omega), (by simp only [EV, seval, hx])⟩)⟩
          · rw [hx] at hs
            refine go_on (st' := ?s11) ?h11 ((ns.length - (k + 1))) (by omega) ?q11
            case h11 =>
              simp -implicitDefEqProofs only [ZZ, seval, h4, hh4, h1, h21, h22, h23, h5, hlt, k0, hw, hq, hup, hy, hl1]
              rfl
            case q11 => exact ⟨k + 1, _, _, (by simp only [EV, seval, h4]), (by simp only [EV, seval, hh4] <;> rfl), (by simp only [EV, seval, h1]), (by simp only [EV, seval, h21]), (by simp only [EV, seval, h22]), (by simp only [EV, seval]), by omega, by omega, (by simp only [EV, seval] <;> rfl), (by rw [hs]; (try simp only [List.nil_append]); exact .inr (.inl ⟨_, rfl, (by simp only [EV, seval] <;> omega), (by simp only [EV, seval] <;> rfl)⟩)), (by rw [hs]; exact .inl ⟨rfl, rfl⟩)⟩
          · refine go_on (st' := ?s12) ?h12 ((ns.length - (k + 1))) (by omega) ?q12
            case h12 =>
              simp -implicitDefEqProofs only [ZZ, seval, h4, hh4, h1, h21, h22, h23, h5, hlt, k0, hw, hq, hup, hy, hl1, hx, hl2]
              rfl
            case q12 => exact ⟨k + 1, _, _, (by simp only [EV, seval, h4]), (by simp only [EV, seval, hh4] <;> rfl), (by simp only [EV, seval, h1]), (by simp only [EV, seval, h21]), (by simp only [EV, seval, h22]), (by simp only [EV, seval]), by omega, by omega, (by simp only [EV, seval] <;> rfl), (by rw [hs]; (try simp only [List.nil_append]); exact .inr (.inl ⟨_, rfl, (by simp only [EV, seval] <;> omega), (by simp only [EV, seval] <;> rfl)⟩)), (by rw [hs]; exact .inr ⟨_, rfl, (by simp only [EV, seval] <;> omega), (by simp only [EV, seval, hx])⟩)⟩
        · obtain ⟨u0, u1'⟩ := hu k (by omega) hlt
          have u1 : (nd ns k).up < (prF ns i k).2.length := by rw [hlen]; exact u1'
          have hsg := prF_sign ns i k (nd ns k).up u0 (by omega)
          have hstep := anc_step hu (show (0 : Int) < k by omega) hlt (Ne.symm hki)
          cases hanc : anc ns i k
          · have hneg : decide (it (prF ns i k).2 (nd ns k).up < 0) = true := by
              rw [← hstep, hanc] at hsg
              simp at hsg ⊢; exact hsg
            have hs : prF ns i (k + 1) = ((prF ns i k).1, (prF ns i k).2 ++ [-1]) := by simp [prF, hanc]
            rcases hy with ⟨rfl, hy⟩ | ⟨g, rfl, hg, hy⟩ | ⟨g, rfl, hg, hy⟩ <;> rcases hx with ⟨rfl, hx⟩ | ⟨g', rfl, hg', hx⟩
            · exfalso; rw [hy] at u1; simp at u1; omega
            · exfalso; rw [hy] at u1; simp at u1; omega
            · rw [hx] at hs
              refine go_on (st' := ?s13) ?h13 ((ns.length - (k + 1))) (by omega) ?q13
              case h13 =>
                simp -implicitDefEqProofs only [ZZ, seval, h4, hh4, h1, h21, h22, h23, h5, hlt, k0, hw, hq, u0, u1, hneg, hy, hl1]
                rfl
              case q13 => exact ⟨k + 1, _, _, (by simp only [EV, seval, h4]), (by simp only [EV, seval, hh4] <;> rfl), (by simp only [EV, seval, h1]), (by simp only [EV, seval, h21]), (by simp only [EV, seval, h22]), (by simp only [EV, seval]), by omega, by omega, (by simp only [EV, seval] <;> rfl), (by rw [hs]; (try simp only [List.nil_append]); exact .inr (.inl ⟨_, rfl, (by simp only [EV, seval] <;> omega), (by simp only [EV, seval] <;> rfl)⟩)), (by rw [hs]; exact .inl ⟨rfl, rfl⟩)⟩
            · refine go_on (st' := ?s14) ?h14 ((ns.length - (k + 1))) (by omega) ?q14
              case h14 =>
                simp -implicitDefEqProofs only [ZZ, seval, h4, hh4, h1, h21, h22, h23, h5, hlt, k0, hw, hq, u0, u1, hneg, hy, hl1, hx, hl2]
                rfl
              case q14 => exact ⟨k + 1, _, _, (by simp only [EV, seval, h4]), (by simp only [EV, seval, hh4] <;> rfl), (by simp only [EV, seval, h1]), (by simp only [EV, seval, h21]), (by simp only [EV, seval, h22]), (by simp only [EV, seval]), by omega, by omega, (by simp only [EV, seval] <;> rfl), (by rw [hs]; (try simp only [List.nil_append]); exact .inr (.inl ⟨_, rfl, (by simp only [EV, seval] <;> omega), (by simp only [EV, seval] <;> rfl)⟩)), (by rw [hs]; exact .inr ⟨_, rfl, (by simp only [EV, seval] <;> omega), (by simp only [EV, seval, hx])⟩)⟩
            · rw [hx] at hs
              refine go_on (st' := ?s15) ?h15 ((ns.length - (k + 1))) (by omega) ?q15
              case h15 =>
                simp -implicitDefEqProofs only [ZZ, seval, h4, hh4, h1, h21, h22, h23, h5, hlt, k0, hw, hq, u0, u1, hneg, hy, hl1]
                rfl
              case q15 => exact ⟨k + 1, _, _, (by simp only [EV, seval, h4]), (by simp only [EV, seval, hh4] <;> rfl), (by simp only [EV, seval, h1]), (by simp only [EV, seval, h21]), (by simp only [EV, seval, h22]), (by simp only [EV, seval]), by omega, by omega, (by simp only [EV, seval] <;> rfl), (by rw [hs]; (try simp only [List.nil_append]); exact .inr (.inl ⟨_, rfl, (by simp only [EV, seval] <;> omega), (by simp only [EV, seval] <;> rfl)⟩)), (by rw [hs]; exact .inl ⟨rfl, rfl⟩)⟩
            · refine go_on (st' := ?s16) ?h16 ((ns.length - (k + 1))) (by omega) ?q16
              case h16 =>
                simp -implicitDefEqProofs only [ZZ, seval, h4, hh4, h1, h21, h22, h23, h5, hlt, k0, hw, hq, u0, u1, hneg, hy, hl1, hx, hl2]
                rfl
              case q16 => exact ⟨k + 1, _, _, (by simp only [EV, seval, h4]), (by simp only [EV, seval, hh4] <;> rfl), (by simp only [EV, seval, h1]), (by simp only [EV, seval, h21]), (by simp only [EV, seval, h22]), (by simp only [EV, seval]), by omega, by omega, (by simp only [EV, seval] <;> rfl), (by rw [hs]; (try simp only [List.nil_append]); exact .inr (.inl ⟨_, rfl, (by simp only [EV, seval] <;> omega), (by simp only [EV, seval] <;> rfl)⟩)), (by rw [hs]; exact .inr ⟨_, rfl, (by simp only [EV, seval] <;> omega), (by simp only [EV, seval, hx])⟩)⟩
          · have hneg : decide (it (prF ns i k).2 (nd ns k).up < 0) = false := by
              rw [← hstep, hanc] at hsg
              simp at hsg ⊢; exact hsg
            have hs : prF ns i (k + 1) = ((prF ns i k).1 ++ [{ nd ns k with up := it (prF ns i k).2 (nd ns k).up }], (prF ns i k).2 ++ [((prF ns i k).1.length : Int)]) := by simp only [prF, hanc, if_true, if_neg hki]
            rcases hy with ⟨rfl, hy⟩ | ⟨g, rfl, hg, hy⟩ | ⟨g, rfl, hg, hy⟩ <;> rcases hx with ⟨rfl, hx⟩ | ⟨g', rfl, hg', hx⟩
            · exfalso; rw [hy] at u1; simp at u1; omega
            · exfalso; rw [hy] at u1; simp at u1; omega
            · rw [hx] at hs
              refine go_on (st' := ?s17) ?h17 ((ns.length - (k + 1))) (by omega) ?q17
              case h17 =>
                simp -implicitDefEqProofs only [ZZ, seval, h4, hh4, h1, h21, h22, h23, h5, hlt, k0, hw, hq, u0, u1, hneg, hy, hl1]
                rfl
              case q17 => exact ⟨k + 1, _, _, (by simp only [EV, seval, h4]), (by simp only [EV, seval] <;> rfl), (by simp only [EV, seval, h1]), (by simp only [EV, seval, h21]), (by simp only [EV, seval, h22]), (by simp only [EV, seval]), by omega, by omega, (by simp only [EV, seval] <;> rfl), (by rw [hs]; (try simp only [List.nil_append]); exact .inr (.inr ⟨_, rfl, (by simp only [EV, seval] <;> omega), (by simp only [EV, seval] <;> rfl)⟩)), (by rw [hs]; (try simp only [List.nil_append]); exact .inr ⟨_, rfl, (by simp only [EV, seval] <;> omega), (by simp only [EV, seval] <;> rfl)⟩)⟩
            · refine go_on (st' := ?s18) ?h18 ((ns.length - (k + 1))) (by omega) ?q18
              case h18 =>
                simp -implicitDefEqProofs only [ZZ, seval, h4, hh4, h1, h21, h22, h23, h5, hlt, k0, hw, hq, u0, u1, hneg, hy, hl1, hx, hl2]
                rfl
              case q18 => exact ⟨k + 1, _, _, (by simp only [EV, seval, h4]), (by simp only [EV, seval] <;> rfl), (by simp only [EV, seval, h1]), (by simp only [EV, seval, h21]), (by simp only [EV, seval, h22]), (by simp only [EV, seval]), by omega, by omega, (by simp only [EV, seval] <;> rfl), (by rw [hs]; (try simp only [List.nil_append]); exact .inr (.inr ⟨_, rfl, (by simp only [EV, seval] <;> omega), (by simp only [EV, seval] <;> rfl)⟩)), (by rw [hs]; (try simp only [List.nil_append]); exact .inr ⟨_, rfl, (by simp only [EV, seval] <;> omega), (by simp only [EV, seval] <;> rfl)⟩)⟩
            · rw [hx] at hs
              refine go_on (st' := ?s19) ?h19 ((ns.length - (k + 1))) (by omega) ?q19
              case h19 =>
                simp -implicitDefEqProofs only [ZZ, seval, h4, hh4, h1, h21, h22, h23, h5, hlt, k0, hw, hq, u0, u1, hneg, hy, hl1]
                rfl
              case q19 => exact ⟨k + 1, _, _, (by simp only [EV, seval, h4]), (by simp only [EV, seval] <;> rfl), (by simp only [EV, seval, h1]), (by simp only [EV, seval, h21]), (by simp only [EV, seval, h22]), (by simp only [EV, seval]), by omega, by omega, (by simp only [EV, seval] <;> rfl), (by rw [hs]; (try simp only [List.nil_append]); exact .inr (.inr ⟨_, rfl, (by simp only [EV, seval] <;> omega), (by simp only [EV, seval] <;> rfl)⟩)), (by rw [hs]; (try simp only [List.nil_append]); exact .inr ⟨_, rfl, (by simp only [EV, seval] <;> omega), (by simp only [EV, seval] <;> rfl)⟩)⟩
            · refine go_on (st' := ?s20) ?h20 ((ns.length - (k + 1))) (by omega) ?q20
              case h20 =>
                simp -implicitDefEqProofs only [ZZ, seval, h4, hh4, h1, h21, h22, h23, h5, hlt, k0, hw, hq, u0, u1, hneg, hy, hl1, hx, hl2]
                rfl
              case q20 => exact ⟨k + 1, _, _, (by simp only [EV, seval, h4]), (by simp only [EV, seval] <;> rfl), (by simp only [EV, seval, h1]), (by simp only [EV, seval, h21]), (by simp only [EV, seval, h22]), (by simp only [EV, seval]), by omega, by omega, (by simp only [EV, seval] <;> rfl), (by rw [hs]; (try simp only [List.nil_append]); exact .inr (.inr ⟨_, rfl, (by simp only [EV, seval] <;> omega), (by simp only [EV, seval] <;> rfl)⟩)), (by rw [hs]; (try simp only [List.nil_append]); exact .inr ⟨_, rfl, (by simp only [EV, seval] <;> omega), (by simp only [EV, seval] <;> rfl)⟩)⟩
    · have hkn : k = ns.length := by omega
      subst hkn
      refine go_out (e := .exit 0) (st' := ?s21) ?h21 (by simp) ?q21
      case h21 =>
        simp -implicitDefEqProofs only [ZZ, seval, h4, hh4, h1, h21, h22, h23, hlt, h5]
        rfl
      case q21 => exact ⟨rfl, x, y, (by simp only [EV, seval, h4]), (by simp only [EV, seval, hh4]), (by simp only [EV, seval, h5]), hy, hx⟩
  case start => exact ⟨0, _, _, (by simp only [EV, seval]), (by simp only [EV, seval] <;> rfl), (by simp only [EV, seval]), (by simp only [EV, seval]), (by simp only [EV, seval]), (by simp only [EV, seval]), by omega, by omega, (by simp only [EV, seval] <;> rfl), .inl ⟨rfl, rfl⟩, .inl ⟨rfl, rfl⟩⟩
  case rest =>
    rintro e st ⟨rfl, x, y, h4, hh4, h5, hy, hx⟩
    have hlen := prF_idx ns i ns.length
    have hne := prF_ne ns hu i0 i1
    rcases hy with ⟨rfl, hy⟩ | ⟨g, rfl, hg, hy⟩ | ⟨g, rfl, hg, hy⟩ <;> rcases hx with ⟨rfl, hx⟩ | ⟨g', rfl, hg', hx⟩
    · exact absurd hx hne
    · rw [hy] at hlen; simp at hlen; omega
    · exact absurd hx hne
    · simp -implicitDefEqProofs only [ZZ, seval, h4, hh4, h5]
      exact endL_three (keep_none (by decide)) (.inl rfl) rfl (by simp -implicitDefEqProofs only [resA, ZZ, seval, h4, hh4, h5]; rfl) (by simp only [resA, EV, seval] <;> rfl) (by simp only [resA, EV, seval] <;> rfl) (by simp only [EV, seval, hx, Option.map_some] <;> rfl) (by simp only [EV, seval, hy]) (by simp only [EV, seval])
    · exact absurd hx hne
    · simp -implicitDefEqProofs only [ZZ, seval, h4, hh4, h5]
      exact endL_three (keep_none (by decide)) (.inl rfl) rfl (by simp -implicitDefEqProofs only [resA, ZZ, seval, h4, hh4, h5]; rfl) (by simp only [resA, EV, seval] <;> rfl) (by simp only [resA, EV, seval] <;> rfl) (by simp only [EV, seval, hx, Option.map_some] <;> rfl) (by simp only [EV, seval, hy]) (by simp only [EV, seval])
/-- The zero tree, no index, an error. -/
def prErr : AV := .tup [.agg [.v (.slice none 0 0)], .v (.slice none 0 0), .v (.int .i64 10)]
theorem c31e (ns : List Node) (i : Int) (h : ¬ (0 ≤ i ∧ i < ns.length)) : callL Try.prog 31 [.agg (cTree ⟨ns⟩), .v (.int .i64 i)] = some prErr := by
  rw [callL_eq Try.prog Try.func31 rfl ok31 _ (ext_none _ (by decide)) rfl]
  by_cases h0 : i < 0
  · have hi0 : decide (i < 0) = true := by simp [h0]
    simp -implicitDefEqProofs only [ZZ, seval, hi0]
    exact endL_three (keep_none (by decide)) (.inl rfl) rfl (by simp -implicitDefEqProofs only [resA, ZZ, seval]; rfl) (by simp only [resA, EV, seval] <;> rfl) (by simp only [resA, EV, seval] <;> rfl) (by simp only [EV, seval]) (by simp only [EV, seval]) (by simp only [EV, seval])
  · have hi0 : decide (i < 0) = false := by simp [h0]
    have hi1 : decide ((ns.length : Int) ≤ i) = true := by simp; omega
    simp -implicitDefEqProofs only [ZZ, seval, hi0, hi1]
    exact endL_three (keep_none (by decide)) (.inl rfl) rfl (by simp -implicitDefEqProofs only [resA, ZZ, seval]; rfl) (by simp only [resA, EV, seval] <;> rfl) (by simp only [resA, EV, seval] <;> rfl) (by simp only [EV, seval]) (by simp only [EV, seval]) (by simp only [EV, seval])
theorem c32e (ns : List Node) (i : Int) (h : ¬ (0 ≤ i ∧ i < ns.length)) : callL Try.prog 32 [.agg (cTree ⟨ns⟩), .v (.int .i64 i)] = some prErr := by
  rw [callL_eq Try.prog Try.func32 rfl ok32 _ (ext_none _ (by decide)) rfl]
  have hd : (decide (0 ≤ i) && decide (i < ns.length)) = false := by
    rw [← Bool.not_eq_true]; simpa using h
  simp -implicitDefEqProofs only [ZZ, seval, k86, hd]
  exact endL_three (keep_none (by decide)) (.inl rfl) rfl (by simp -implicitDefEqProofs only [resA, ZZ, seval]; rfl) (by simp only [resA, EV, seval] <;> rfl) (by simp only [resA, EV, seval] <;> rfl) (by simp only [EV, seval]) (by simp only [EV, seval]) (by simp only [EV, seval])
def prOk (ns : List Node) (i : Int) : AV := .tup [.agg (cTree ⟨(prF ns i ns.length).1⟩), .sl (prF ns i ns.length).2.length (csInt (prF ns i ns.length).2), .v (.int .i64 0)]
theorem flat_prOk (ns : List Node) (i : Int) : Flat (prOk ns i) := .tup _ (flat3 (flatT _) (flatSl _) (.v _))
theorem flat_prErr : Flat prErr := .tup _ (flat3 flatNT (.v _) (.v _))
def isIn (ns : List Node) (i : Int) : Prop := 0 ≤ i ∧ i < ns.length
theorem k31 (ns : List Node) (hu : UpOk ns) (hr : (nd ns 0).up < 0) (hn : (ns.length : Int) < 1000000) (i : Int) (h : 0 ≤ i ∧ i < ns.length) (st : St) (d : Option Nat) : callFn (callL Try.prog) 31 [.agg (cTree ⟨ns⟩), .v (.int .i64 i)] st d = some { dst := d, val := prOk ns i } := call_flat (flat2 (flatT _) (.v _)) (c31 ns hu hr hn i h.1 h.2) (flat_prOk ns i)
theorem k32 (ns : List Node) (hu : UpOk ns) (hn : (ns.length : Int) < 1000000) (i : Int) (h : 0 ≤ i ∧ i < ns.length) (st : St) (d : Option Nat) : callFn (callL Try.prog) 32 [.agg (cTree ⟨ns⟩), .v (.int .i64 i)] st d = some { dst := d, val := prOk ns i } := call_flat (flat2 (flatT _) (.v _)) (c32 ns hu hn i h.1 h.2) (flat_prOk ns i)
theorem k31e (ns : List Node) (i : Int) (h : ¬ (0 ≤ i ∧ i < ns.length)) (st : St) (d : Option Nat) : callFn (callL Try.prog) 31 [.agg (cTree ⟨ns⟩), .v (.int .i64 i)] st d = some { dst := d, val := prErr } := call_flat (flat2 (flatT _) (.v _)) (c31e ns i h) flat_prErr
theorem k32e (ns : List Node) (i : Int) (h : ¬ (0 ≤ i ∧ i < ns.length)) (st : St) (d : Option Nat) : callFn (callL Try.prog) 32 [.agg (cTree ⟨ns⟩), .v (.int .i64 i)] st d = some { dst := d, val := prErr } := call_flat (flat2 (flatT _) (.v _)) (c32e ns i h) flat_prErr
end Go.Ab.Try
