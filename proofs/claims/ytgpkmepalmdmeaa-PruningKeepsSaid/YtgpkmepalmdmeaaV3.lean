/-
  Part V3 of the proof: what functions of this program compute.
-/
import Derived.Test.YtgpkmepalmdmeaaV2
set_option linter.all false
set_option linter.unusedSimpArgs false
set_option linter.unusedVariables false
set_option maxRecDepth 20000
set_option maxHeartbeats 4000000
namespace Go.Ab.Try
open Classical Go.Proofs Go.Ab
/-- blocktree.Validate -/
theorem c49 (ns : List Node) (hn : (ns.length : Int) < 1000000) : callL Try.prog 49 [.agg (cTree ⟨ns⟩)] = some (.v (.int .i64 (valV ns))) := by
  rw [callL_eq Try.prog Try.func49 rfl ok49 _ (ext_none _ (by decide)) rfl]
  by_cases h0 : ns.length = 0
  · have hq : ((ns.length : Int) == 0) = true := by simp [h0]
    have hv : valV ns = 11 := if_pos (.inl h0)
    simp -implicitDefEqProofs only [ZZ, seval, hq]
    exact endL_tmp (keep_none (by decide)) (.inl rfl) rfl (by simp only [EV, seval, hv]) (.v _)
  · have hq : ((ns.length : Int) == 0) = false := by simp [h0]
    by_cases h1 : (4096 : Int) < ns.length
    · have hv : valV ns = 11 := if_pos (.inr (by omega))
      simp -implicitDefEqProofs only [ZZ, seval, hq, h1]
      exact endL_tmp (keep_none (by decide)) (.inl rfl) rfl (by simp only [EV, seval, hv]) (.v _)
    · have hv : valV ns = valF ns ns.length := if_neg (by omega)
      rw [hv]
      simp -implicitDefEqProofs only [ZZ, seval, hq, h1]
      refine use_loop (fun n st => ∃ k : Nat, (st.env 1 = .ptr 1 0 0 ∧ st.heap 1 0 = some (.cells (cTree ⟨ns⟩)) ∧ st.env 3 = .mp 16 0 ∧ st.heap 16 0 = some (.map (mpR (rts ns k))) ∧ st.env 18 = .sl ns.length (csNode ns) ∧ st.env 19 = .v (.int .i64 ns.length) ∧ st.env 20 = .v (.int .i64 k)) ∧ valF ns k = 0 ∧ k ≤ ns.length ∧ n = ns.length - k)
        (fun e st => (e = .ret ∧ st.env 2 = .v (.int .i64 (valF ns ns.length))) ∨ (e = .exit 0 ∧ valF ns ns.length = 0)) ns.length ?step ?start ?rest
      case step =>
        rintro n st ⟨k, hI, hz, hk, hn'⟩
        by_cases hlt : (k : Int) < ns.length
        · have hw : IntKind.i64.wrap ((k : Int) + 1) = ((k + 1 : Nat) : Int) := by rw [w64 _ (by omega) (by omega)]; omega
          have q0 : (0 : Int) ≤ k := by omega
          have hat := fun h => valF_at (ns := ns) (k := k) (by omega) hz h
          cases hst : isSt (nd ns k).status
          · have hE : nodeE ns k = 2 := by unfold nodeE; rw [if_pos (.inl hst)]
            refine go_out (e := .ret) (st' := ?s1) ?h1 (by simp) ?q1
            case h1 =>
              simp -implicitDefEqProofs only [ZZ, seval, hI, hlt, q0, k90, hst]
              rfl
            case q1 => exact .inl ⟨rfl, by rw [hat (by omega), hE]; simp only [EV, seval]⟩
          · by_cases hk0 : k = 0
            · have hki : (k : Int) = 0 := by omega
              have heq : ((k : Int) == 0) = true := by simp [hk0]
              by_cases hup : (nd ns k).up = -1
              · have hu : ((nd ns k).up != -1) = false := by simp [hup]
                have hE : nodeE ns k = 0 := by
                  unfold nodeE
                  rw [if_neg, if_neg, if_pos hki]
                  · rintro ⟨j, j0, j1, _⟩; omega
                  · rintro (h | ⟨_, h⟩ | ⟨h, _⟩)
                    · rw [hst] at h; cases h
                    · exact h hup
                    · omega
                have hm : decide ((nd ns k).block.root ∈ rts ns k) = false := by simp [rts, hk0]
                have hm' : (nd ns k).block.root ∉ rts ns k := by simp [rts, hk0]
                have hs := rts_succ (ns := ns) (k := k) (by omega)
                have hng : ¬ (0 : Int) < k := by omega
                refine go_on (st' := ?s2) ?h2 (ns.length - (k + 1)) (by omega) ?q2
                case h2 =>
                  simp -implicitDefEqProofs only [ZZ, seval, hI, hlt, q0, k90, hst, hu, hng, heq, look94, mset94, lk94, ms94 _ _ hm', hm, hw]
                  rfl
                case q2 => exact ⟨k + 1, ⟨by simp only [EV, seval, hI], by simp only [EV, seval, hI], by simp only [EV, seval, hI], by rw [hs]; simp only [EV, seval, hI], by simp only [EV, seval, hI], by simp only [EV, seval, hI], by simp only [EV, seval, hI]⟩, by simp only [valF, hz, if_true, hE], by omega, rfl⟩
              · have hu : ((nd ns k).up != -1) = true := by simp [hup]
                have hE : nodeE ns k = 2 := by unfold nodeE; rw [if_pos (.inr (.inl ⟨hki, hup⟩))]
                refine go_out (e := .ret) (st' := ?s3) ?h3 (by simp) ?q3
                case h3 =>
                  simp -implicitDefEqProofs only [ZZ, seval, hI, hlt, q0, k90, hst, hu, heq]
                  rfl
                case q3 => exact .inl ⟨rfl, by rw [hat (by omega), hE]; simp only [EV, seval]⟩
            · have hg : (0 : Int) < k := by omega
              have heq : ((k : Int) == 0) = false := by simp [hk0]
              by_cases hu0 : (nd ns k).up < 0
              · have hE : nodeE ns k = 2 := by unfold nodeE; rw [if_pos (.inr (.inr ⟨hg, .inl hu0⟩))]
                refine go_out (e := .ret) (st' := ?s4) ?h4 (by simp) ?q4
                case h4 =>
                  simp -implicitDefEqProofs only [ZZ, seval, hI, hlt, q0, k90, hst, heq, hg, hu0]
                  rfl
                case q4 => exact .inl ⟨rfl, by rw [hat (by omega), hE]; simp only [EV, seval]⟩
              · by_cases hu1 : (k : Int) ≤ (nd ns k).up
                · have hE : nodeE ns k = 2 := by unfold nodeE; rw [if_pos (.inr (.inr ⟨hg, .inr hu1⟩))]
                  refine go_out (e := .ret) (st' := ?s5) ?h5 (by simp) ?q5
                  case h5 =>
                    simp -implicitDefEqProofs only [ZZ, seval, hI, hlt, q0, k90, hst, heq, hg, hu0, hu1]
                    rfl
                  case q5 => exact .inl ⟨rfl, by rw [hat (by omega), hE]; simp only [EV, seval]⟩
                · have hE0 : nodeE ns k = if ∃ j : Int, 0 ≤ j ∧ j < k ∧ (nd ns j).block.root = (nd ns k).block.root then 9 else if (k : Int) = 0 then 0 else if (nd ns k).block.parent ≠ (nd ns (nd ns k).up).block.root then 10 else if (nd ns k).block.slot ≤ (nd ns (nd ns k).up).block.slot then 14 else 0 := by
                    conv => lhs; unfold nodeE
                    rw [if_neg]
                    rintro (h | ⟨h, _⟩ | ⟨_, h | h⟩)
                    · rw [hst] at h; cases h
                    · omega
                    · omega
                    · omega
                  have u0 : 0 ≤ (nd ns k).up := by omega
                  have u1 : (nd ns k).up < ns.length := by omega
                  by_cases hm' : (nd ns k).block.root ∈ rts ns k
                  · have hm : decide ((nd ns k).block.root ∈ rts ns k) = true := decide_eq_true hm'
                    have hE : nodeE ns k = 9 := by rw [hE0, if_pos ((rts_mem hk _).1 hm')]
                    refine go_out (e := .ret) (st' := ?s6) ?h6 (by simp) ?q6
                    case h6 =>
                      simp -implicitDefEqProofs only [ZZ, seval, hI, hlt, q0, k90, hst, heq, hg, hu0, hu1, look94, lk94, hm]
                      rfl
                    case q6 => exact .inl ⟨rfl, by rw [hat (by omega), hE]; simp only [EV, seval]⟩
                  · have hm : decide ((nd ns k).block.root ∈ rts ns k) = false := decide_eq_false hm'
                    rw [if_neg (fun h => hm' ((rts_mem hk _).2 h)), if_neg (by omega)] at hE0
                    by_cases hp : (nd ns k).block.parent = (nd ns (nd ns k).up).block.root
                    · have hpd : decide ((nd ns k).block.parent = (nd ns (nd ns k).up).block.root) = true := decide_eq_true hp
                      rw [if_neg (fun h => h hp)] at hE0
                      by_cases hs : (nd ns k).block.slot ≤ (nd ns (nd ns k).up).block.slot
                      · rw [if_pos hs] at hE0
                        refine go_out (e := .ret) (st' := ?s7) ?h7 (by simp) ?q7
                        case h7 =>
                          simp -implicitDefEqProofs only [ZZ, seval, hI, hlt, q0, k90, hst, heq, hg, hu0, hu1, look94, lk94, hm, mset94, ms94 _ _ hm', u0, u1, hpd, hs]
                          rfl
                        case q7 => exact .inl ⟨rfl, by rw [hat (by omega), hE0]; simp only [EV, seval]⟩
                      · rw [if_neg hs] at hE0
                        have hrs := rts_succ (ns := ns) (k := k) (by omega)
                        refine go_on (st' := ?s8) ?h8 (ns.length - (k + 1)) (by omega) ?q8
                        case h8 =>
                          simp -implicitDefEqProofs only [ZZ, seval, hI, hlt, q0, k90, hst, heq, hg, hu0, hu1, look94, lk94, hm, mset94, ms94 _ _ hm', u0, u1, hpd, hs, hw]
                          rfl
                        case q8 => exact ⟨k + 1, ⟨by simp only [EV, seval, hI], by simp only [EV, seval, hI], by simp only [EV, seval, hI], by rw [hrs]; simp only [EV, seval, hI], by simp only [EV, seval, hI], by simp only [EV, seval, hI], by simp only [EV, seval, hI]⟩, by simp only [valF, hz, if_true, hE0], by omega, rfl⟩
                    · have hpd : decide ((nd ns k).block.parent = (nd ns (nd ns k).up).block.root) = false := decide_eq_false hp
                      rw [if_pos hp] at hE0
                      refine go_out (e := .ret) (st' := ?s9) ?h9 (by simp) ?q9
                      case h9 =>
                        simp -implicitDefEqProofs only [ZZ, seval, hI, hlt, q0, k90, hst, heq, hg, hu0, hu1, look94, lk94, hm, mset94, ms94 _ _ hm', u0, u1, hpd]
                        rfl
                      case q9 => exact .inl ⟨rfl, by rw [hat (by omega), hE0]; simp only [EV, seval]⟩
        · obtain rfl : k = ns.length := by omega
          refine go_out (e := .exit 0) (st' := ?s10) ?h10 (by simp) ?q10
          case h10 =>
            simp -implicitDefEqProofs only [ZZ, seval, hI, hlt]
            rfl
          case q10 => exact .inr ⟨rfl, hz⟩
      case start => exact ⟨0, by simp only [EV, seval]; rfl, rfl, by omega, by omega⟩
      case rest =>
        rintro e st (⟨rfl, h⟩ | ⟨rfl, h⟩)
        · simp -implicitDefEqProofs only [ZZ, seval]
          exact endL_tmp (keep_none (by decide)) (.inl rfl) rfl h (.v _)
        · simp -implicitDefEqProofs only [ZZ, seval]
          exact endL_tmp (keep_none (by decide)) (.inl rfl) rfl (by simp only [EV, seval, h]) (.v _)
theorem k49 (ns : List Node) (hn : (ns.length : Int) < 1000000) (st : St) (d : Option Nat) : callFn (callL Try.prog) 49 [.agg (cTree ⟨ns⟩)] st d = some { dst := d, val := .v (.int .i64 (valV ns)) } := call_flat (flat1 (flatT _)) (c49 ns hn) (.v _)
end Go.Ab.Try
