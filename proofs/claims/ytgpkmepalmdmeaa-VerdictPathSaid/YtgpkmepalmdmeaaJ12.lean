/-
  Part J12 of the proof: what functions of this program compute.
-/
import Derived.Test.YtgpkmepalmdmeaaJ10
set_option linter.all false
set_option linter.unusedSimpArgs false
set_option linter.unusedVariables false
set_option maxRecDepth 20000
set_option maxHeartbeats 4000000
namespace Go.Ab.Try
open Classical Go.Proofs Go.Ab
theorem anc_dsc {ns : List Node} {c z : Int} (z0 : 0 ≤ z) (z1 : z < ns.length) : anc ns c z = decide (z ∈ dsc ns c ns.length) := by
  cases h : anc ns c z
  · exact (decide_eq_false fun hz => by rw [((dsc_mem ns c z _).1 hz).2] at h; cases h).symm
  · exact (decide_eq_true ((dsc_mem ns c z _).2 ⟨⟨z0, z1⟩, h⟩)).symm
/-- VerdictPath -/
theorem c27 (l : List Int) (i j : Int) (hl : (l.length : Int) ≤ 9223372036854775807) : callL Try.prog 27 [.sl l.length (csInt l), .v (.int .i64 i), .v (.int .i64 j)] = some (.v (.bool true)) := by
  rw [callL_eq Try.prog Try.func27 rfl ok27 _ (ext_none _ (by decide)) rfl]
  have g := (c30 l hl).2
  have k0 := k30 l hl
  generalize treeOf l = ns at g k0
  have g9 := g.len9
  have g0 := g.len0
  have hn : (ns.length : Int) < 1000000 := by omega
  have hne : ((ns.length : Int) = 0) = False := eq_false (by omega)
  obtain ⟨h, h73⟩ := k73 ns g0 hn (IntKind.i64.wrap ↑(BitVec.ofInt IntKind.i64.bits j &&& BitVec.ofInt IntKind.i64.bits 16777215).toNat)
  obtain ⟨b1, b2⟩ := and_bound i 65535 (by decide)
  have hmm := tmod_bound (n := (ns.length : Int)) b1 (by omega)
  obtain ⟨x, hx, x0, x1⟩ : ∃ x, (IntKind.i64.wrap ↑(BitVec.ofInt IntKind.i64.bits i &&& BitVec.ofInt IntKind.i64.bits 65535).toNat).tmod (ns.length : Int) = x ∧ 0 ≤ x ∧ x < ns.length := ⟨_, rfl, hmm.1, hmm.2⟩
  have p78 := k78 ns g.up g.up0 hn x ⟨zVerdict.tagged, 2, h⟩ [] (by decide) (kv := .v (.slice none 0 0)) (.inr ⟨rfl, rfl⟩)
  rw [jud_cnd g.up g.up0 x0 x1 rfl] at p78
  have h74 := k74 ns g.up g.up0 hn x h
  have h46 := k46 ns g.up hn
  obtain ⟨hc, ha⟩ := reach_fact g.up g.up0 x0 x1 h
  have hcn := fun r => cnd_of (r := r) g.up (i := x) (h := h) (l := [])
  dsimp only at p78
  generalize cndO ns x h [] = o at p78 hcn
  generalize (reachV ns x h).1 = a at *
  generalize (reachV ns x h).2 = c at *
  obtain ⟨c0, c1⟩ := path_in g.up c hc
  have hca : anc ns c x = true := decide_eq_true hc
  have hge : decide ((ns.length : Int) ≤ c) = false := decide_eq_false (by omega)
  have hgf : ((ns.length : Int) ≤ c) = False := eq_false (by omega)
  cases o with
  | none =>
    simp only [stA, err2] at p78
    by_cases h0 : 0 ≤ a
    · have hb : ((nd ns c).up != a) = false := by rw [(ha.resolve_left (by omega)).2]; exact bne_self_eq_false _
      simp -implicitDefEqProofs only [ZZ, seval, ZV, k0, hne, h73, hx, h74, p78, h46, hca, hge, hgf, h0, hb, c0, c1, extA, k76, beq_self_eq_true]
      exact endL_tmp (keep_none (by decide)) (.inl rfl) rfl (by simp only [EV, seval] <;> rfl) (.v _)
    · simp -implicitDefEqProofs only [ZZ, seval, ZV, k0, hne, h73, hx, h74, p78, h46, hca, hge, hgf, h0, c0, c1, extA, k76, beq_self_eq_true]
      exact endL_tmp (keep_none (by decide)) (.inl rfl) rfl (by simp only [EV, seval] <;> rfl) (.v _)
  | some r =>
    simp only [stA] at p78
    have hC := (hcn r rfl).1
    have hlen := hC.len
    have hlb : ((r.length : Int) != (ns.length : Int)) = false := by rw [hlen]; exact bne_self_eq_false _
    by_cases h0 : 0 ≤ a
    · have hb : ((nd ns c).up != a) = false := by rw [(ha.resolve_left (by omega)).2]; exact bne_self_eq_false _
      simp -implicitDefEqProofs only [ZZ, seval, ZV, k0, hne, h73, hx, h74, p78, h46, hca, hge, hgf, h0, hb, c0, c1, extA, k76, hlb, bne_self_eq_false]
      refine use_loop (fun n st => ∃ k : Nat, (st.env 7 = .ptr 7 0 0 ∧ st.heap 7 0 = some (.cells (cTree ⟨ns⟩)) ∧ st.env 9 = .v (.int .i64 a) ∧ st.env 10 = .v (.int .i64 c) ∧ st.env 11 = .ptr 11 0 0 ∧ st.heap 11 0 = some (.cells (cTree ⟨r⟩)) ∧ st.env 13 = .v (.int .i64 k)) ∧ k ≤ ns.length ∧ n = ns.length - k)
        (fun e st => e = .exit 0) ns.length ?step ?start ?rest
      case step =>
        rintro n st ⟨k, hI, hk, hn'⟩
        by_cases hlt : (k : Int) < ns.length
        · have hw : IntKind.i64.wrap ((k : Int) + 1) = ((k + 1 : Nat) : Int) := by rw [w64 _ (by omega) (by omega)]; omega
          have q0 : (0 : Int) ≤ k := by omega
          have hlu : (k : Int) < r.length := by omega
          have hst := hC.st k q0 hlt
          have hA := anc_dsc (ns := ns) (c := c) q0 hlt
          by_cases hz : (k : Int) ∈ dsc ns c ns.length
          · rw [decide_eq_true hz] at hA
            rw [if_pos hz] at hst
            refine go_on (st' := ?s1) ?h1 (ns.length - (k + 1)) (by omega) ?q1
            case h1 =>
              simp -implicitDefEqProofs only [ZZ, seval, hI, hlt, hw, q0, hlu, h46, hA, hst, bne_self_eq_false]
              rfl
            case q1 => exact ⟨k + 1, by simp only [EV, seval, hI], by omega, rfl⟩
          · rw [decide_eq_false hz] at hA
            rw [if_neg hz] at hst
            by_cases hp : 0 ≤ a ∧ (k : Int) ∈ path ns a
            · rw [if_pos hp] at hst
              have h0a := hp.1
              have hA2 : anc ns k a = true := decide_eq_true hp.2
              refine go_on (st' := ?s2) ?h2 (ns.length - (k + 1)) (by omega) ?q2
              case h2 =>
                simp -implicitDefEqProofs only [ZZ, seval, hI, hlt, hw, q0, hlu, h46, hA, h0a, hA2, hst, bne_self_eq_false]
                rfl
              case q2 => exact ⟨k + 1, by simp only [EV, seval, hI], by omega, rfl⟩
            · rw [if_neg hp] at hst
              by_cases h0a : 0 ≤ a
              · have hA2 : anc ns k a = false := decide_eq_false fun h => hp ⟨h0a, h⟩
                refine go_on (st' := ?s3) ?h3 (ns.length - (k + 1)) (by omega) ?q3
                case h3 =>
                  simp -implicitDefEqProofs only [ZZ, seval, hI, hlt, hw, q0, hlu, h46, hA, h0a, hA2, hst, bne_self_eq_false]
                  rfl
                case q3 => exact ⟨k + 1, by simp only [EV, seval, hI], by omega, rfl⟩
              · refine go_on (st' := ?s4) ?h4 (ns.length - (k + 1)) (by omega) ?q4
                case h4 =>
                  simp -implicitDefEqProofs only [ZZ, seval, hI, hlt, hw, q0, hlu, h46, hA, h0a, hst, bne_self_eq_false]
                  rfl
                case q4 => exact ⟨k + 1, by simp only [EV, seval, hI], by omega, rfl⟩
        · obtain rfl : k = ns.length := by omega
          refine go_out (e := .exit 0) (st' := ?s5) ?h5 (by simp) ?q5
          case h5 =>
            simp -implicitDefEqProofs only [ZZ, seval, hI, hlt]
            rfl
          case q5 => rfl
      case start => exact ⟨0, by simp only [EV, seval] <;> rfl, by omega, rfl⟩
      case rest =>
        rintro e st rfl
        simp -implicitDefEqProofs only [ZZ, seval, k76]
        exact endL_tmp (keep_none (by decide)) (.inl rfl) rfl (by simp only [EV, seval] <;> rfl) (.v _)
    · simp -implicitDefEqProofs only [ZZ, seval, ZV, k0, hne, h73, hx, h74, p78, h46, hca, hge, hgf, h0, c0, c1, extA, k76, hlb, bne_self_eq_false]
      refine use_loop (fun n st => ∃ k : Nat, (st.env 7 = .ptr 7 0 0 ∧ st.heap 7 0 = some (.cells (cTree ⟨ns⟩)) ∧ st.env 9 = .v (.int .i64 a) ∧ st.env 10 = .v (.int .i64 c) ∧ st.env 11 = .ptr 11 0 0 ∧ st.heap 11 0 = some (.cells (cTree ⟨r⟩)) ∧ st.env 13 = .v (.int .i64 k)) ∧ k ≤ ns.length ∧ n = ns.length - k)
        (fun e st => e = .exit 0) ns.length ?step ?start ?rest
      case step =>
        rintro n st ⟨k, hI, hk, hn'⟩
        by_cases hlt : (k : Int) < ns.length
        · have hw : IntKind.i64.wrap ((k : Int) + 1) = ((k + 1 : Nat) : Int) := by rw [w64 _ (by omega) (by omega)]; omega
          have q0 : (0 : Int) ≤ k := by omega
          have hlu : (k : Int) < r.length := by omega
          have hst := hC.st k q0 hlt
          have hA := anc_dsc (ns := ns) (c := c) q0 hlt
          by_cases hz : (k : Int) ∈ dsc ns c ns.length
          · rw [decide_eq_true hz] at hA
            rw [if_pos hz] at hst
            refine go_on (st' := ?s6) ?h6 (ns.length - (k + 1)) (by omega) ?q6
            case h6 =>
              simp -implicitDefEqProofs only [ZZ, seval, hI, hlt, hw, q0, hlu, h46, hA, hst, bne_self_eq_false]
              rfl
            case q6 => exact ⟨k + 1, by simp only [EV, seval, hI], by omega, rfl⟩
          · rw [decide_eq_false hz] at hA
            rw [if_neg hz] at hst
            by_cases hp : 0 ≤ a ∧ (k : Int) ∈ path ns a
            · rw [if_pos hp] at hst
              have h0a := hp.1
              have hA2 : anc ns k a = true := decide_eq_true hp.2
              refine go_on (st' := ?s7) ?h7 (ns.length - (k + 1)) (by omega) ?q7
              case h7 =>
                simp -implicitDefEqProofs only [ZZ, seval, hI, hlt, hw, q0, hlu, h46, hA, h0a, hA2, hst, bne_self_eq_false]
                rfl
              case q7 => exact ⟨k + 1, by simp only [EV, seval, hI], by omega, rfl⟩
            · rw [if_neg hp] at hst
              by_cases h0a : 0 ≤ a
              · have hA2 : anc ns k a = false := decide_eq_false fun h => hp ⟨h0a, h⟩
                refine go_on (st' := ?s8) ?h8 (ns.length - (k + 1)) (by omega) ?q8
                case h8 =>
                  simp -implicitDefEqProofs only [ZZ, seval, hI, hlt, hw, q0, hlu, h46, hA, h0a, hA2, hst, bne_self_eq_false]
                  rfl
                case q8 => exact ⟨k + 1, by simp only [EV, seval, hI], by omega, rfl⟩
              · refine go_on (st' := ?s9) ?h9 (ns.length - (k + 1)) (by omega) ?q9
                case h9 =>
                  simp -implicitDefEqProofs only [ZZ, seval, hI, hlt, hw, q0, hlu, h46, hA, h0a, hst, bne_self_eq_false]
                  rfl
                case q9 => exact ⟨k + 1, by simp only [EV, seval, hI], by omega, rfl⟩
        · obtain rfl : k = ns.length := by omega
          refine go_out (e := .exit 0) (st' := ?s10) ?h10 (by simp) ?q10
          case h10 =>
            simp -implicitDefEqProofs only [ZZ, seval, hI, hlt]
            rfl
          case q10 => rfl
      case start => exact ⟨0, by simp only [EV, seval] <;> rfl, by omega, rfl⟩
      case rest =>
        rintro e st rfl
        simp -implicitDefEqProofs only [ZZ, seval, k76]
        exact endL_tmp (keep_none (by decide)) (.inl rfl) rfl (by simp only [EV, seval] <;> rfl) (.v _)
end Go.Ab.Try
