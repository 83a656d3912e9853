/-
  Part L7 of the proof: what functions of this program compute.
-/
import Derived.Test.YtgpkmepalmdmeaaL6
set_option linter.all false
set_option linter.unusedSimpArgs false
set_option linter.unusedVariables false
set_option maxRecDepth 20000
set_option maxHeartbeats 4000000
namespace Go.Ab.Try
open Classical Go.Proofs Go.Ab
theorem k58 (ns : List Node) (hu : UpOk ns) (hr : (nd ns 0).up = -1) (hn : (ns.length : Int) < 1000000) (i : Int) (st : St) (d : Option Nat) : callFn (callL Try.prog) 58 [.agg (cTree ⟨ns⟩), .v (.int .i64 i)] st d = some { dst := d, val := .v (.int .i64 (path ns i).length) } := call_flat (flat2 (flatT _) (.v _)) (c58 ns hu hr hn i) (.v _)
/-- BlocktreeLooks -/
theorem c14 (l : List Int) (i : Int) (b : Block) (s : Int) (hl : (l.length : Int) ≤ 9223372036854775807) : callL Try.prog 14 [.sl l.length (csInt l), .v (.int .i64 i), .agg (cBlock b), .v (.int .i64 s)] = some (.v (.bool true)) := by
  rw [callL_eq Try.prog Try.func14 rfl ok14 _ (ext_none _ (by decide)) rfl]
  have g := (c30 l hl).2
  have k0 := k30 l hl
  generalize treeOf l = ns at g k0
  have g9 := g.len9
  have g0 := g.len0
  have hn : (ns.length : Int) < 1000000 := by omega
  have h59 := fun r => k59 ns r hn
  have h60 := fun r => k60 ns r hn
  have h58 := k58 ns g.up g.up0 hn
  simp -implicitDefEqProofs only [ZZ, seval, k0]
  refine use_loop (fun n st => ∃ k : Int, (st.env 1 = .v (.int .i64 i) ∧ st.env 3 = .v (.int .i64 s) ∧ st.env 6 = .ptr 6 0 0 ∧ st.heap 6 0 = some (.cells (cBlock b)) ∧ st.env 9 = .ptr 9 0 0 ∧ st.heap 9 0 = some (.cells (cTree ⟨ns⟩)) ∧ st.env 10 = .v (.int .i64 k)) ∧ -1 ≤ k ∧ k ≤ ns.length + 1 ∧ n = (ns.length + 1 - k).toNat)
    (fun e st => e = .exit 0 ∧ st.env 1 = .v (.int .i64 i) ∧ st.env 3 = .v (.int .i64 s) ∧ st.env 6 = .ptr 6 0 0 ∧ st.heap 6 0 = some (.cells (cBlock b)) ∧ st.env 9 = .ptr 9 0 0 ∧ st.heap 9 0 = some (.cells (cTree ⟨ns⟩))) (ns.length + 2) ?step ?start ?rest
  case step =>
    rintro n st ⟨k, hI, q0, q1, hn'⟩
    by_cases hlt : k ≤ ns.length
    · have hw : IntKind.i64.wrap (k + 1) = k + 1 := w64 _ (by omega) (by omega)
      have hcl : ((chlV ns k).length : Int) < 1000000 := by
        unfold chlV
        split
        · simp
        · have := chl_len ns k ns.length; omega
      by_cases hm : 0 ≤ k ∧ k < ns.length
      · obtain ⟨m0, m1⟩ := hm
        have h45 := k45 ns g.up hn k m0 m1
        have hF := good_find g m0 m1
        have hpp : (((path ns k).length : Int) != ((path ns k).length : Int)) = false := bne_self_eq_false _
        have hkk : (k != k) = false := bne_self_eq_false _
        by_cases hc : chlV ns k = []
        · have h56 := k56n ns hn k hc
          have h57 := k57n ns g.up g.up0 hn k hc
          refine go_on (st' := ?s1) ?h1 ((ns.length + 1 - (k + 1)).toNat) (by omega) ?q1
          case h1 =>
            simp -implicitDefEqProofs only [ZZ, seval, hI, hlt, hw, h56, h57, h58, h45, h59, hF, hpp, hkk, m0, m1, q34, k34n]
            rfl
          case q1 => exact ⟨k + 1, by simp only [EV, seval, hI], by omega, by omega, rfl⟩
        · have h56 := k56 ns hn k hc
          have h57 := k57 ns g.up g.up0 hn k hc
          refine go_on (st' := ?s2) ?h2 ((ns.length + 1 - (k + 1)).toNat) (by omega) ?q2
          case h2 =>
            simp -implicitDefEqProofs only [ZZ, seval, hI, hlt, hw, h56, h57, h58, h45, h59, hF, hpp, hkk, m0, m1, q34, k34, hcl, decide_true, eq_self]
            rfl
          case q2 => exact ⟨k + 1, by simp only [EV, seval, hI], by omega, by omega, rfl⟩
      · have h45 := k45n ns k hm
        have hp : (path ns k).length = 0 := by rw [path_none hm]; rfl
        have h58' := h58 k
        rw [hp] at h58'
        have hc := chlV_big g.up g.up0 hm
        have h56 := k56n ns hn k hc
        have h57 := k57n ns g.up g.up0 hn k hc
        by_cases m0 : 0 ≤ k
        · have m1 : ¬ k < ns.length := fun h => hm ⟨m0, h⟩
          refine go_on (st' := ?s3) ?h3 ((ns.length + 1 - (k + 1)).toNat) (by omega) ?q3
          case h3 =>
            simp -implicitDefEqProofs only [ZZ, seval, hI, hlt, hw, h56, h57, h58', h45, m0, m1, q34, k34n, bne_self_eq_false]
            rfl
          case q3 => exact ⟨k + 1, by simp only [EV, seval, hI], by omega, by omega, rfl⟩
        · refine go_on (st' := ?s4) ?h4 ((ns.length + 1 - (k + 1)).toNat) (by omega) ?q4
          case h4 =>
            simp -implicitDefEqProofs only [ZZ, seval, hI, hlt, hw, h56, h57, h58', h45, m0, q34, k34n, bne_self_eq_false]
            rfl
          case q4 => exact ⟨k + 1, by simp only [EV, seval, hI], by omega, by omega, rfl⟩
    · refine go_out (e := .exit 0) (st' := ?s5) ?h5 (by simp) ?q5
      case h5 =>
        simp -implicitDefEqProofs only [ZZ, seval, hI, hlt]
        rfl
      case q5 => exact ⟨rfl, by simp only [EV, seval, hI]⟩
  case start => exact ⟨-1, by simp only [EV, seval], by omega, by omega, by omega⟩
  case rest =>
    rintro e st ⟨rfl, hI⟩
    have hll := lvs_ne g.up g.up0 g0
    have h61 := k61 ns g.up g.up0 hn hll
    have h62 := k62 ns g.up g.up0 hn hll
    have hlv : ((lvs ns ns.length).length : Int) < 1000000 := by have := lvs_len ns ns.length; omega
    have h33 := k33t [⟨b, -1, s⟩] [⟨b, -1, s⟩] (by simp)
    by_cases hc : chlV ns i = []
    · have h56 := k56n ns hn i hc
      have h57 := k57n ns g.up g.up0 hn i hc
      simp -implicitDefEqProofs only [ZZ, seval, hI, h56, h57, h59, h60, h61, h62, q34, k34, hlv, k63, k64, h33, k55, beq_self_eq_true, decide_true, eq_self]
      exact endL_tmp (keep_none (by decide)) (.inl rfl) rfl (by simp only [EV, seval] <;> rfl) (.v _)
    · have h56 := k56 ns hn i hc
      have h57 := k57 ns g.up g.up0 hn i hc
      simp -implicitDefEqProofs only [ZZ, seval, hI, h56, h57, h59, h60, h61, h62, q34, k34, hlv, k63, k64, h33, k55, beq_self_eq_true, decide_true, eq_self]
      exact endL_tmp (keep_none (by decide)) (.inl rfl) rfl (by simp only [EV, seval] <;> rfl) (.v _)
end Go.Ab.Try
