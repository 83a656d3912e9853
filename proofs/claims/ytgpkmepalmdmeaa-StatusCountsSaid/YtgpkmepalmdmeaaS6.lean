/-
  Part S6 of the proof: what functions of this program compute.
-/
import Derived.Test.YtgpkmepalmdmeaaS5
set_option linter.all false
set_option linter.unusedSimpArgs false
set_option linter.unusedVariables false
set_option maxRecDepth 20000
set_option maxHeartbeats 4000000
namespace Go.Ab.Try
open Classical Go.Proofs Go.Ab
/-- slices.Index -/
theorem c106 (l : List Int) (a : Int) (hn : (l.length : Int) < 1000000) : ∃ x, callL Try.prog 106 [.sl l.length (csInt l), .v (.int .i64 a)] = some x ∧ ∃ j : Int, x = .v (.int .i64 j) ∧ (0 ≤ j ↔ a ∈ l) := by
  rw [callL_eq Try.prog Try.func106 rfl ok106 _ (ext_none _ (by decide)) rfl]
  simp -implicitDefEqProofs only [ZZ, seval]
  refine use_loopX (fun n st => ∃ i : Int, (st.env 0 = .sl l.length (csInt l) ∧ st.env 1 = .v (.int .i64 a) ∧ st.env 7 = .v (.int .i64 l.length) ∧ st.env 8 = .v (.int .i64 i)) ∧ 0 ≤ i ∧ i ≤ l.length ∧ n = (l.length - i).toNat ∧ ∀ j, 0 ≤ j → j < i → it l j ≠ a)
    (fun e st => (e = .ret ∧ a ∈ l ∧ ∃ j : Int, 0 ≤ j ∧ st.env 4 = .v (.int .i64 j)) ∨ (e = .exit 0 ∧ a ∉ l)) l.length ?step ?start ?rest
  case step =>
    rintro n st ⟨i, hI, i0, i1, hn', hb⟩
    by_cases hlt : i < l.length
    · have hw : IntKind.i64.wrap (i + 1) = i + 1 := w64 _ (by omega) (by omega)
      by_cases hr : it l i = a
      · have hbq : (a == it l i) = true := by simp [hr]
        refine go_out (e := .ret) (st' := ?s1) ?h1 (by simp) ?q1
        case h1 =>
          simp -implicitDefEqProofs only [ZZ, seval, hI, hlt, i0, hbq]
          rfl
        case q1 => exact .inl ⟨rfl, by rw [← hr]; exact it_mem i0 hlt, i, i0, by simp only [EV, seval]⟩
      · have hbq : (a == it l i) = false := by simp [Ne.symm hr]
        refine go_on (st' := ?s2) ?h2 ((l.length - (i + 1)).toNat) (by omega) ?q2
        case h2 =>
          simp -implicitDefEqProofs only [ZZ, seval, hI, hlt, i0, hbq, hw]
          rfl
        case q2 => exact ⟨i + 1, by simp only [EV, seval, hI], by omega, by omega, rfl, fun j j0 j1 => by
          rcases Int.lt_or_eq_of_le (show j ≤ i by omega) with h | rfl
          · exact hb j j0 h
          · exact hr⟩
    · refine go_out (e := .exit 0) (st' := ?s3) ?h3 (by simp) ?q3
      case h3 =>
        simp -implicitDefEqProofs only [ZZ, seval, hI, hlt, i0]
        rfl
      case q3 => exact .inr ⟨rfl, fun hm => by
        obtain ⟨j, hj, rfl⟩ := List.getElem_of_mem hm
        exact hb j (by omega) (by omega) (by simp [it, hj])⟩
  case start => exact ⟨0, (by simp only [EV, seval]), by omega, by omega, by omega, fun j _ _ => by omega⟩
  case rest =>
    rintro e st (⟨rfl, hm, j, j0, h⟩ | ⟨rfl, hm⟩)
    · refine ⟨_, ?_, j, rfl, by simp [j0, hm]⟩
      simp -implicitDefEqProofs only [ZZ, seval]
      exact endL_tmp (keep_none (by decide)) (.inl rfl) rfl h (.v _)
    · refine ⟨_, ?_, -1, rfl, by simp [hm]⟩
      simp -implicitDefEqProofs only [ZZ, seval]
      exact endL_tmp (keep_none (by decide)) (.inl rfl) rfl (by simp only [EV, seval]) (.v _)
/-- slices.Contains -/
theorem c103 (l : List Int) (a : Int) (hn : (l.length : Int) < 1000000) : callL Try.prog 103 [.sl l.length (csInt l), .v (.int .i64 a)] = some (.v (.bool (decide (a ∈ l)))) := by
  rw [callL_eq Try.prog Try.func103 rfl ok103 _ (ext_none _ (by decide)) rfl]
  obtain ⟨x, hx, j, rfl, hj⟩ := c106 l a hn
  have hK := fun (st : St) (d : Option Nat) => call_flat (st := st) (d := d) (flat2 (flatSl l) (.v (.int .i64 a))) hx (.v _)
  have hd : decide (0 ≤ j) = decide (a ∈ l) := by rw [decide_eq_decide]; exact hj
  simp -implicitDefEqProofs only [ZZ, seval, hK]
  exact endL_tmp (keep_none (by decide)) (.inl rfl) rfl (by simp only [EV, seval, hd]) (.v _)
theorem k103 (l : List Int) (a : Int) (hn : (l.length : Int) < 1000000) (st : St) (d : Option Nat) : callFn (callL Try.prog) 103 [.sl l.length (csInt l), .v (.int .i64 a)] st d = some { dst := d, val := .v (.bool (decide (a ∈ l))) } := call_flat (flat2 (flatSl l) (.v _)) (c103 l a hn) (.v _)
theorem k84f (l : List Int) (a : Int) (hn : (l.length : Int) < 1000000) (st : St) (d : Option Nat) : callFn (callL Try.prog) 84 [.sl l.length (csInt l), .v (.int .i64 a)] st d = some { dst := d, val := .v (.bool (decide (a ∈ l))) } := call_flat (flat2 (flatSl l) (.v _)) (c84 l a hn) (.v _)
/-- The nodes with one of some statuses. -/
def cntF (ns : List Node) (l : List Int) : Nat → Nat
  | 0 => 0
  | k + 1 => if (nd ns k).status ∈ l then cntF ns l k + 1 else cntF ns l k
theorem cntF_le (ns : List Node) (l : List Int) : ∀ k, cntF ns l k ≤ k
  | 0 => Nat.le_refl _
  | k + 1 => by
    have := cntF_le ns l k
    simp only [cntF]
    split <;> omega
/-- status.Count -/
theorem c80 (ns : List Node) (hn : (ns.length : Int) < 1000000) (l : List Int) (hl : (l.length : Int) < 1000000) : callL Try.prog 80 [.agg (cTree ⟨ns⟩), .sl l.length (csInt l)] = some (.v (.int .i64 (cntF ns l ns.length))) := by
  rw [callL_eq Try.prog Try.func80 rfl ok80 _ (ext_none _ (by decide)) rfl]
  simp -implicitDefEqProofs only [ZZ, seval]
  refine use_loop (fun n st => ∃ k : Nat, (st.env 1 = .sl l.length (csInt l) ∧ st.env 5 = .v (.int .i64 (cntF ns l k)) ∧ st.env 9 = .sl ns.length (csNode ns) ∧ st.env 10 = .v (.int .i64 ns.length) ∧ st.env 11 = .v (.int .i64 k)) ∧ k ≤ ns.length ∧ n = ns.length - k)
    (fun e st => e = .exit 0 ∧ st.env 5 = .v (.int .i64 (cntF ns l ns.length))) ns.length ?step ?start ?rest
  case step =>
    rintro n st ⟨k, hI, hk, hn'⟩
    have hc := cntF_le ns l k
    by_cases hlt : (k : Int) < ns.length
    · have hw : IntKind.i64.wrap ((k : Int) + 1) = ((k + 1 : Nat) : Int) := by rw [w64 _ (by omega) (by omega)]; omega
      have q0 : (0 : Int) ≤ k := by omega
      by_cases hs : (nd ns k).status ∈ l
      · have hd : decide ((nd ns k).status ∈ l) = true := decide_eq_true hs
        have hw2 : IntKind.i64.wrap ((cntF ns l k : Int) + 1) = ((cntF ns l k + 1 : Nat) : Int) := by rw [w64 _ (by omega) (by omega)]; omega
        have he : cntF ns l (k + 1) = cntF ns l k + 1 := by simp only [cntF]; rw [if_pos hs]
        refine go_on (st' := ?s4) ?h4 (ns.length - (k + 1)) (by omega) ?q4
        case h4 =>
          simp -implicitDefEqProofs only [ZZ, seval, hI, hlt, hw, q0, k103, hl, hd, hw2]
          rfl
        case q4 => exact ⟨k + 1, by rw [he]; simp only [EV, seval, hI], by omega, rfl⟩
      · have hd : decide ((nd ns k).status ∈ l) = false := decide_eq_false hs
        have he : cntF ns l (k + 1) = cntF ns l k := by simp only [cntF]; rw [if_neg hs]
        refine go_on (st' := ?s5) ?h5 (ns.length - (k + 1)) (by omega) ?q5
        case h5 =>
          simp -implicitDefEqProofs only [ZZ, seval, hI, hlt, hw, q0, k103, hl, hd]
          rfl
        case q5 => exact ⟨k + 1, by rw [he]; simp only [EV, seval, hI], by omega, rfl⟩
    · obtain rfl : k = ns.length := by omega
      refine go_out (e := .exit 0) (st' := ?s6) ?h6 (by simp) ?q6
      case h6 =>
        simp -implicitDefEqProofs only [ZZ, seval, hI, hlt]
        rfl
      case q6 => exact ⟨rfl, by simp only [EV, seval, hI]⟩
  case start => exact ⟨0, by simp only [EV, seval, cntF] <;> rfl, by omega, rfl⟩
  case rest =>
    rintro e st ⟨rfl, h⟩
    simp -implicitDefEqProofs only [ZZ, seval, h]
    exact endL_tmp (keep_none (by decide)) (.inl rfl) rfl (by simp only [EV, seval]) (.v _)
/-- ref11.Count -/
theorem c81 (ns : List Node) (hn : (ns.length : Int) < 1000000) (l : List Int) (hl : (l.length : Int) < 1000000) : callL Try.prog 81 [.agg (cTree ⟨ns⟩), .sl l.length (csInt l)] = some (.v (.int .i64 (cntF ns l ns.length))) := by
  rw [callL_eq Try.prog Try.func81 rfl ok81 _ (ext_none _ (by decide)) rfl]
  simp -implicitDefEqProofs only [ZZ, seval]
  refine use_loop (fun n st => ∃ k : Nat, (st.env 1 = .sl l.length (csInt l) ∧ st.env 2 = .ptr 2 0 0 ∧ st.heap 2 0 = some (.cells (cTree ⟨ns⟩)) ∧ st.env 5 = .v (.int .i64 (cntF ns l k)) ∧ st.env 6 = .v (.int .i64 k)) ∧ k ≤ ns.length ∧ n = ns.length - k)
    (fun e st => e = .exit 0 ∧ st.env 5 = .v (.int .i64 (cntF ns l ns.length))) ns.length ?step ?start ?rest
  case step =>
    rintro n st ⟨k, hI, hk, hn'⟩
    have hc := cntF_le ns l k
    by_cases hlt : (k : Int) < ns.length
    · have hw : IntKind.i64.wrap ((k : Int) + 1) = ((k + 1 : Nat) : Int) := by rw [w64 _ (by omega) (by omega)]; omega
      have q0 : (0 : Int) ≤ k := by omega
      by_cases hs : (nd ns k).status ∈ l
      · have hd : decide ((nd ns k).status ∈ l) = true := decide_eq_true hs
        have hw2 : IntKind.i64.wrap ((cntF ns l k : Int) + 1) = ((cntF ns l k + 1 : Nat) : Int) := by rw [w64 _ (by omega) (by omega)]; omega
        have he : cntF ns l (k + 1) = cntF ns l k + 1 := by simp only [cntF]; rw [if_pos hs]
        refine go_on (st' := ?s7) ?h7 (ns.length - (k + 1)) (by omega) ?q7
        case h7 =>
          simp -implicitDefEqProofs only [ZZ, seval, hI, hlt, hw, q0, k84f, hl, hd, hw2]
          rfl
        case q7 => exact ⟨k + 1, by rw [he]; simp only [EV, seval, hI], by omega, rfl⟩
      · have hd : decide ((nd ns k).status ∈ l) = false := decide_eq_false hs
        have he : cntF ns l (k + 1) = cntF ns l k := by simp only [cntF]; rw [if_neg hs]
        refine go_on (st' := ?s8) ?h8 (ns.length - (k + 1)) (by omega) ?q8
        case h8 =>
          simp -implicitDefEqProofs only [ZZ, seval, hI, hlt, hw, q0, k84f, hl, hd]
          rfl
        case q8 => exact ⟨k + 1, by rw [he]; simp only [EV, seval, hI], by omega, rfl⟩
    · obtain rfl : k = ns.length := by omega
      refine go_out (e := .exit 0) (st' := ?s9) ?h9 (by simp) ?q9
      case h9 =>
        simp -implicitDefEqProofs only [ZZ, seval, hI, hlt]
        rfl
      case q9 => exact ⟨rfl, by simp only [EV, seval, hI]⟩
  case start => exact ⟨0, by simp only [EV, seval, cntF] <;> rfl, by omega, rfl⟩
  case rest =>
    rintro e st ⟨rfl, h⟩
    simp -implicitDefEqProofs only [ZZ, seval, h]
    exact endL_tmp (keep_none (by decide)) (.inl rfl) rfl (by simp only [EV, seval]) (.v _)
/-- The optimistic nodes among the first. -/
def wtg (ns : List Node) : Nat → List Int
  | 0 => []
  | k + 1 => if (nd ns k).status = 0 then wtg ns k ++ [(k : Int)] else wtg ns k
theorem wtg_len (ns : List Node) : ∀ k, (wtg ns k).length = cntF ns [0] k
  | 0 => rfl
  | k + 1 => by
    have := wtg_len ns k
    simp only [wtg, cntF, List.mem_singleton]
    split <;> simp [this]
/-- status.Waiting -/
theorem c82 (ns : List Node) (hn : (ns.length : Int) < 1000000) : callL Try.prog 82 [.agg (cTree ⟨ns⟩)] = some (rowO (wtg ns ns.length)) := by
  rw [callL_eq Try.prog Try.func82 rfl ok82 _ (ext_none _ (by decide)) rfl]
  simp -implicitDefEqProofs only [ZZ, seval]
  refine use_loop (fun n st => ∃ k : Nat, (st.env 7 = .sl ns.length (csNode ns) ∧ st.env 8 = .v (.int .i64 ns.length) ∧ st.env 9 = .v (.int .i64 k)) ∧
      ((wtg ns k = [] ∧ st.env 3 = .v (.slice none 0 0)) ∨ (wtg ns k ≠ [] ∧ ∃ g, st.env 3 = .own 20 g ∧ g < st.cnt 20 ∧ st.heap 20 g = some (.row 3 1 (wtg ns k).length (csInt (wtg ns k))))) ∧ k ≤ ns.length ∧ n = ns.length - k)
    (fun e st => e = .exit 0 ∧ ((wtg ns ns.length = [] ∧ st.env 3 = .v (.slice none 0 0)) ∨ (wtg ns ns.length ≠ [] ∧ ∃ g, st.env 3 = .own 20 g ∧ g < st.cnt 20 ∧ st.heap 20 g = some (.row 3 1 (wtg ns ns.length).length (csInt (wtg ns ns.length)))))) ns.length ?step ?start ?rest
  case step =>
    rintro n st ⟨k, hI, h5, hk, hn'⟩
    have hl := wtg_len ns k
    have hl2 := cntF_le ns [0] k
    have hl' : ((wtg ns k).length : Int) < 1000000 := by omega
    by_cases hlt : (k : Int) < ns.length
    · have hw : IntKind.i64.wrap ((k : Int) + 1) = ((k + 1 : Nat) : Int) := by rw [w64 _ (by omega) (by omega)]; omega
      have q0 : (0 : Int) ≤ k := by omega
      by_cases hc : (nd ns k).status = 0
      · have hb : ((nd ns k).status == 0) = true := by simp [hc]
        have hs : wtg ns (k + 1) = wtg ns k ++ [(k : Int)] := by simp only [wtg]; rw [if_pos hc]
        rcases h5 with ⟨hy, h5⟩ | ⟨hy, g, h5⟩
        · rw [hy] at hs
          refine go_on (st' := ?s10) ?h10 (ns.length - (k + 1)) (by omega) ?q10
          case h10 =>
            simp -implicitDefEqProofs only [ZZ, seval, hI, h5, hlt, hw, q0, hb]
            rfl
          case q10 => exact ⟨k + 1, by simp only [EV, seval, hI], .inr ⟨by rw [hs]; simp, _, by simp only [EV, seval] <;> rfl, (by simp only [EV, seval] <;> omega), (by rw [hs]; simp only [EV, seval] <;> rfl)⟩, by omega, rfl⟩
        · refine go_on (st' := ?s11) ?h11 (ns.length - (k + 1)) (by omega) ?q11
          case h11 =>
            simp -implicitDefEqProofs only [ZZ, seval, hI, h5, hl', hlt, hw, q0, hb]
            rfl
          case q11 => exact ⟨k + 1, by simp only [EV, seval, hI], .inr ⟨by rw [hs]; simp, _, by simp only [EV, seval] <;> rfl, (by simp only [EV, seval] <;> omega), (by rw [hs]; simp only [EV, seval] <;> rfl)⟩, by omega, rfl⟩
      · have hb : ((nd ns k).status == 0) = false := by simp [hc]
        have hs : wtg ns (k + 1) = wtg ns k := by simp only [wtg]; rw [if_neg hc]
        refine go_on (st' := ?s12) ?h12 (ns.length - (k + 1)) (by omega) ?q12
        case h12 =>
          simp -implicitDefEqProofs only [ZZ, seval, hI, hlt, hw, q0, hb]
          rfl
        case q12 => exact ⟨k + 1, by simp only [EV, seval, hI], by rw [hs]; simpa only [EV, seval] using h5, by omega, rfl⟩
    · obtain rfl : k = ns.length := by omega
      refine go_out (e := .exit 0) (st' := ?s13) ?h13 (by simp) ?q13
      case h13 =>
        simp -implicitDefEqProofs only [ZZ, seval, hI, hlt]
        rfl
      case q13 => exact ⟨rfl, by simpa only [EV, seval] using h5⟩
  case start => exact ⟨0, by simp only [EV, seval] <;> rfl, .inl ⟨rfl, (by simp only [EV, seval])⟩, by omega, rfl⟩
  case rest =>
    rintro e st ⟨rfl, ⟨hy, h5⟩ | ⟨hy, g, h5, hg, hh5⟩⟩
    · rw [hy, rowO_nil]
      simp -implicitDefEqProofs only [ZZ, seval, h5]
      exact endL_tmp (keep_none (by decide)) (.inl rfl) rfl (by simp only [EV, seval]) (.v _)
    · rw [rowO_ne hy]
      simp -implicitDefEqProofs only [ZZ, seval, h5, hh5]
      exact endL_row (keep_none (by decide)) (.inl rfl) rfl (by simp only [EV, seval]; rfl) (by simp only [EV, seval, hh5]) (flat_csInt _)
/-- ref11.Waiting -/
theorem c83 (ns : List Node) (hn : (ns.length : Int) < 1000000) : callL Try.prog 83 [.agg (cTree ⟨ns⟩)] = some (rowO (wtg ns ns.length)) := by
  rw [callL_eq Try.prog Try.func83 rfl ok83 _ (ext_none _ (by decide)) rfl]
  simp -implicitDefEqProofs only [ZZ, seval]
  refine use_loop (fun n st => ∃ k : Nat, (st.env 1 = .ptr 1 0 0 ∧ st.heap 1 0 = some (.cells (cTree ⟨ns⟩)) ∧ st.env 4 = .v (.int .i64 k)) ∧
      ((wtg ns k = [] ∧ st.env 3 = .v (.slice none 0 0)) ∨ (wtg ns k ≠ [] ∧ ∃ g, st.env 3 = .own 22 g ∧ g < st.cnt 22 ∧ st.heap 22 g = some (.row 3 1 (wtg ns k).length (csInt (wtg ns k))))) ∧ k ≤ ns.length ∧ n = ns.length - k)
    (fun e st => e = .exit 0 ∧ ((wtg ns ns.length = [] ∧ st.env 3 = .v (.slice none 0 0)) ∨ (wtg ns ns.length ≠ [] ∧ ∃ g, st.env 3 = .own 22 g ∧ g < st.cnt 22 ∧ st.heap 22 g = some (.row 3 1 (wtg ns ns.length).length (csInt (wtg ns ns.length)))))) ns.length ?step ?start ?rest
  case step =>
    rintro n st ⟨k, hI, h5, hk, hn'⟩
    have hl := wtg_len ns k
    have hl2 := cntF_le ns [0] k
    have hl' : ((wtg ns k).length : Int) < 1000000 := by omega
    by_cases hlt : (k : Int) < ns.length
    · have hw : IntKind.i64.wrap ((k : Int) + 1) = ((k + 1 : Nat) : Int) := by rw [w64 _ (by omega) (by omega)]; omega
      have q0 : (0 : Int) ≤ k := by omega
      by_cases hc : (nd ns k).status = 0
      · have hb : ((nd ns k).status == 0) = true := by simp [hc]
        have hs : wtg ns (k + 1) = wtg ns k ++ [(k : Int)] := by simp only [wtg]; rw [if_pos hc]
        rcases h5 with ⟨hy, h5⟩ | ⟨hy, g, h5⟩
        · rw [hy] at hs
          refine go_on (st' := ?s14) ?h14 (ns.length - (k + 1)) (by omega) ?q14
          case h14 =>
            simp -implicitDefEqProofs only [ZZ, seval, hI, h5, hlt, hw, q0, hb]
            rfl
          case q14 => exact ⟨k + 1, by simp only [EV, seval, hI], .inr ⟨by rw [hs]; simp, _, by simp only [EV, seval] <;> rfl, (by simp only [EV, seval] <;> omega), (by rw [hs]; simp only [EV, seval] <;> rfl)⟩, by omega, rfl⟩
        · refine go_on (st' := ?s15) ?h15 (ns.length - (k + 1)) (by omega) ?q15
          case h15 =>
            simp -implicitDefEqProofs only [ZZ, seval, hI, h5, hl', hlt, hw, q0, hb]
            rfl
          case q15 => exact ⟨k + 1, by simp only [EV, seval, hI], .inr ⟨by rw [hs]; simp, _, by simp only [EV, seval] <;> rfl, (by simp only [EV, seval] <;> omega), (by rw [hs]; simp only [EV, seval] <;> rfl)⟩, by omega, rfl⟩
      · have hb : ((nd ns k).status == 0) = false := by simp [hc]
        have hs : wtg ns (k + 1) = wtg ns k := by simp only [wtg]; rw [if_neg hc]
        refine go_on (st' := ?s16) ?h16 (ns.length - (k + 1)) (by omega) ?q16
        case h16 =>
          simp -implicitDefEqProofs only [ZZ, seval, hI, hlt, hw, q0, hb]
          rfl
        case q16 => exact ⟨k + 1, by simp only [EV, seval, hI], by rw [hs]; simpa only [EV, seval] using h5, by omega, rfl⟩
    · obtain rfl : k = ns.length := by omega
      refine go_out (e := .exit 0) (st' := ?s17) ?h17 (by simp) ?q17
      case h17 =>
        simp -implicitDefEqProofs only [ZZ, seval, hI, hlt]
        rfl
      case q17 => exact ⟨rfl, by simpa only [EV, seval] using h5⟩
  case start => exact ⟨0, by simp only [EV, seval] <;> rfl, .inl ⟨rfl, (by simp only [EV, seval])⟩, by omega, rfl⟩
  case rest =>
    rintro e st ⟨rfl, ⟨hy, h5⟩ | ⟨hy, g, h5, hg, hh5⟩⟩
    · rw [hy, rowO_nil]
      simp -implicitDefEqProofs only [ZZ, seval, h5]
      exact endL_tmp (keep_none (by decide)) (.inl rfl) rfl (by simp only [EV, seval]) (.v _)
    · rw [rowO_ne hy]
      simp -implicitDefEqProofs only [ZZ, seval, h5, hh5]
      exact endL_row (keep_none (by decide)) (.inl rfl) rfl (by simp only [EV, seval]; rfl) (by simp only [EV, seval, hh5]) (flat_csInt _)
theorem q80 (args : List AV) (st : St) (d : Option Nat) : callFn (callL Try.prog) 80 args st d = callQ (callL Try.prog) 80 (optAll (args.map (expo st))) (decide (∀ x ∈ args, Flat x)) st d := callFn_Q _ _ _ _ _
theorem cnt_all {ns : List Node} (h : ∀ i : Int, 0 ≤ i → i < ns.length → isSt (nd ns i).status = true) : ∀ k : Nat, k ≤ ns.length → cntF ns [0, 1, 2] k = k
  | 0, _ => rfl
  | k + 1, hk => by
    have ih := cnt_all h k (by omega)
    have hs := h k (by omega) (by omega)
    simp only [cntF]
    rw [if_pos, ih]
    simp only [isSt, Bool.and_eq_true, decide_eq_true_eq] at hs
    simp only [List.mem_cons, List.not_mem_nil, or_false]
    omega
/-- StatusCounts -/
theorem c28 (l q : List Int) (hl : (l.length : Int) ≤ 9223372036854775807) (hql : (q.length : Int) ≤ 9223372036854775807) : callL Try.prog 28 [.sl l.length (csInt l), .sl q.length (csInt q)] = some (.v (.bool true)) := by
  rw [callL_eq Try.prog Try.func28 rfl ok28 _ (ext_none _ (by decide)) rfl]
  have g := (c30 l hl).2
  have k0 := k30 l hl
  generalize treeOf l = ns at g k0
  have g9 := g.len9
  have g0 := g.len0
  have hn : (ns.length : Int) < 1000000 := by omega
  by_cases h20 : (20 : Int) < q.length
  · simp -implicitDefEqProofs only [ZZ, seval, k0, h20, k68]
    exact endL_tmp (keep_none (by decide)) (.inl rfl) rfl (by simp only [EV, seval] <;> rfl) (.v _)
  · have hA : ∀ (fl : Bool) (st : St) (d : Option Nat), callQ (callL Try.prog) 80 (some [.agg (cTree ⟨ns⟩), .sl 3 (csInt [0, 1, 2])]) fl st d = some { dst := d, val := .v (.int .i64 ns.length) } := fun fl st d => by
      have := c80 ns hn [0, 1, 2] (by decide)
      rw [cnt_all g.st _ (Nat.le_refl _)] at this
      exact Q_int this
    have hB : ∀ (fl : Bool) (st : St) (d : Option Nat), callQ (callL Try.prog) 80 (some [.agg (cTree ⟨ns⟩), .sl q.length (csInt q)]) fl st d = some { dst := d, val := .v (.int .i64 (cntF ns q ns.length)) } := fun fl st d => Q_int (c80 ns hn q (by omega))
    have hC : ∀ (fl : Bool) (st : St) (d : Option Nat), callQ (callL Try.prog) 80 (some [.agg (cTree ⟨ns⟩), .sl 1 (csInt [0])]) fl st d = some { dst := d, val := .v (.int .i64 (wtg ns ns.length).length) } := fun fl st d => by
      have := c80 ns hn [0] (by decide)
      rw [← wtg_len] at this
      exact Q_int this
    have h81 : ∀ (st : St) (d : Option Nat), callFn (callL Try.prog) 81 [.agg (cTree ⟨ns⟩), .sl q.length (csInt q)] st d = some { dst := d, val := .v (.int .i64 (cntF ns q ns.length)) } := fun st d => call_flat (flat2 (flatT _) (flatSl _)) (c81 ns hn q (by omega)) (.v _)
    have h82 := c82 ns hn
    have h83 := c83 ns hn
    have hwl : ((wtg ns ns.length).length : Int) < 1000000 := by have := wtg_len ns ns.length; have := cntF_le ns [0] ns.length; omega
    by_cases hw : wtg ns ns.length = []
    · rw [hw, rowO_nil] at h82 h83
      have hK := fun (st : St) (d : Option Nat) => call_flat (st := st) (d := d) (flat1 (flatT ⟨ns⟩)) h82 (.v _)
      have hK' := fun (st : St) (d : Option Nat) => call_flat (st := st) (d := d) (flat1 (flatT ⟨ns⟩)) h83 (.v _)
      rw [hw] at hC
      simp -implicitDefEqProofs only [ZZ, seval, k0, h20, k68, q80, hA, hB, hC, h81, hK, hK', q34, k34n, expoF_one, beq_self_eq_true]
      exact endL_tmp (keep_none (by decide)) (.inl rfl) rfl (by simp only [EV, seval] <;> rfl) (.v _)
    · rw [rowO_ne hw] at h82 h83
      have hK := fun (st : St) (d : Nat) => call_uniq (st := st) (d := d) (flat1 (flatT ⟨ns⟩)) h82
      have hK' := fun (st : St) (d : Nat) => call_uniq (st := st) (d := d) (flat1 (flatT ⟨ns⟩)) h83
      simp -implicitDefEqProofs only [ZZ, seval, k0, h20, k68, q80, hA, hB, hC, h81, hK, hK', q34, k34, hwl, expoF_one, beq_self_eq_true, decide_true, eq_self]
      exact endL_tmp (keep_none (by decide)) (.inl rfl) rfl (by simp only [EV, seval] <;> rfl) (.v _)
end Go.Ab.Try
