/-
  Part K6 of the proof: several texts of the evaluator and of what functions of this program compute.
-/
import Derived.Test.YtgpkmepalmdmeaaK5
set_option linter.all false
section
set_option linter.unusedSimpArgs false
set_option linter.unusedVariables false
set_option maxRecDepth 20000
namespace Go.Ab.Try
open Classical Go.Proofs Go.Ab
theorem w64 (x : Int) (h1 : -9223372036854775808 ≤ x) (h2 : x ≤ 9223372036854775807) : IntKind.i64.wrap x = x := wrap_i64 x h1 h2

/-- ref11.is -/
theorem c86 (ns : List Node) (i : Int) : callL Try.prog 86 [.agg (cTree ⟨ns⟩), .v (.int .i64 i)] = some (.v (.bool (decide (0 ≤ i) && decide (i < ns.length)))) := by
  rw [callL_eq Try.prog Try.func86 rfl ok86 _ (ext_none _ (by decide)) rfl]
  by_cases h : 0 ≤ i
  all_goals
    simp -implicitDefEqProofs only [ZZ, seval, h, decide_true, decide_false, Bool.false_eq_true, Bool.true_and, Bool.false_and]
    exact endL_tmp (keep_none (by decide)) (.inl rfl) rfl (by simp only [EV, seval]) (.v _)
theorem k86 (ns : List Node) (i : Int) (st : St) (d : Option Nat) : callFn (callL Try.prog) 86 [.agg (cTree ⟨ns⟩), .v (.int .i64 i)] st d = some { dst := d, val := .v (.bool (decide (0 ≤ i) && decide (i < ns.length))) } := call_flat (flat2 (flatT _) (.v _)) (c86 ns i) (.v _)

def isSt (n : Int) : Bool := decide (0 ≤ n) && decide (n ≤ 2)
theorem c94 (i : Int) : callL Try.prog 94 [.v (.int .i64 i)] = some (.v (.bool (isSt i))) := by
  rw [callL_eq Try.prog Try.func94 rfl ok94 _ (ext_none _ (by decide)) rfl]
  by_cases h : 0 ≤ i
  all_goals
    simp -implicitDefEqProofs only [ZZ, seval, h, decide_true, decide_false, Bool.false_eq_true, Bool.true_and, Bool.false_and]
    exact endL_tmp (keep_none (by decide)) (.inl rfl) rfl (by simp only [EV, seval, isSt, h, decide_true, decide_false, Bool.false_and, Bool.true_and]) (.v _)
theorem c90 (i : Int) : callL Try.prog 90 [.v (.int .i64 i)] = some (.v (.bool (isSt i))) := by
  rw [callL_eq Try.prog Try.func90 rfl ok90 _ (ext_none _ (by decide)) rfl]
  by_cases h : 0 ≤ i
  all_goals
    simp -implicitDefEqProofs only [ZZ, seval, h, decide_true, decide_false, Bool.false_eq_true, Bool.true_and, Bool.false_and]
    exact endL_tmp (keep_none (by decide)) (.inl rfl) rfl (by simp only [EV, seval, isSt, h, decide_true, decide_false, Bool.false_and, Bool.true_and]) (.v _)

/-- The index of a root, or -1. -/
noncomputable def findR (ns : List Node) (r : Root) : Int := match ns.findIdx? (fun n => decide (n.block.root = r)) with
  | some k => (k : Int)
  | none => -1
theorem findR_at {ns : List Node} {r : Root} {i : Int} (h0 : 0 ≤ i) (h1 : i < ns.length) (hr : (nd ns i).block.root = r) (hb : ∀ j, 0 ≤ j → j < i → (nd ns j).block.root ≠ r) : findR ns r = i := by
  obtain ⟨hi, e⟩ := nd_get h0 h1
  have : ns.findIdx? (fun n => decide (n.block.root = r)) = some i.toNat := by
    rw [List.findIdx?_eq_some_iff_getElem]
    refine ⟨hi, by simp [← e, hr], fun j hj => ?_⟩
    have h := hb j (by omega) (by omega)
    have hj' : j < ns.length := by omega
    simp [nd, hj'] at h
    simpa using h
  unfold findR
  rw [this]
  simp; omega
theorem findR_none {ns : List Node} {r : Root} (hb : ∀ j, 0 ≤ j → j < (ns.length : Int) → (nd ns j).block.root ≠ r) : findR ns r = -1 := by
  have : ns.findIdx? (fun n => decide (n.block.root = r)) = none := by
    rw [List.findIdx?_eq_none_iff]
    intro n hn
    obtain ⟨j, hj, rfl⟩ := List.getElem_of_mem hn
    have h := hb j (by omega) (by omega)
    simp [nd, hj] at h
    simpa using h
  unfold findR
  rw [this]

/-- ref11.Find -/
theorem c60 (ns : List Node) (r : Root) (hn : (ns.length : Int) < 1000000) : callL Try.prog 60 [.agg (cTree ⟨ns⟩), .agg (cRoot r)] = some (.v (.int .i64 (findR ns r))) := by
  rw [callL_eq Try.prog Try.func60 rfl ok60 _ (ext_none _ (by decide)) rfl]
  simp -implicitDefEqProofs only [ZZ, seval]
  refine use_loop (fun n st => ∃ i : Int, st.env 2 = .ptr 2 0 0 ∧ st.env 3 = .ptr 3 0 0 ∧ st.heap 2 0 = some (.cells (cTree ⟨ns⟩)) ∧ st.heap 3 0 = some (.cells (cRoot r)) ∧ st.env 5 = .v (.int .i64 i) ∧ 0 ≤ i ∧ i ≤ ns.length ∧ n = (ns.length - i).toNat ∧
      ∀ j, 0 ≤ j → j < i → (nd ns j).block.root ≠ r)
    (fun e st => (e = .ret ∧ st.env 4 = .v (.int .i64 (findR ns r))) ∨ (e = .exit 0 ∧ findR ns r = -1)) ns.length ?step ?start ?rest
  case step =>
    rintro n st ⟨i, h2, h3, hh2, hh3, h5, i0, i1, hn', hb⟩
    by_cases hlt : i < ns.length
    · have hw : IntKind.i64.wrap (i + 1) = i + 1 := w64 _ (by omega) (by omega)
      by_cases hr : (nd ns i).block.root = r
      · refine go_out (e := .ret) (st' := ?s1) ?h1 (by simp) ?q1
        case h1 =>
          simp -implicitDefEqProofs only [ZZ, seval, h2, h3, hh2, hh3, h5, hlt, i0, hr]
          rfl
        case q1 => exact .inl ⟨rfl, by simp only [EV, seval, findR_at i0 hlt hr hb]⟩
      · refine go_on (st' := ?s2) ?h2 ((ns.length - (i + 1)).toNat) (by omega) ?q2
        case h2 =>
          simp -implicitDefEqProofs only [ZZ, seval, h2, h3, hh2, hh3, h5, hlt, i0, hr, hw]
          rfl
        case q2 => exact ⟨i + 1, by simp only [EV, seval, h2], by simp only [EV, seval, h3], by simp only [EV, seval, hh2], by simp only [EV, seval, hh3], (by simp only [EV, seval]), by omega, by omega, rfl, fun j j0 j1 => by
          rcases Int.lt_or_eq_of_le (show j ≤ i by omega) with h | rfl
          · exact hb j j0 h
          · exact hr⟩
    · refine go_out (e := .exit 0) (st' := ?s3) ?h3 (by simp) ?q3
      case h3 =>
        simp -implicitDefEqProofs only [ZZ, seval, h2, h3, hh2, hh3, h5, hlt, i0]
        rfl
      case q3 => exact .inr ⟨rfl, findR_none fun j j0 j1 => hb j j0 (by omega)⟩
  case start => exact ⟨0, (by simp only [EV, seval]), (by simp only [EV, seval]), (by simp only [EV, seval]), (by simp only [EV, seval]), (by simp only [EV, seval]), by omega, by omega, by omega, fun j _ _ => by omega⟩
  case rest =>
    rintro e st (⟨rfl, h⟩ | ⟨rfl, h⟩)
    · simp -implicitDefEqProofs only [ZZ, seval]
      exact endL_tmp (keep_none (by decide)) (.inl rfl) rfl h (.v _)
    · simp -implicitDefEqProofs only [ZZ, seval]
      exact endL_tmp (keep_none (by decide)) (.inl rfl) rfl (by simp only [EV, seval, h]) (.v _)
end Go.Ab.Try
end
section
set_option linter.unusedSimpArgs false
set_option linter.unusedVariables false
set_option maxRecDepth 20000
namespace Go.Ab.Try
open Classical Go.Proofs Go.Ab
theorem q84 (args : List AV) (st : St) (d : Option Nat) : callFn (callL Try.prog) 84 args st d = callQ (callL Try.prog) 84 (optAll (args.map (expo st))) (decide (∀ x ∈ args, Flat x)) st d := callFn_Q _ _ _ _ _
theorem q34 (args : List AV) (st : St) (d : Option Nat) : callFn (callL Try.prog) 34 args st d = callQ (callL Try.prog) 34 (optAll (args.map (expo st))) (decide (∀ x ∈ args, Flat x)) st d := callFn_Q _ _ _ _ _

/-- ref7.Has -/
theorem c84 (l : List Int) (a : Int) (hn : (l.length : Int) < 1000000) : callL Try.prog 84 [.sl l.length (csInt l), .v (.int .i64 a)] = some (.v (.bool (decide (a ∈ l)))) := by
  rw [callL_eq Try.prog Try.func84 rfl ok84 _ (ext_none _ (by decide)) rfl]
  simp -implicitDefEqProofs only [ZZ, seval]
  refine use_loop (fun n st => ∃ i : Int, st.env 0 = .sl l.length (csInt l) ∧ st.env 1 = .v (.int .i64 a) ∧ st.env 5 = .v (.int .i64 i) ∧ 0 ≤ i ∧ i ≤ l.length ∧ n = (l.length - i).toNat ∧ ∀ j, 0 ≤ j → j < i → it l j ≠ a)
    (fun e st => (e = .ret ∧ st.env 4 = .v (.bool (decide (a ∈ l)))) ∨ (e = .exit 0 ∧ decide (a ∈ l) = false)) l.length ?step ?start ?rest
  case step =>
    rintro n st ⟨i, h0, h1, h5, i0, i1, hn', hb⟩
    by_cases hlt : i < l.length
    · have hw : IntKind.i64.wrap (i + 1) = i + 1 := w64 _ (by omega) (by omega)
      obtain ⟨hi, he⟩ := it_get i0 hlt
      by_cases hr : it l i = a
      · have hm : decide (a ∈ l) = true := by rw [decide_eq_true_eq, ← hr, he]; exact List.getElem_mem hi
        have hbq : (it l i == a) = true := by simp [hr]
        refine go_out (e := .ret) (st' := ?s1) ?h1 (by simp) ?q1
        case h1 =>
          simp -implicitDefEqProofs only [ZZ, seval, h0, h1, h5, hlt, i0, hbq]
          rfl
        case q1 => exact .inl ⟨rfl, by simp only [EV, seval, hm]⟩
      · have hbq : (it l i == a) = false := by simp [hr]
        refine go_on (st' := ?s2) ?h2 ((l.length - (i + 1)).toNat) (by omega) ?q2
        case h2 =>
          simp -implicitDefEqProofs only [ZZ, seval, h0, h1, h5, hlt, i0, hbq, hw]
          rfl
        case q2 => exact ⟨i + 1, by simp only [EV, seval, h0], by simp only [EV, seval, h1], (by simp only [EV, seval]), by omega, by omega, rfl, fun j j0 j1 => by
          rcases Int.lt_or_eq_of_le (show j ≤ i by omega) with h | rfl
          · exact hb j j0 h
          · exact hr⟩
    · refine go_out (e := .exit 0) (st' := ?s3) ?h3 (by simp) ?q3
      case h3 =>
        simp -implicitDefEqProofs only [ZZ, seval, h0, h1, h5, hlt, i0]
        rfl
      case q3 => exact .inr ⟨rfl, by
        rw [decide_eq_false_iff_not]
        intro hm
        obtain ⟨j, hj, rfl⟩ := List.getElem_of_mem hm
        exact hb j (by omega) (by omega) (by simp [it, hj])⟩
  case start => exact ⟨0, (by simp only [EV, seval]), (by simp only [EV, seval]), (by simp only [EV, seval]), by omega, by omega, by omega, fun j _ _ => by omega⟩
  case rest =>
    rintro e st (⟨rfl, h⟩ | ⟨rfl, h⟩)
    · simp -implicitDefEqProofs only [ZZ, seval]
      exact endL_tmp (keep_none (by decide)) (.inl rfl) rfl h (.v _)
    · simp -implicitDefEqProofs only [ZZ, seval]
      exact endL_tmp (keep_none (by decide)) (.inl rfl) rfl (by simp only [EV, seval, h]) (.v _)
theorem c84n (a : Int) : callL Try.prog 84 [.v (.slice none 0 0), .v (.int .i64 a)] = some (.v (.bool false)) := by
  rw [callL_eq Try.prog Try.func84 rfl ok84 _ (ext_none _ (by decide)) rfl]
  simp -implicitDefEqProofs only [ZZ, seval, evL_loop, Int.natCast_zero, Int.lt_irrefl, decide_false]
  exact endL_tmp (keep_none (by decide)) (.inl rfl) rfl (by simp only [EV, seval]) (.v _)
theorem k84 (l : List Int) (a : Int) (hn : (l.length : Int) < 1000000) (fl : Bool) (st : St) (d : Option Nat) : callQ (callL Try.prog) 84 (some [.sl l.length (csInt l), .v (.int .i64 a)]) fl st d = some { dst := d, val := .v (.bool (decide (a ∈ l))) } := Q_bool (c84 l a hn)
theorem k84n (a : Int) (fl : Bool) (st : St) (d : Option Nat) : callQ (callL Try.prog) 84 (some [.v (.slice none 0 0), .v (.int .i64 a)]) fl st d = some { dst := d, val := .v (.bool false) } := Q_bool (c84n a)

/-- ref4.SameInts -/
theorem c34 (l m : List Int) (hn : (l.length : Int) < 1000000) : callL Try.prog 34 [.sl l.length (csInt l), .sl m.length (csInt m)] = some (.v (.bool (decide (l = m)))) := by
  rw [callL_eq Try.prog Try.func34 rfl ok34 _ (ext_none _ (by decide)) rfl]
  by_cases hlen : l.length = m.length
  · have hq : ((l.length : Int) != (m.length : Int)) = false := by simp [hlen]
    simp -implicitDefEqProofs only [ZZ, seval, hq]
    refine use_loop (fun n st => ∃ i : Int, st.env 0 = .sl l.length (csInt l) ∧ st.env 1 = .sl m.length (csInt m) ∧ st.env 5 = .v (.int .i64 i) ∧ 0 ≤ i ∧ i ≤ l.length ∧ n = (l.length - i).toNat ∧ ∀ j, 0 ≤ j → j < i → it l j = it m j)
      (fun e st => (e = .ret ∧ st.env 4 = .v (.bool (decide (l = m)))) ∨ (e = .exit 0 ∧ decide (l = m) = true)) l.length ?step ?start ?rest
    case step =>
      rintro n st ⟨i, h0, h1, h5, i0, i1, hn', hb⟩
      by_cases hlt : i < l.length
      · have hw : IntKind.i64.wrap (i + 1) = i + 1 := w64 _ (by omega) (by omega)
        have hlt' : i < m.length := by omega
        by_cases hr : it l i = it m i
        · have hbq : (it l i != it m i) = false := by simp [hr]
          refine go_on (st' := ?s4) ?h4 ((l.length - (i + 1)).toNat) (by omega) ?q4
          case h4 =>
            simp -implicitDefEqProofs only [ZZ, seval, h0, h1, h5, hlt, hlt', i0, hbq, hw]
            rfl
          case q4 => exact ⟨i + 1, by simp only [EV, seval, h0], by simp only [EV, seval, h1], (by simp only [EV, seval]), by omega, by omega, rfl, fun j j0 j1 => by
            rcases Int.lt_or_eq_of_le (show j ≤ i by omega) with h | rfl
            · exact hb j j0 h
            · exact hr⟩
        · have hbq : (it l i != it m i) = true := by simp [hr]
          have hd : decide (l = m) = false := by rw [decide_eq_false_iff_not]; intro h; exact hr (by rw [h])
          refine go_out (e := .ret) (st' := ?s5) ?h5 (by simp) ?q5
          case h5 =>
            simp -implicitDefEqProofs only [ZZ, seval, h0, h1, h5, hlt, hlt', i0, hbq]
            rfl
          case q5 => exact .inl ⟨rfl, by simp only [EV, seval, hd]⟩
      · refine go_out (e := .exit 0) (st' := ?s6) ?h6 (by simp) ?q6
        case h6 =>
          simp -implicitDefEqProofs only [ZZ, seval, h0, h1, h5, hlt, i0]
          rfl
        case q6 => exact .inr ⟨rfl, by
          rw [decide_eq_true_eq]
          apply List.ext_getElem hlen
          intro j h1 h2
          have := hb j (by omega) (by omega)
          simpa [it, h1, h2] using this⟩
    case start => exact ⟨0, (by simp only [EV, seval]), (by simp only [EV, seval]), (by simp only [EV, seval]), by omega, by omega, by omega, fun j _ _ => by omega⟩
    case rest =>
      rintro e st (⟨rfl, h⟩ | ⟨rfl, h⟩)
      · simp -implicitDefEqProofs only [ZZ, seval]
        exact endL_tmp (keep_none (by decide)) (.inl rfl) rfl h (.v _)
      · simp -implicitDefEqProofs only [ZZ, seval]
        exact endL_tmp (keep_none (by decide)) (.inl rfl) rfl (by simp only [EV, seval, h]) (.v _)
  · have hq : ((l.length : Int) != (m.length : Int)) = true := by simp; omega
    have hd : decide (l = m) = false := by rw [decide_eq_false_iff_not]; intro h; exact hlen (by rw [h])
    simp -implicitDefEqProofs only [ZZ, seval, hq]
    exact endL_tmp (keep_none (by decide)) (.inl rfl) rfl (by simp only [EV, seval, hd]) (.v _)
theorem c34n : callL Try.prog 34 [.v (.slice none 0 0), .v (.slice none 0 0)] = some (.v (.bool true)) := by
  rw [callL_eq Try.prog Try.func34 rfl ok34 _ (ext_none _ (by decide)) rfl]
  simp -implicitDefEqProofs only [ZZ, seval, evL_loop, Int.natCast_zero, Int.lt_irrefl, decide_false, bne_self_eq_false]
  exact endL_tmp (keep_none (by decide)) (.inl rfl) rfl (by simp only [EV, seval]) (.v _)
theorem k34 (l m : List Int) (hn : (l.length : Int) < 1000000) (fl : Bool) (st : St) (d : Option Nat) : callQ (callL Try.prog) 34 (some [.sl l.length (csInt l), .sl m.length (csInt m)]) fl st d = some { dst := d, val := .v (.bool (decide (l = m))) } := Q_bool (c34 l m hn)
theorem k34n (fl : Bool) (st : St) (d : Option Nat) : callQ (callL Try.prog) 34 (some [.v (.slice none 0 0), .v (.slice none 0 0)]) fl st d = some { dst := d, val := .v (.bool true) } := Q_bool c34n

/-- Trees in which every parent comes before its children. -/
def UpOk (ns : List Node) : Prop := ∀ i : Int, 0 < i → i < ns.length → 0 ≤ (nd ns i).up ∧ (nd ns i).up < i
def pathN (ns : List Node) : Nat → Int → List Int
  | 0, _ => []
  | f + 1, i => if i = 0 then [0] else pathN ns f (nd ns i).up ++ [i]
/-- The path from node 0. -/
def path (ns : List Node) (i : Int) : List Int := if 0 ≤ i ∧ i < ns.length then pathN ns (i.toNat + 1) i else []
theorem pathN_fuel {ns : List Node} (h : UpOk ns) : ∀ (f g : Nat) (i : Int), 0 ≤ i → i < ns.length → i.toNat < f → i.toNat < g → pathN ns f i = pathN ns g i
  | 0, _, i, _, _, h1, _ => by omega
  | f + 1, 0, i, _, _, _, h2 => by omega
  | f + 1, g + 1, i, i0, i1, h1, h2 => by
    simp only [pathN]
    by_cases hi : i = 0
    · rw [if_pos hi, if_pos hi]
    · obtain ⟨u0, u1⟩ := h i (by omega) i1
      rw [if_neg hi, if_neg hi, pathN_fuel h f g (nd ns i).up u0 (by omega) (by omega) (by omega)]
theorem path_zero {ns : List Node} (h : 0 < ns.length) : path ns 0 = [0] := by
  unfold path
  rw [if_pos ⟨by omega, by omega⟩]
  rfl
theorem path_step {ns : List Node} (h : UpOk ns) {i : Int} (i0 : 0 < i) (i1 : i < ns.length) : path ns i = path ns (nd ns i).up ++ [i] := by
  obtain ⟨u0, u1⟩ := h i i0 i1
  unfold path
  rw [if_pos ⟨by omega, i1⟩, if_pos ⟨u0, by omega⟩]
  show pathN ns (i.toNat + 1) i = _
  rw [pathN, if_neg (by omega)]
  rw [pathN_fuel h i.toNat ((nd ns i).up.toNat + 1) (nd ns i).up u0 (by omega) (by omega) (by omega)]
theorem path_none {ns : List Node} {i : Int} (h : ¬ (0 ≤ i ∧ i < ns.length)) : path ns i = [] := if_neg h
theorem path_len {ns : List Node} (h : UpOk ns) : ∀ (k : Nat) (i : Int), i.toNat = k → 0 ≤ i → i < ns.length → (path ns i).length ≤ i + 1 := by
  intro k
  induction k using Nat.strongRecOn with
  | _ k ih =>
    intro i hk i0 i1
    by_cases hi : i = 0
    · subst hi; rw [path_zero (by omega)]; simp
    · obtain ⟨u0, u1⟩ := h i (by omega) i1
      rw [path_step h (by omega) i1]
      have := ih (nd ns i).up.toNat (by omega) _ rfl u0 (by omega)
      simp only [List.length_append, List.length_singleton]
      omega
theorem path_lt {ns : List Node} (h : UpOk ns) (i : Int) : ((path ns i).length : Int) ≤ ns.length := by
  by_cases hi : 0 ≤ i ∧ i < ns.length
  · have := path_len h _ i rfl hi.1 hi.2; omega
  · rw [path_none hi]; simp

/-- ref11.Path -/
theorem c45n (ns : List Node) (i : Int) (h : ¬ (0 ≤ i ∧ i < ns.length)) : callL Try.prog 45 [.agg (cTree ⟨ns⟩), .v (.int .i64 i)] = some (.v (.slice none 0 0)) := by
  rw [callL_eq Try.prog Try.func45 rfl ok45 _ (ext_none _ (by decide)) rfl]
  have hd : (decide (0 ≤ i) && decide (i < ns.length)) = false := by
    rw [← Bool.not_eq_true]; simpa using h
  simp -implicitDefEqProofs only [ZZ, seval, k86, hd]
  exact endL_tmp (keep_none (by decide)) (.inl rfl) rfl (by simp only [EV, seval]) (.v _)
theorem c45 (ns : List Node) (hu : UpOk ns) (hn : (ns.length : Int) < 1000000) : ∀ (k : Nat) (i : Int), i.toNat = k → 0 ≤ i → i < ns.length → callL Try.prog 45 [.agg (cTree ⟨ns⟩), .v (.int .i64 i)] = some (.uniq 3 1 (path ns i).length (csInt (path ns i))) := by
  intro k
  induction k using Nat.strongRecOn with
  | _ k ih =>
    intro i hk i0 i1
    have hd : (decide (0 ≤ i) && decide (i < ns.length)) = true := by simp [i0, i1]
    rw [callL_eq Try.prog Try.func45 rfl ok45 _ (ext_none _ (by decide)) rfl]
    by_cases hi : i = 0
    · subst hi
      simp -implicitDefEqProofs only [ZZ, seval, k86, hd, i1, beq_self_eq_true]
      exact endL_row (keep_none (by decide)) (.inl rfl) rfl (by simp only [EV, seval]; rfl) (by simp only [EV, seval, path_zero (show 0 < ns.length by omega)]; rfl) (flat_csInt _)
    · obtain ⟨u0, u1⟩ := hu i (by omega) i1
      have hq : (i == 0) = false := by simp [hi]
      have hr := ih (nd ns i).up.toNat (by omega) _ rfl u0 (by omega)
      have hc : ∀ (st : St) (d : Nat), callFn (callL Try.prog) 45 [.agg (cTree ⟨ns⟩), .v (.int .i64 (nd ns i).up)] st (some d) = some { dst := some d, val := .own d (st.cnt d), new := some (d, [.row 3 1 (path ns (nd ns i).up).length (csInt (path ns (nd ns i).up))]) } := fun st d => call_uniq (flat2 (flatT _) (.v _)) hr
      have hl : ((path ns (nd ns i).up).length : Int) < 1000000 := by have := path_lt hu (nd ns i).up; omega
      simp -implicitDefEqProofs only [ZZ, seval, k86, hd, hq, i0, i1, hc, hl]
      exact endL_row (keep_none (by decide)) (.inl rfl) rfl (by simp only [EV, seval]; rfl) (by simp only [EV, seval, path_step hu (show 0 < i by omega) i1]) (flat_csInt _)
theorem k45 (ns : List Node) (hu : UpOk ns) (hn : (ns.length : Int) < 1000000) (i : Int) (i0 : 0 ≤ i) (i1 : i < ns.length) (st : St) (d : Nat) : callFn (callL Try.prog) 45 [.agg (cTree ⟨ns⟩), .v (.int .i64 i)] st (some d) = some { dst := some d, val := .own d (st.cnt d), new := some (d, [.row 3 1 (path ns i).length (csInt (path ns i))]) } := call_uniq (flat2 (flatT _) (.v _)) (c45 ns hu hn _ i rfl i0 i1)
theorem k45n (ns : List Node) (i : Int) (h : ¬ (0 ≤ i ∧ i < ns.length)) (st : St) (d : Option Nat) : callFn (callL Try.prog) 45 [.agg (cTree ⟨ns⟩), .v (.int .i64 i)] st d = some { dst := d, val := .v (.slice none 0 0) } := call_flat (flat2 (flatT _) (.v _)) (c45n ns i h) (.v _)

/-- ref11.IsAncestor -/
def anc (ns : List Node) (a b : Int) : Bool := decide (a ∈ path ns b)
theorem c46 (ns : List Node) (hu : UpOk ns) (hn : (ns.length : Int) < 1000000) (a b : Int) : callL Try.prog 46 [.agg (cTree ⟨ns⟩), .v (.int .i64 a), .v (.int .i64 b)] = some (.v (.bool (anc ns a b))) := by
  rw [callL_eq Try.prog Try.func46 rfl ok46 _ (ext_none _ (by decide)) rfl]
  by_cases hb : 0 ≤ b ∧ b < ns.length
  · have hl : ((path ns b).length : Int) < 1000000 := by have := path_lt hu b; omega
    simp -implicitDefEqProofs only [ZZ, seval, k45 ns hu hn b hb.1 hb.2, q84, k84, hl]
    exact endL_tmp (keep_none (by decide)) (.inl rfl) rfl (by simp only [EV, seval, anc]) (.v _)
  · simp -implicitDefEqProofs only [ZZ, seval, k45n ns b hb, q84, k84n]
    exact endL_tmp (keep_none (by decide)) (.inl rfl) rfl (by simp only [EV, seval, anc, path_none hb, List.not_mem_nil, decide_false]) (.v _)
theorem k46 (ns : List Node) (hu : UpOk ns) (hn : (ns.length : Int) < 1000000) (a b : Int) (st : St) (d : Option Nat) : callFn (callL Try.prog) 46 [.agg (cTree ⟨ns⟩), .v (.int .i64 a), .v (.int .i64 b)] st d = some { dst := d, val := .v (.bool (anc ns a b)) } := call_flat (flat3 (flatT _) (.v _) (.v _)) (c46 ns hu hn a b) (.v _)
end Go.Ab.Try
end
section
set_option linter.unusedSimpArgs false
set_option linter.unusedVariables false
set_option maxRecDepth 20000
namespace Go.Ab.Try
open Classical Go.Proofs Go.Ab
/-- ancestry.has -/
theorem c88 (ns : List Node) (i : Int) : callL Try.prog 88 [.agg (cTree ⟨ns⟩), .v (.int .i64 i)] = some (.v (.bool (decide (0 ≤ i) && decide (i < ns.length)))) := by
  rw [callL_eq Try.prog Try.func88 rfl ok88 _ (ext_none _ (by decide)) rfl]
  by_cases h : 0 ≤ i
  all_goals
    simp -implicitDefEqProofs only [ZZ, seval, h, decide_true, decide_false, Bool.false_eq_true, Bool.true_and, Bool.false_and]
    exact endL_tmp (keep_none (by decide)) (.inl rfl) rfl (by simp only [EV, seval]) (.v _)
theorem k88 (ns : List Node) (i : Int) (st : St) (d : Option Nat) : callFn (callL Try.prog) 88 [.agg (cTree ⟨ns⟩), .v (.int .i64 i)] st d = some { dst := d, val := .v (.bool (decide (0 ≤ i) && decide (i < ns.length))) } := call_flat (flat2 (flatT _) (.v _)) (c88 ns i) (.v _)
theorem path_self {ns : List Node} (h : UpOk ns) {i : Int} (i0 : 0 ≤ i) (i1 : i < ns.length) : i ∈ path ns i := by
  by_cases hi : i = 0
  · subst hi; rw [path_zero (by omega)]; simp
  · rw [path_step h (by omega) i1]; simp
theorem path_mem {ns : List Node} (h : UpOk ns) : ∀ (k : Nat) (i : Int), i.toNat = k → 0 ≤ i → i < ns.length → ∀ x ∈ path ns i, 0 ≤ x ∧ x ≤ i := by
  intro k
  induction k using Nat.strongRecOn with
  | _ k ih =>
    intro i hk i0 i1 x hx
    by_cases hi : i = 0
    · subst hi; rw [path_zero (by omega)] at hx; simp at hx; omega
    · obtain ⟨u0, u1⟩ := h i (by omega) i1
      rw [path_step h (by omega) i1] at hx
      rcases List.mem_append.1 hx with hx | hx
      · have := ih (nd ns i).up.toNat (by omega) _ rfl u0 (by omega) x hx
        omega
      · simp at hx; omega
theorem path_range {ns : List Node} (h : UpOk ns) {i x : Int} (hx : x ∈ path ns i) : 0 ≤ x ∧ x < ns.length := by
  by_cases hi : 0 ≤ i ∧ i < ns.length
  · have := path_mem h _ i rfl hi.1 hi.2 x hx; omega
  · rw [path_none hi] at hx; simp at hx
/-- The last of a list whose slot is at most s, or -1. -/
def lastLe (ns : List Node) (s : Int) (l : List Int) : Int := l.foldl (fun r x => if (nd ns x).block.slot ≤ s then x else r) (-1)
def atV (ns : List Node) (i s : Int) : Int := lastLe ns s (path ns i)
theorem lastLe_app (ns : List Node) (s : Int) (l : List Int) (x : Int) : lastLe ns s (l ++ [x]) = if (nd ns x).block.slot ≤ s then x else lastLe ns s l := by simp [lastLe]
theorem atV_none {ns : List Node} {i : Int} (s : Int) (h : ¬ (0 ≤ i ∧ i < ns.length)) : atV ns i s = -1 := by unfold atV; rw [path_none h]; rfl
theorem atV_hit {ns : List Node} (h : UpOk ns) {i s : Int} (hi : 0 ≤ i ∧ i < ns.length) (hs : (nd ns i).block.slot ≤ s) : atV ns i s = i := by
  unfold atV
  by_cases h0 : i = 0
  · subst h0; rw [path_zero (by omega)]; simp [lastLe, hs]
  · rw [path_step h (by omega) hi.2, lastLe_app, if_pos hs]
theorem atV_up {ns : List Node} (h : UpOk ns) (hr : (nd ns 0).up = -1) {i s : Int} (hi : 0 ≤ i ∧ i < ns.length) (hs : ¬ (nd ns i).block.slot ≤ s) : atV ns i s = atV ns (nd ns i).up s := by
  by_cases h0 : i = 0
  · subst h0; rw [hr, atV_none s (i := -1) (by omega)]; unfold atV; rw [path_zero (by omega)]; simp [lastLe, hs]
  · unfold atV; rw [path_step h (by omega) hi.2, lastLe_app, if_neg hs]

/-- ancestry.At -/
theorem c39 (ns : List Node) (hu : UpOk ns) (hr : (nd ns 0).up = -1) (i s : Int) : callL Try.prog 39 [.agg (cTree ⟨ns⟩), .v (.int .i64 i), .v (.int .u64 s)] = some (.v (.int .i64 (atV ns i s))) := by
  rw [callL_eq Try.prog Try.func39 rfl ok39 _ (ext_none _ (by decide)) rfl]
  simp -implicitDefEqProofs only [ZZ, seval]
  refine use_loop (fun n st => ∃ c : Int, st.env 1 = .v (.int .i64 c) ∧ st.env 2 = .v (.int .u64 s) ∧ st.env 3 = .ptr 3 0 0 ∧ st.heap 3 0 = some (.cells (cTree ⟨ns⟩)) ∧ atV ns i s = atV ns c s ∧ n = (c + 1).toNat)
    (fun e st => (e = .ret ∧ st.env 6 = .v (.int .i64 (atV ns i s))) ∨ (e = .exit 0 ∧ atV ns i s = -1)) (i + 1).toNat ?step ?start ?rest
  case step =>
    rintro n st ⟨c, h1, h2, h3, hh3, hb, hn'⟩
    by_cases hv : 0 ≤ c ∧ c < ns.length
    · have hd : (decide (0 ≤ c) && decide (c < ns.length)) = true := by simp [hv.1, hv.2]
      obtain ⟨i0, hlt⟩ := hv
      by_cases hs : (nd ns c).block.slot ≤ s
      · have hm : atV ns c s = c := atV_hit hu ⟨i0, hlt⟩ hs
        refine go_out (e := .ret) (st' := ?s1) ?h1 (by simp) ?q1
        case h1 =>
          simp -implicitDefEqProofs only [ZZ, seval, h1, h2, h3, hh3, k88, hd, hlt, i0, hs]
          rfl
        case q1 => exact .inl ⟨rfl, by simp only [EV, seval, hb, hm]⟩
      · have hm : atV ns c s = atV ns (nd ns c).up s := atV_up hu hr ⟨i0, hlt⟩ hs
        have hup : (nd ns c).up < c ∧ -1 ≤ (nd ns c).up := by
          by_cases h0 : c = 0
          · subst h0; rw [hr]; omega
          · have := hu c (by omega) hlt; omega
        refine go_on (st' := ?s2) ?h2 (((nd ns c).up + 1).toNat) (by omega) ?q2
        case h2 =>
          simp -implicitDefEqProofs only [ZZ, seval, h1, h2, h3, hh3, k88, hd, hlt, i0, hs]
          rfl
        case q2 => exact ⟨(nd ns c).up, (by simp only [EV, seval]), by simp only [EV, seval, h2], by simp only [EV, seval, h3], by simp only [EV, seval, hh3], hb.trans hm, rfl⟩
    · have hd : (decide (0 ≤ c) && decide (c < ns.length)) = false := by rw [← Bool.not_eq_true]; simpa using hv
      refine go_out (e := .exit 0) (st' := ?s3) ?h3 (by simp) ?q3
      case h3 =>
        simp -implicitDefEqProofs only [ZZ, seval, h1, h2, h3, hh3, k88, hd]
        rfl
      case q3 => exact .inr ⟨rfl, hb.trans (atV_none s hv)⟩
  case start => exact ⟨i, (by simp only [EV, seval]), (by simp only [EV, seval]), (by simp only [EV, seval]), (by simp only [EV, seval]), rfl, rfl⟩
  case rest =>
    rintro e st (⟨rfl, h⟩ | ⟨rfl, h⟩)
    · simp -implicitDefEqProofs only [ZZ, seval]
      exact endL_tmp (keep_none (by decide)) (.inl rfl) rfl h (.v _)
    · simp -implicitDefEqProofs only [ZZ, seval]
      exact endL_tmp (keep_none (by decide)) (.inl rfl) rfl (by simp only [EV, seval, h]) (.v _)
theorem k39 (ns : List Node) (hu : UpOk ns) (hr : (nd ns 0).up = -1) (i s : Int) (st : St) (d : Option Nat) : callFn (callL Try.prog) 39 [.agg (cTree ⟨ns⟩), .v (.int .i64 i), .v (.int .u64 s)] st d = some { dst := d, val := .v (.int .i64 (atV ns i s)) } := call_flat (flat3 (flatT _) (.v _) (.v _)) (c39 ns hu hr i s) (.v _)
end Go.Ab.Try
end
section
set_option linter.unusedSimpArgs false
set_option linter.unusedVariables false
set_option maxRecDepth 20000
namespace Go.Ab.Try
open Classical Go.Proofs Go.Ab
theorem take_it {l : List Int} {j : Int} (j0 : 0 ≤ j) (j1 : j < l.length) : l.take (j + 1).toNat = l.take j.toNat ++ [it l j] := by
  obtain ⟨h, e⟩ := it_get j0 j1
  rw [e, show (j + 1).toNat = j.toNat + 1 by omega, List.take_succ_eq_append_getElem h]
theorem it_mem {l : List Int} {j : Int} (j0 : 0 ≤ j) (j1 : j < l.length) : it l j ∈ l := by
  obtain ⟨h, e⟩ := it_get j0 j1
  rw [e]; exact List.getElem_mem h
/-- ref11.At -/
theorem c40 (ns : List Node) (hu : UpOk ns) (hn : (ns.length : Int) < 1000000) (i s : Int) : callL Try.prog 40 [.agg (cTree ⟨ns⟩), .v (.int .i64 i), .v (.int .u64 s)] = some (.v (.int .i64 (atV ns i s))) := by
  rw [callL_eq Try.prog Try.func40 rfl ok40 _ (ext_none _ (by decide)) rfl]
  by_cases hv : 0 ≤ i ∧ i < ns.length
  · have hl : ((path ns i).length : Int) < 1000000 := by have := path_lt hu i; omega
    have hp := k45 ns hu hn i hv.1 hv.2
    have hrg : ∀ x ∈ path ns i, 0 ≤ x ∧ x < ns.length := fun x => path_range hu
    unfold atV
    generalize path ns i = p at hl hp hrg
    simp -implicitDefEqProofs only [ZZ, seval, hp]
    refine use_loop (fun n st => ∃ j : Int, st.env 2 = .v (.int .u64 s) ∧ st.env 3 = .ptr 3 0 0 ∧ st.heap 3 0 = some (.cells (cTree ⟨ns⟩)) ∧ st.env 8 = .own 12 0 ∧ st.heap 12 0 = some (.row 3 1 p.length (csInt p)) ∧ st.env 9 = .v (.int .i64 j) ∧ st.env 7 = .v (.int .i64 (lastLe ns s (p.take j.toNat))) ∧ 0 ≤ j ∧ j ≤ p.length ∧ n = (p.length - j).toNat)
      (fun e st => e = .exit 0 ∧ st.env 7 = .v (.int .i64 (lastLe ns s p))) p.length ?step ?start ?rest
    case step =>
      rintro n st ⟨j, h2, h3, hh3, h8, hh8, h9, h7, j0, j1, hn'⟩
      by_cases hlt : j < p.length
      · have hw : IntKind.i64.wrap (j + 1) = j + 1 := w64 _ (by omega) (by omega)
        obtain ⟨x0, x1⟩ := hrg _ (it_mem j0 hlt)
        have ht := take_it j0 hlt
        by_cases hs : (nd ns (it p j)).block.slot ≤ s
        · refine go_on (st' := ?s1) ?h1 ((p.length - (j + 1)).toNat) (by omega) ?q1
          case h1 =>
            simp -implicitDefEqProofs only [ZZ, seval, h2, h3, hh3, h8, hh8, h9, hlt, j0, hw, x0, x1, hs]
            rfl
          case q1 => exact ⟨j + 1, by simp only [EV, seval, h2], by simp only [EV, seval, h3], by simp only [EV, seval, hh3], by simp only [EV, seval, h8], by simp only [EV, seval, hh8], (by simp only [EV, seval]), by simp only [EV, seval, ht, lastLe_app, hs], by omega, by omega, rfl⟩
        · refine go_on (st' := ?s2) ?h2 ((p.length - (j + 1)).toNat) (by omega) ?q2
          case h2 =>
            simp -implicitDefEqProofs only [ZZ, seval, h2, h3, hh3, h8, hh8, h9, hlt, j0, hw, x0, x1, hs]
            rfl
          case q2 => exact ⟨j + 1, by simp only [EV, seval, h2], by simp only [EV, seval, h3], by simp only [EV, seval, hh3], by simp only [EV, seval, h8], by simp only [EV, seval, hh8], (by simp only [EV, seval]), by simp only [EV, seval, ht, lastLe_app, hs, h7], by omega, by omega, rfl⟩
      · have ht : p.take j.toNat = p := List.take_of_length_le (by omega)
        refine go_out (e := .exit 0) (st' := ?s3) ?h3 (by simp) ?q3
        case h3 =>
          simp -implicitDefEqProofs only [ZZ, seval, h2, h3, hh3, h8, hh8, h9, hlt, j0]
          rfl
        case q3 => exact ⟨rfl, by rw [← ht]; exact h7⟩
    case start => exact ⟨0, (by simp only [EV, seval]), (by simp only [EV, seval]), (by simp only [EV, seval]), (by simp only [EV, seval]), (by simp only [EV, seval]), (by simp only [EV, seval]), (by simp only [EV, seval]; rfl), by omega, by omega, by omega⟩
    case rest =>
      rintro e st ⟨rfl, h⟩
      simp -implicitDefEqProofs only [ZZ, seval, h]
      exact endL_tmp (keep_none (by decide)) (.inl rfl) rfl (by simp only [EV, seval]) (.v _)
  · rw [atV_none s hv]
    simp -implicitDefEqProofs only [ZZ, seval, k45n ns i hv, evL_loop, Int.natCast_zero, Int.lt_irrefl, decide_false]
    exact endL_tmp (keep_none (by decide)) (.inl rfl) rfl (by simp only [EV, seval]) (.v _)
theorem k40 (ns : List Node) (hu : UpOk ns) (hn : (ns.length : Int) < 1000000) (i s : Int) (st : St) (d : Option Nat) : callFn (callL Try.prog) 40 [.agg (cTree ⟨ns⟩), .v (.int .i64 i), .v (.int .u64 s)] st d = some { dst := d, val := .v (.int .i64 (atV ns i s)) } := call_flat (flat3 (flatT _) (.v _) (.v _)) (c40 ns hu hn i s) (.v _)

/-- ancestry.IsAncestor -/
theorem anc_big {ns : List Node} (hu : UpOk ns) {a c : Int} (h0 : 0 ≤ c) (h1 : c < ns.length) (h : ¬ a < c) : anc ns a c = decide (a = c) := by
  unfold anc
  rw [decide_eq_decide]
  constructor
  · intro hm; have := path_mem hu _ c rfl h0 h1 a hm; omega
  · rintro rfl; exact path_self hu h0 h1
theorem anc_up {ns : List Node} (hu : UpOk ns) {a c : Int} (h1 : c < ns.length) (h : a < c) (a0 : 0 ≤ a) : anc ns a c = anc ns a (nd ns c).up := by
  unfold anc
  rw [decide_eq_decide, path_step hu (by omega) h1]
  simp only [List.mem_append, List.mem_singleton]
  constructor
  · rintro (hm | rfl)
    · exact hm
    · omega
  · exact .inl
theorem anc_range {ns : List Node} (hu : UpOk ns) {a c : Int} (h : ¬ ((0 ≤ a ∧ a < ns.length) ∧ (0 ≤ c ∧ c < ns.length))) : anc ns a c = false := by
  unfold anc
  rw [decide_eq_false_iff_not]
  intro hm
  by_cases hc : 0 ≤ c ∧ c < ns.length
  · exact h ⟨path_range hu hm, hc⟩
  · rw [path_none hc] at hm; simp at hm
theorem c42 (ns : List Node) (hu : UpOk ns) (a b : Int) : callL Try.prog 42 [.agg (cTree ⟨ns⟩), .v (.int .i64 a), .v (.int .i64 b)] = some (.v (.bool (anc ns a b))) := by
  rw [callL_eq Try.prog Try.func42 rfl ok42 _ (ext_none _ (by decide)) rfl]
  by_cases hv : (0 ≤ a ∧ a < ns.length) ∧ (0 ≤ b ∧ b < ns.length)
  · have hda : (decide (0 ≤ a) && decide (a < ns.length)) = true := by simp [hv.1.1, hv.1.2]
    have hdb : (decide (0 ≤ b) && decide (b < ns.length)) = true := by simp [hv.2.1, hv.2.2]
    simp -implicitDefEqProofs only [ZZ, seval, k88, hda, hdb]
    refine use_loop (fun n st => ∃ c : Int, st.env 1 = .v (.int .i64 a) ∧ st.env 2 = .v (.int .i64 c) ∧ st.env 3 = .ptr 3 0 0 ∧ st.heap 3 0 = some (.cells (cTree ⟨ns⟩)) ∧ anc ns a b = anc ns a c ∧ 0 ≤ c ∧ c < ns.length ∧ n = c.toNat)
      (fun e st => e = .exit 0 ∧ ∃ c : Int, st.env 1 = .v (.int .i64 a) ∧ st.env 2 = .v (.int .i64 c) ∧ anc ns a b = decide (a = c)) b.toNat ?step ?start ?rest
    case step =>
      rintro n st ⟨c, h1, h2, h3, hh3, hb, c0, c1, hn'⟩
      by_cases hlt : a < c
      · obtain ⟨u0, u1⟩ := hu c (by omega) c1
        refine go_on (st' := ?s4) ?h4 (((nd ns c).up).toNat) (by omega) ?q4
        case h4 =>
          simp -implicitDefEqProofs only [ZZ, seval, h1, h2, h3, hh3, hlt, c0, c1]
          rfl
        case q4 => exact ⟨(nd ns c).up, by simp only [EV, seval, h1], (by simp only [EV, seval]), by simp only [EV, seval, h3], by simp only [EV, seval, hh3], hb.trans (anc_up hu c1 hlt hv.1.1), u0, by omega, rfl⟩
      · refine go_out (e := .exit 0) (st' := ?s5) ?h5 (by simp) ?q5
        case h5 =>
          simp -implicitDefEqProofs only [ZZ, seval, h1, h2, h3, hh3, hlt]
          rfl
        case q5 => exact ⟨rfl, c, by simp only [EV, seval, h1], by simp only [EV, seval, h2], hb.trans (anc_big hu c0 c1 hlt)⟩
    case start => exact ⟨b, (by simp only [EV, seval]), (by simp only [EV, seval]), (by simp only [EV, seval]), (by simp only [EV, seval]), rfl, hv.2.1, hv.2.2, rfl⟩
    case rest =>
      rintro e st ⟨rfl, c, h1, h2, h⟩
      have hbq : (a == c) = decide (a = c) := rfl
      simp -implicitDefEqProofs only [ZZ, seval, h1, h2]
      exact endL_tmp (keep_none (by decide)) (.inl rfl) rfl (by simp only [EV, seval, h, hbq]) (.v _)
  · rw [anc_range hu hv]
    by_cases ha : 0 ≤ a ∧ a < ns.length
    · have hda : (decide (0 ≤ a) && decide (a < ns.length)) = true := by simp [ha.1, ha.2]
      have hdb : (decide (0 ≤ b) && decide (b < ns.length)) = false := by rw [← Bool.not_eq_true]; simpa using fun h h' => hv ⟨ha, h, h'⟩
      simp -implicitDefEqProofs only [ZZ, seval, k88, hda, hdb]
      exact endL_tmp (keep_none (by decide)) (.inl rfl) rfl (by simp only [EV, seval]) (.v _)
    · have hda : (decide (0 ≤ a) && decide (a < ns.length)) = false := by rw [← Bool.not_eq_true]; simpa using ha
      simp -implicitDefEqProofs only [ZZ, seval, k88, hda]
      exact endL_tmp (keep_none (by decide)) (.inl rfl) rfl (by simp only [EV, seval]) (.v _)
theorem k42 (ns : List Node) (hu : UpOk ns) (a b : Int) (st : St) (d : Option Nat) : callFn (callL Try.prog) 42 [.agg (cTree ⟨ns⟩), .v (.int .i64 a), .v (.int .i64 b)] st d = some { dst := d, val := .v (.bool (anc ns a b)) } := call_flat (flat3 (flatT _) (.v _) (.v _)) (c42 ns hu a b) (.v _)
end Go.Ab.Try
end
section
set_option linter.unusedSimpArgs false
set_option linter.unusedVariables false
set_option maxRecDepth 20000
namespace Go.Ab.Try
open Classical Go.Proofs Go.Ab
/-- ancestry.Heir -/
def heirF (ns : List Node) (a : Int) : Nat → Int → Int
  | 0, c => c
  | f + 1, c => if (nd ns c).up = a then c else heirF ns a f (nd ns c).up
def heirV (ns : List Node) (a b : Int) : Int := if a = b ∨ anc ns a b = false then -1 else heirF ns a b.toNat b
theorem anc_in {ns : List Node} (hu : UpOk ns) {a c : Int} (h : anc ns a c = true) : (0 ≤ a ∧ a < ns.length) ∧ (0 ≤ c ∧ c < ns.length) := by
  by_cases hv : (0 ≤ a ∧ a < ns.length) ∧ (0 ≤ c ∧ c < ns.length)
  · exact hv
  · rw [anc_range hu hv] at h; cases h
theorem anc_le {ns : List Node} (hu : UpOk ns) {a c : Int} (h : anc ns a c = true) : a ≤ c := by
  have hr := (anc_in hu h).2
  unfold anc at h
  exact (path_mem hu _ c rfl hr.1 hr.2 a (of_decide_eq_true h)).2
theorem c43 (ns : List Node) (hu : UpOk ns) (a b : Int) : callL Try.prog 43 [.agg (cTree ⟨ns⟩), .v (.int .i64 a), .v (.int .i64 b)] = some (.v (.int .i64 (heirV ns a b))) := by
  rw [callL_eq Try.prog Try.func43 rfl ok43 _ (ext_none _ (by decide)) rfl]
  by_cases hab : a = b
  · have hq : (a == b) = true := by simp [hab]
    have hh : heirV ns a b = -1 := by unfold heirV; rw [if_pos (.inl hab)]
    simp -implicitDefEqProofs only [ZZ, seval, hq]
    exact endL_tmp (keep_none (by decide)) (.inl rfl) rfl (by simp only [EV, seval, hh]) (.v _)
  · have hq : (a == b) = false := by simp [hab]
    cases hanc : anc ns a b
    · have hh : heirV ns a b = -1 := by unfold heirV; rw [if_pos (.inr hanc)]
      simp -implicitDefEqProofs only [ZZ, seval, hq, k42 ns hu, hanc]
      exact endL_tmp (keep_none (by decide)) (.inl rfl) rfl (by simp only [EV, seval, hh]) (.v _)
    · have hh : heirV ns a b = heirF ns a b.toNat b := by unfold heirV; rw [if_neg]; rintro (h | h); exact hab h; rw [hanc] at h; cases h
      have hin := anc_in hu hanc
      simp -implicitDefEqProofs only [ZZ, seval, hq, k42 ns hu, hanc]
      refine use_loop (fun n st => ∃ (c : Int) (f : Nat), st.env 1 = .v (.int .i64 a) ∧ st.env 2 = .v (.int .i64 c) ∧ st.env 3 = .ptr 3 0 0 ∧ st.heap 3 0 = some (.cells (cTree ⟨ns⟩)) ∧ heirV ns a b = heirF ns a f c ∧ anc ns a c = true ∧ a < c ∧ c.toNat ≤ f ∧ n = c.toNat)
        (fun e st => e = .exit 0 ∧ st.env 2 = .v (.int .i64 (heirV ns a b))) b.toNat ?step ?start ?rest
      case step =>
        rintro n st ⟨c, f, h1, h2, h3, hh3, hb, hac, hlt, hf, hn'⟩
        obtain ⟨⟨a0, _⟩, c0, c1⟩ := anc_in hu hac
        obtain ⟨u0, u1⟩ := hu c (by omega) c1
        obtain ⟨f, rfl⟩ : ∃ f', f = f' + 1 := ⟨f - 1, by omega⟩
        by_cases hup : (nd ns c).up = a
        · have hq2 : ((nd ns c).up != a) = false := by simp [hup]
          have hv : heirV ns a b = c := by rw [hb]; simp only [heirF, hup, if_true]
          refine go_out (e := .exit 0) (st' := ?s1) ?h1 (by simp) ?q1
          case h1 =>
            simp -implicitDefEqProofs only [ZZ, seval, h1, h2, h3, hh3, hq2, c0, c1]
            rfl
          case q1 => exact ⟨rfl, by simp only [EV, seval, h2, hv]⟩
        · have hq2 : ((nd ns c).up != a) = true := by simp [hup]
          have hac' : anc ns a (nd ns c).up = true := by rw [← anc_up hu c1 hlt a0]; exact hac
          have := anc_le hu hac'
          refine go_on (st' := ?s2) ?h2 (((nd ns c).up).toNat) (by omega) ?q2
          case h2 =>
            simp -implicitDefEqProofs only [ZZ, seval, h1, h2, h3, hh3, hq2, c0, c1]
            rfl
          case q2 => exact ⟨(nd ns c).up, f, by simp only [EV, seval, h1], (by simp only [EV, seval]), by simp only [EV, seval, h3], by simp only [EV, seval, hh3], by rw [hb]; simp only [heirF, if_neg hup], hac', by omega, by omega, rfl⟩
      case start => exact ⟨b, b.toNat, (by simp only [EV, seval]), (by simp only [EV, seval]), (by simp only [EV, seval]), (by simp only [EV, seval]), hh, hanc, by have := anc_le hu hanc; omega, Nat.le_refl _, rfl⟩
      case rest =>
        rintro e st ⟨rfl, h2⟩
        simp -implicitDefEqProofs only [ZZ, seval, h2]
        exact endL_tmp (keep_none (by decide)) (.inl rfl) rfl (by simp only [EV, seval]) (.v _)
theorem k43 (ns : List Node) (hu : UpOk ns) (a b : Int) (st : St) (d : Option Nat) : callFn (callL Try.prog) 43 [.agg (cTree ⟨ns⟩), .v (.int .i64 a), .v (.int .i64 b)] st d = some { dst := d, val := .v (.int .i64 (heirV ns a b)) } := call_flat (flat3 (flatT _) (.v _) (.v _)) (c43 ns hu a b) (.v _)
end Go.Ab.Try
end
section
set_option linter.unusedSimpArgs false
set_option linter.unusedVariables false
set_option maxRecDepth 20000
namespace Go.Ab.Try
open Classical Go.Proofs Go.Ab
theorem mv_89 : Ext.mv 89 = true := rfl
theorem ev_call89 {call : Nat → List AV → Option AV} {ops : Array Oper} {st : St} {d : Option Nat} {T : Nat} {pos : String} {aft : Array Edge} (x : Operand) (ats : Array Nat) :
    evOp Try.prog call ops ⟨d, .call ⟨.value (.func 89), #[x], ats⟩, T, pos, aft, none⟩ st = bnd (callMv call 89 [st.ev x] st d) fun e => some (e.apply st) := ev_callM 89 #[x] ats mv_89
theorem ext89 (l : List Int) : callL Try.prog 89 [.uniq 3 1 l.length (csInt l)] = some (.tup [.uniq 3 1 l.length (csInt l.reverse)]) := by
  have h : (csInt l).reverse = csInt l.reverse := by rw [csInt_eq, csInt_eq, List.map_reverse]
  refine callL_ext Try.prog ?_
  show ext2 89 _ = _
  unfold ext2
  rw [if_pos rfl]
  dsimp only
  rw [if_pos ⟨rfl, rfl, l, rfl, rfl⟩, h]
theorem mv89 {st : St} {s k : Nat} {d : Option Nat} (l : List Int) (h : st.heap s k = some (.row 3 1 l.length (csInt l))) : callMv (callL Try.prog) 89 [.own s k] st d = some { dst := d, val := .tup [], upd := some (s, k, some (.row 3 1 l.length (csInt l.reverse))) } := by
  simp only [callMv, h]
  rw [if_pos ⟨flat_csInt l, by simp⟩, ext89]
/-- ancestry.Path -/
theorem c44 (ns : List Node) (hu : UpOk ns) (hr : (nd ns 0).up = -1) (hn : (ns.length : Int) < 1000000) (i : Int) (i0 : 0 ≤ i) (i1 : i < ns.length) : callL Try.prog 44 [.agg (cTree ⟨ns⟩), .v (.int .i64 i)] = some (.uniq 3 1 (path ns i).length (csInt (path ns i))) := by
  rw [callL_eq Try.prog Try.func44 rfl ok44 _ (ext_none _ (by decide)) rfl]
  simp -implicitDefEqProofs only [ZZ, seval]
  refine use_loop (fun n st => ∃ (c : Int) (l : List Int), st.env 1 = .v (.int .i64 c) ∧ st.env 2 = .ptr 2 0 0 ∧ st.heap 2 0 = some (.cells (cTree ⟨ns⟩)) ∧ path ns i = path ns c ++ l.reverse ∧ ((l = [] ∧ st.env 5 = .v (.slice none 0 0) ∧ c = i) ∨ ∃ g, st.env 5 = .own 12 g ∧ g < st.cnt 12 ∧ st.heap 12 g = some (.row 3 1 l.length (csInt l))) ∧ n = (c + 1).toNat ∧ -1 ≤ c ∧ c < ns.length)
    (fun e st => e = .exit 0 ∧ ∃ g, st.env 5 = .own 12 g ∧ st.heap 12 g = some (.row 3 1 (path ns i).reverse.length (csInt (path ns i).reverse))) (i + 1).toNat ?step ?start ?rest
  case step =>
    rintro n st ⟨c, l, h1, h2, hh2, hb, h5, hn', c0, c1⟩
    have hll : (l.length : Int) < 1000000 := by have := path_lt hu i; rw [hb] at this; simp at this; omega
    by_cases hv : 0 ≤ c
    · have hd : (decide (0 ≤ c) && decide (c < ns.length)) = true := by simp [hv, c1]
      have hup : (nd ns c).up < c ∧ -1 ≤ (nd ns c).up := by
        by_cases h0 : c = 0
        · subst h0; rw [hr]; omega
        · have := hu c (by omega) c1; omega
      have hp : path ns c = path ns (nd ns c).up ++ [c] := by
        by_cases h0 : c = 0
        · subst h0; rw [hr, path_none (i := -1) (by omega), path_zero (by omega)]; rfl
        · exact path_step hu (by omega) c1
      have hb' : path ns i = path ns (nd ns c).up ++ (l ++ [c]).reverse := by rw [hb, hp]; simp
      rcases h5 with ⟨rfl, h5, rfl⟩ | ⟨g, h5, hg, hh5⟩
      · refine go_on (st' := ?s1) ?h1 (((nd ns c).up + 1).toNat) (by omega) ?q1
        case h1 =>
          simp -implicitDefEqProofs only [ZZ, seval, h1, h2, hh2, h5, k88, hd, hv, c1]
          rfl
        case q1 => exact ⟨(nd ns c).up, [c], (by simp only [EV, seval]), by simp only [EV, seval, h2], by simp only [EV, seval, hh2], hb', .inr ⟨_, by simp only [EV, seval] <;> rfl, (by simp only [EV, seval] <;> omega), (by simp only [EV, seval] <;> rfl)⟩, rfl, by omega, by omega⟩
      · refine go_on (st' := ?s2) ?h2 (((nd ns c).up + 1).toNat) (by omega) ?q2
        case h2 =>
          simp -implicitDefEqProofs only [ZZ, seval, h1, h2, hh2, h5, hh5, hll, k88, hd, hv, c1]
          rfl
        case q2 => exact ⟨(nd ns c).up, l ++ [c], (by simp only [EV, seval]), by simp only [EV, seval, h2], by simp only [EV, seval, hh2], hb', .inr ⟨_, by simp only [EV, seval] <;> rfl, (by simp only [EV, seval] <;> omega), (by simp only [EV, seval] <;> rfl)⟩, rfl, by omega, by omega⟩
    · have hd : (decide (0 ≤ c) && decide (c < ns.length)) = false := by simp; intro h; omega
      have hp : path ns c = [] := path_none (by omega)
      rw [hp, List.nil_append] at hb
      rcases h5 with ⟨rfl, h5, rfl⟩ | ⟨g, h5, hg, hh5⟩
      · omega
      · have hl : (path ns i).reverse = l := by rw [hb, List.reverse_reverse]
        refine go_out (e := .exit 0) (st' := ?s3) ?h3 (by simp) ?q3
        case h3 =>
          simp -implicitDefEqProofs only [ZZ, seval, h1, h2, hh2, h5, hh5, k88, hd]
          rfl
        case q3 => exact ⟨rfl, g, by simp only [EV, seval, h5], by rw [hl]; simp only [EV, seval, hh5]⟩
  case start => exact ⟨i, [], (by simp only [EV, seval]), (by simp only [EV, seval]), (by simp only [EV, seval]), by simp, .inl ⟨rfl, (by simp only [EV, seval]), rfl⟩, rfl, by omega, i1⟩
  case rest =>
    rintro e st ⟨rfl, g, h5, hh5⟩
    simp -implicitDefEqProofs only [ZZ, seval, h5, hh5, ev_call89, mv89 (path ns i).reverse, List.reverse_reverse, List.length_reverse]
    exact endL_row (keep_none (by decide)) (.inl rfl) rfl (by simp only [EV, seval]; rfl) (by simp only [EV, seval]) (flat_csInt _)
theorem k44 (ns : List Node) (hu : UpOk ns) (hr : (nd ns 0).up = -1) (hn : (ns.length : Int) < 1000000) (i : Int) (i0 : 0 ≤ i) (i1 : i < ns.length) (st : St) (d : Nat) : callFn (callL Try.prog) 44 [.agg (cTree ⟨ns⟩), .v (.int .i64 i)] st (some d) = some { dst := some d, val := .own d (st.cnt d), new := some (d, [.row 3 1 (path ns i).length (csInt (path ns i))]) } := call_uniq (flat2 (flatT _) (.v _)) (c44 ns hu hr hn i i0 i1)
theorem ext89n : callL Try.prog 89 [.v (.slice none 0 0)] = some (.tup []) := by
  refine callL_ext Try.prog ?_
  show ext2 89 _ = _
  unfold ext2
  rw [if_pos rfl]
  rfl
theorem mv89n {st : St} {d : Option Nat} : callMv (callL Try.prog) 89 [.v (.slice none 0 0)] st d = some { dst := d, val := .tup [] } :=
  call_flat (flat1 (.v _)) ext89n (.tup _ (by simp))
theorem c44n (ns : List Node) (i : Int) (h : ¬ (0 ≤ i ∧ i < ns.length)) : callL Try.prog 44 [.agg (cTree ⟨ns⟩), .v (.int .i64 i)] = some (.v (.slice none 0 0)) := by
  rw [callL_eq Try.prog Try.func44 rfl ok44 _ (ext_none _ (by decide)) rfl]
  have hd : (decide (0 ≤ i) && decide (i < ns.length)) = false := by
    rw [← Bool.not_eq_true]; simpa using h
  simp -implicitDefEqProofs only [ZZ, seval, evL_loop, k88, hd, ev_call89, mv89n]
  exact endL_tmp (keep_none (by decide)) (.inl rfl) rfl (by simp only [EV, seval]) (.v _)
theorem k44n (ns : List Node) (i : Int) (h : ¬ (0 ≤ i ∧ i < ns.length)) (st : St) (d : Option Nat) : callFn (callL Try.prog) 44 [.agg (cTree ⟨ns⟩), .v (.int .i64 i)] st d = some { dst := d, val := .v (.slice none 0 0) } := call_flat (flat2 (flatT _) (.v _)) (c44n ns i h) (.v _)
end Go.Ab.Try
end
section
set_option linter.unusedSimpArgs false
set_option linter.unusedVariables false
set_option maxRecDepth 20000
set_option maxHeartbeats 4000000
namespace Go.Ab.Try
open Classical Go.Proofs Go.Ab
theorem flatNT4 : Flat (.agg [.v (.slice none 0 0)]) := .agg _ (by simp; exact .v _)
theorem and_bound (x m : Int) (hm : 0 ≤ m ∧ m < 9223372036854775808) : 0 ≤ IntKind.i64.wrap ↑(BitVec.ofInt IntKind.i64.bits x &&& BitVec.ofInt IntKind.i64.bits m).toNat ∧ IntKind.i64.wrap ↑(BitVec.ofInt IntKind.i64.bits x &&& BitVec.ofInt IntKind.i64.bits m).toNat ≤ m := by
  have h0 : (BitVec.ofInt IntKind.i64.bits x &&& BitVec.ofInt IntKind.i64.bits m).toNat ≤ (BitVec.ofInt IntKind.i64.bits m).toNat := by rw [BitVec.toNat_and]; exact Nat.and_le_right
  have hb : IntKind.i64.bits = 64 := rfl
  have h : (BitVec.ofInt IntKind.i64.bits (m : Int)).toNat = m.toNat := by
    rw [BitVec.toNat_ofInt, hb]
    omega
  rw [h] at h0
  rw [w64 _ (by omega) (by omega)]
  omega
theorem tdiv_bound {i n : Int} (h : 0 ≤ i) (hn : 0 < n) : 0 ≤ i.tdiv n ∧ i.tdiv n ≤ i := by
  rw [Int.tdiv_eq_ediv_of_nonneg h]
  exact ⟨Int.ediv_nonneg h (by omega), Int.ediv_le_self n h⟩
theorem tmod_bound {i n : Int} (h : 0 ≤ i) (hn : 0 < n) : 0 ≤ i.tmod n ∧ i.tmod n < n := by
  rw [Int.tmod_eq_emod_of_nonneg h]
  exact ⟨Int.emod_nonneg i (by omega), Int.emod_lt_of_pos i hn⟩
theorem fdiv_nn {i : Int} (h : 0 ≤ i) (s : Nat) : 0 ≤ i.fdiv (2 ^ s) := by
  have h2 : (0 : Int) ≤ 2 ^ s := Int.pow_nonneg (by decide)
  rw [Int.fdiv_eq_ediv_of_nonneg _ h2]
  exact Int.ediv_nonneg h h2

/-- forkheadbase.At -/
theorem x85 (l : List Int) (hl : (l.length : Int) ≤ 9223372036854775807) (i : Int) (i0 : 0 ≤ i) (i1 : i < 1000000) : ∃ k : Int, callL Try.prog 85 [.sl l.length (csInt l), .v (.int .i64 i)] = some (.v (.int .i64 k)) ∧ 0 ≤ k ∧ k ≤ 17777215 := by
  rw [callL_eq Try.prog Try.func85 rfl ok85 _ (ext_none _ (by decide)) rfl]
  by_cases h : (l.length : Int) = 0
  · have hq : ((l.length : Int) == 0) = true := by simp [h]
    simp -implicitDefEqProofs only [ZZ, seval, hq]
    obtain ⟨b1, b2⟩ := and_bound i 65535 (by decide)
    exact ⟨_, endL_tmp (keep_none (by decide)) (.inl rfl) rfl (by simp only [EV, seval] <;> rfl) (.v _), b1, by omega⟩
  · have hq : ((l.length : Int) == 0) = false := by rw [beq_eq_false_iff_ne]; exact h
    obtain ⟨m1, m2⟩ := tmod_bound (n := (l.length : Int)) i0 (by omega)
    obtain ⟨d1, d2⟩ := tdiv_bound (n := (l.length : Int)) i0 (by omega)
    simp -implicitDefEqProofs only [ZZ, seval, hq, h, m1, m2]
    obtain ⟨b1, b2⟩ := and_bound (it l (i.tmod ↑l.length)) 16777215 (by decide)
    refine ⟨_, endL_tmp (keep_none (by decide)) (.inl rfl) rfl (by simp only [EV, seval] <;> rfl) (.v _), ?_, ?_⟩
    all_goals
      rw [w64 (i.tdiv ↑l.length) (by omega) (by omega), w64 _ (by omega) (by omega)]
      omega
noncomputable def bAt (l : List Int) (i : Int) : Int := if h : ((l.length : Int) ≤ 9223372036854775807 ∧ 0 ≤ i ∧ i < 1000000) then Classical.choose (x85 l h.1 i h.2.1 h.2.2) else 0
theorem c85 (l : List Int) (hl : (l.length : Int) ≤ 9223372036854775807) (i : Int) (i0 : 0 ≤ i) (i1 : i < 1000000) : callL Try.prog 85 [.sl l.length (csInt l), .v (.int .i64 i)] = some (.v (.int .i64 (bAt l i))) ∧ 0 ≤ bAt l i ∧ bAt l i ≤ 17777215 := by
  have h : ((l.length : Int) ≤ 9223372036854775807 ∧ 0 ≤ i ∧ i < 1000000) := ⟨hl, i0, i1⟩
  unfold bAt
  rw [dif_pos h]
  exact Classical.choose_spec (x85 l h.1 i h.2.1 h.2.2)
theorem k85 (l : List Int) (hl : (l.length : Int) ≤ 9223372036854775807) (i : Int) (i0 : 0 ≤ i) (i1 : i < 1000000) (st : St) (d : Option Nat) : callFn (callL Try.prog) 85 [.sl l.length (csInt l), .v (.int .i64 i)] st d = some { dst := d, val := .v (.int .i64 (bAt l i)) } := call_flat (flat2 (flatSl l) (.v _)) (c85 l hl i i0 i1).1 (.v _)

/-- forkheadbase.Root -/
def mkRoot (n : Int) : Root := ((zRoot.set 0 (IntKind.u8.wrap n)).set 1 (IntKind.u8.wrap (n.fdiv (2 ^ min 8 IntKind.i64.bits)))).set 31 (IntKind.u8.wrap (IntKind.i64.wrap (n * 7)))
theorem c53 (n : Int) : callL Try.prog 53 [.v (.int .i64 n)] = some (.agg (cRoot (mkRoot n))) := by
  rw [callL_eq Try.prog Try.func53 rfl ok53 _ (ext_none _ (by decide)) rfl]
  simp -implicitDefEqProofs only [ZZ, seval, up_Root_at, Nat.reduceLT]
  exact endL_cell (keep_none (by decide)) (.inl rfl) rfl (by simp only [EV, seval]; rfl) (by simp -implicitDefEqProofs only [ZZ, seval]; rfl) (.agg _ (flat_cRoot _))
theorem k53 (n : Int) (st : St) (d : Option Nat) : callFn (callL Try.prog) 53 [.v (.int .i64 n)] st d = some { dst := d, val := .agg (cRoot (mkRoot n)) } := call_flat (flat1 (.v _)) (c53 n) (flatR _)

/-- ref11.New, blocktree.New -/
theorem c64 (b : Block) (s : Int) : callL Try.prog 64 [.agg (cBlock b), .v (.int .i64 s)] = some (.agg (cTree ⟨[⟨b, -1, s⟩]⟩)) := by
  rw [callL_eq Try.prog Try.func64 rfl ok64 _ (ext_none _ (by decide)) rfl]
  simp -implicitDefEqProofs only [ZZ, seval]
  exact endL_cellx (keep_none (by decide)) (.inl rfl) rfl (by simp only [EV, seval]; rfl) (by simp -implicitDefEqProofs only [ZZ, seval]; rfl) (by simp only [EV, seval, Option.map_some] <;> rfl)
theorem k64 (b : Block) (s : Int) (st : St) (d : Option Nat) : callFn (callL Try.prog) 64 [.agg (cBlock b), .v (.int .i64 s)] st d = some { dst := d, val := .agg (cTree ⟨[⟨b, -1, s⟩]⟩) } := call_flat (flat2 (flatB _) (.v _)) (c64 b s) (flatT _)
theorem c63 (b : Block) (s : Int) : callL Try.prog 63 [.agg (cBlock b), .v (.int .i64 s)] = some (.agg (cTree ⟨[⟨b, -1, s⟩]⟩)) := by
  rw [callL_eq Try.prog Try.func63 rfl ok63 _ (ext_none _ (by decide)) rfl]
  simp -implicitDefEqProofs only [ZZ, seval]
  exact endL_cellx (keep_none (by decide)) (.inl rfl) rfl (by simp only [EV, seval]; rfl) (by simp -implicitDefEqProofs only [ZZ, seval]; rfl) (by simp only [EV, seval, Option.map_some] <;> rfl)
theorem k63 (b : Block) (s : Int) (st : St) (d : Option Nat) : callFn (callL Try.prog) 63 [.agg (cBlock b), .v (.int .i64 s)] st d = some { dst := d, val := .agg (cTree ⟨[⟨b, -1, s⟩]⟩) } := call_flat (flat2 (flatB _) (.v _)) (c63 b s) (flatT _)
theorem k94 (i : Int) (st : St) (d : Option Nat) : callFn (callL Try.prog) 94 [.v (.int .i64 i)] st d = some { dst := d, val := .v (.bool (isSt i)) } := call_flat (flat1 (.v _)) (c94 i) (.v _)
theorem k90 (i : Int) (st : St) (d : Option Nat) : callFn (callL Try.prog) 90 [.v (.int .i64 i)] st d = some { dst := d, val := .v (.bool (isSt i)) } := call_flat (flat1 (.v _)) (c90 i) (.v _)
theorem k60 (ns : List Node) (r : Root) (hn : (ns.length : Int) < 1000000) (st : St) (d : Option Nat) : callFn (callL Try.prog) 60 [.agg (cTree ⟨ns⟩), .agg (cRoot r)] st d = some { dst := d, val := .v (.int .i64 (findR ns r)) } := call_flat (flat2 (flatT _) (flatR _)) (c60 ns r hn) (.v _)

/-- What an insertion answers: a tree, or an error. -/
noncomputable def insE (ns : List Node) (b : Block) (s : Int) : Int :=
  if isSt s = false then 2 else if 0 ≤ findR ns b.root then 9 else if findR ns b.parent < 0 then 10 else if b.slot ≤ (nd ns (findR ns b.parent)).block.slot then 14 else if 4096 ≤ (ns.length : Int) then 11 else 0
noncomputable def insA (ns : List Node) (b : Block) (s : Int) : AV :=
  if insE ns b s = 0 then .tup [.agg (cTree ⟨ns ++ [⟨b, findR ns b.parent, s⟩]⟩), .v (.int .i64 0)] else .tup [.agg [.v (.slice none 0 0)], .v (.int .i64 (insE ns b s))]
theorem findR_range (ns : List Node) (r : Root) : -1 ≤ findR ns r ∧ findR ns r < ns.length := by
  unfold findR
  cases h : ns.findIdx? (fun n => decide (n.block.root = r)) with
  | none => simp only; omega
  | some k =>
    have := (List.findIdx?_eq_some_iff_getElem.1 h).1
    simp only; omega
/-- ref11.Insert -/
theorem c66 (ns : List Node) (hn : (ns.length : Int) < 1000000) (b : Block) (s : Int) : callL Try.prog 66 [.agg (cTree ⟨ns⟩), .agg (cBlock b), .v (.int .i64 s)] = some (insA ns b s) := by
  rw [callL_eq Try.prog Try.func66 rfl ok66 _ (ext_none _ (by decide)) rfl]
  have hu := findR_range ns b.parent
  cases hs : isSt s
  · simp -implicitDefEqProofs only [ZZ, seval, k94, hs]
    rw [show insA ns b s = .tup [.agg [.v (.slice none 0 0)], .v (.int .i64 2)] from by simp [insA, insE, hs]]
    exact endL_two (keep_none (by decide)) (.inl rfl) rfl (by simp -implicitDefEqProofs only [resA, ZZ, seval]; rfl) (by simp only [resA, EV, seval] <;> rfl) (by simp only [EV, seval] <;> rfl) (by simp only [EV, seval] <;> rfl)
  by_cases h1 : 0 ≤ findR ns b.root
  · simp -implicitDefEqProofs only [ZZ, seval, k94, hs, k60, hn, h1]
    rw [show insA ns b s = .tup [.agg [.v (.slice none 0 0)], .v (.int .i64 9)] from by simp [insA, insE, hs, h1]]
    exact endL_two (keep_none (by decide)) (.inl rfl) rfl (by simp -implicitDefEqProofs only [resA, ZZ, seval]; rfl) (by simp only [resA, EV, seval] <;> rfl) (by simp only [EV, seval] <;> rfl) (by simp only [EV, seval] <;> rfl)
  by_cases h2 : findR ns b.parent < 0
  · simp -implicitDefEqProofs only [ZZ, seval, k94, hs, k60, hn, h1, h2]
    rw [show insA ns b s = .tup [.agg [.v (.slice none 0 0)], .v (.int .i64 10)] from by simp [insA, insE, hs, h1, h2]]
    exact endL_two (keep_none (by decide)) (.inl rfl) rfl (by simp -implicitDefEqProofs only [resA, ZZ, seval]; rfl) (by simp only [resA, EV, seval] <;> rfl) (by simp only [EV, seval] <;> rfl) (by simp only [EV, seval] <;> rfl)
  have u0 : 0 ≤ findR ns b.parent := by omega
  have u1 : findR ns b.parent < ns.length := hu.2
  by_cases h3 : b.slot ≤ (nd ns (findR ns b.parent)).block.slot
  · simp -implicitDefEqProofs only [ZZ, seval, k94, hs, k60, hn, h1, h2, u0, u1, h3]
    rw [show insA ns b s = .tup [.agg [.v (.slice none 0 0)], .v (.int .i64 14)] from by simp [insA, insE, hs, h1, h2, h3]]
    exact endL_two (keep_none (by decide)) (.inl rfl) rfl (by simp -implicitDefEqProofs only [resA, ZZ, seval]; rfl) (by simp only [resA, EV, seval] <;> rfl) (by simp only [EV, seval] <;> rfl) (by simp only [EV, seval] <;> rfl)
  by_cases h4 : 4096 ≤ (ns.length : Int)
  · simp -implicitDefEqProofs only [ZZ, seval, k94, hs, k60, hn, h1, h2, u0, u1, h3, h4]
    rw [show insA ns b s = .tup [.agg [.v (.slice none 0 0)], .v (.int .i64 11)] from by simp [insA, insE, hs, h1, h2, h3, h4]]
    exact endL_two (keep_none (by decide)) (.inl rfl) rfl (by simp -implicitDefEqProofs only [resA, ZZ, seval]; rfl) (by simp only [resA, EV, seval] <;> rfl) (by simp only [EV, seval] <;> rfl) (by simp only [EV, seval] <;> rfl)
  · simp -implicitDefEqProofs only [ZZ, seval, k94, hs, k60, hn, h1, h2, u0, u1, h3, h4]
    rw [show insA ns b s = .tup [.agg (cTree ⟨ns ++ [⟨b, findR ns b.parent, s⟩]⟩), .v (.int .i64 0)] from by simp [insA, insE, hs, h1, h2, h3, h4]]
    exact endL_two (keep_none (by decide)) (.inl rfl) rfl (by simp -implicitDefEqProofs only [resA, ZZ, seval]; rfl) (by simp only [resA, EV, seval] <;> rfl) (by simp only [EV, seval] <;> rfl) (by simp only [EV, seval] <;> rfl)
theorem flat_insA (ns : List Node) (b : Block) (s : Int) : Flat (insA ns b s) := by
  unfold insA
  split
  · exact .tup _ (flat2 (flatT _) (.v _))
  · exact .tup _ (flat2 flatNT4 (.v _))
theorem k66 (ns : List Node) (hn : (ns.length : Int) < 1000000) (b : Block) (s : Int) (st : St) (d : Option Nat) : callFn (callL Try.prog) 66 [.agg (cTree ⟨ns⟩), .agg (cBlock b), .v (.int .i64 s)] st d = some { dst := d, val := insA ns b s } := call_flat (flat3 (flatT _) (flatB _) (.v _)) (c66 ns hn b s) (flat_insA ns b s)
end Go.Ab.Try
end
section
set_option linter.unusedSimpArgs false
set_option linter.unusedVariables false
set_option maxRecDepth 20000
set_option maxHeartbeats 4000000
namespace Go.Ab
open Classical
theorem fill_go {place : Nat → Option (Nat × Nat)} {c : List AV} {i o s : Nat} {x : AV} {r : List (Nat × AV)} (hp : place i = some (o, s)) (h : x.cells.length = s ∧ o + s ≤ c.length) : fillA place c ((i, x) :: r) = fillA place (upd c o x.cells (o + s)) r := by
  simp only [fillA, hp]
  rw [if_pos h]
  rfl
theorem fill3 {Z a b c : List AV} (hZ : Z.length = 240) (ha : a.length = 240) (hb : b.length = 240) (hc : c.length = 240) :
    fillA (fun i => some (i * 240, 240)) ((List.range 3).flatMap fun _ => Z) [(0, .agg a), (1, .agg b), (2, .agg c)] = some (a ++ (b ++ c)) := by
  have e : ((List.range 3).flatMap fun _ => Z) = Z ++ (Z ++ Z) := by simp [List.range, List.range.loop]
  rw [e, fill_go (o := 0) (s := 240) (x := .agg a) rfl ⟨ha, by simp [hZ]⟩]
  rw [show upd (Z ++ (Z ++ Z)) 0 (AV.agg a).cells (0 + 240) = a ++ (Z ++ Z) from up_head hZ]
  rw [fill_go (o := 240) (s := 240) (x := .agg b) rfl ⟨hb, by simp [hZ, ha]⟩]
  rw [show upd (a ++ (Z ++ Z)) 240 (AV.agg b).cells (240 + 240) = a ++ (b ++ Z) from (up_skip (o := 0) (e := 240) (n := 240) (by omega) (by omega) ha).trans (by rw [show upd (Z ++ Z) 0 (AV.agg b).cells 240 = b ++ Z from up_head hZ])]
  rw [fill_go (o := 480) (s := 240) (x := .agg c) rfl ⟨hc, by simp [hZ, ha, hb]⟩]
  rw [show upd (a ++ (b ++ Z)) 480 (AV.agg c).cells (480 + 240) = a ++ (b ++ c) from (up_skip (o := 240) (e := 480) (n := 240) (by omega) (by omega) ha).trans (by rw [up_skip (o := 0) (e := 240) (n := 240) (by omega) (by omega) hb, show upd Z 0 (AV.agg c).cells 240 = c from up_last hZ])]
  rfl
namespace Try
open Go.Proofs
theorem ev_bs23_3 {call : Nat → List AV → Option AV} {ops : Array Oper} {st : St} {T : Nat} {pos : String} {aft : Array Edge} (d : Nat) (x y z : Operand) {a b c : List AV} (h1 : st.ev x = .agg a) (h2 : st.ev y = .agg b) (h3 : st.ev z = .agg c) (ha : a.length = 240) (hb : b.length = 240) (hc : c.length = 240) : evOp Try.prog call ops ⟨some d, .buildSlice 23 3 #[(0, x), (1, y), (2, z)], T, pos, aft, none⟩ st =
    some ((st.new d (.row 54 240 3 (a ++ (b ++ c)))).put (some d) (.own d (st.cnt d))) := by
  rw [ev_buildSlice]
  have hz : (vNode.map AV.v).length = 240 := by rw [vNode_c]; simp
  simp only [sl23, ze54, bnd, List.toList_toArray, List.all_cons, List.all_nil, h1, h2, h3, AV.stor, Bool.and_self, List.map_cons, List.map_nil, fill3 hz ha hb hc]
  rw [if_pos (by simp)]
theorem ev_bs23_3E {call : Nat → List AV → Option AV} {ops : Array Oper} {st : St} {T : Nat} {pos : String} {aft : Array Edge} (d : Nat) (x y z : Operand) : evOp Try.prog call ops ⟨some d, .buildSlice 23 3 #[(0, x), (1, y), (2, z)], T, pos, aft, none⟩ st =
    elAgg 240 (st.ev x) (fun a => elAgg 240 (st.ev y) (fun b => elAgg 240 (st.ev z) (fun c => some ((st.new d (.row 54 240 3 (a ++ (b ++ c)))).put (some d) (.own d (st.cnt d)))) (evOp Try.prog call ops ⟨some d, .buildSlice 23 3 #[(0, x), (1, y), (2, z)], T, pos, aft, none⟩ st))
      (evOp Try.prog call ops ⟨some d, .buildSlice 23 3 #[(0, x), (1, y), (2, z)], T, pos, aft, none⟩ st)) (evOp Try.prog call ops ⟨some d, .buildSlice 23 3 #[(0, x), (1, y), (2, z)], T, pos, aft, none⟩ st) := by
  unfold elAgg
  split
  · rename_i a h1
    split
    · rename_i ha
      try dsimp only
      split
      · rename_i b h2
        split
        · rename_i hb
          try dsimp only
          split
          · rename_i c h3
            split
            · rename_i hc; exact ev_bs23_3 d x y z h1 h2 h3 ha hb hc
            · rfl
          · rfl
        · rfl
      · rfl
    · rfl
  · rfl
theorem expoF_node3 (e sz : Nat) (a b c : Node) : expoF (some (.row e sz 3 (cNode a ++ (cNode b ++ cNode c)))) = some (.sl 3 (csNode [a, b, c])) := by
  have h : cNode a ++ (cNode b ++ cNode c) = csNode [a, b, c] := by simp [csNode]
  rw [h]
  exact expoF_node e sz 3 [a, b, c]
theorem q39 (args : List AV) (st : St) (d : Option Nat) : callFn (callL Try.prog) 39 args st d = callQ (callL Try.prog) 39 (optAll (args.map (expo st))) (decide (∀ x ∈ args, Flat x)) st d := callFn_Q _ _ _ _ _
theorem q42 (args : List AV) (st : St) (d : Option Nat) : callFn (callL Try.prog) 42 args st d = callQ (callL Try.prog) 42 (optAll (args.map (expo st))) (decide (∀ x ∈ args, Flat x)) st d := callFn_Q _ _ _ _ _
theorem q43 (args : List AV) (st : St) (d : Option Nat) : callFn (callL Try.prog) 43 args st d = callQ (callL Try.prog) 43 (optAll (args.map (expo st))) (decide (∀ x ∈ args, Flat x)) st d := callFn_Q _ _ _ _ _
theorem q44 (args : List AV) (st : St) (d : Option Nat) : callFn (callL Try.prog) 44 args st d = callQ (callL Try.prog) 44 (optAll (args.map (expo st))) (decide (∀ x ∈ args, Flat x)) st d := callFn_Q _ _ _ _ _
theorem k34M (l m : List Int) {n n' : Nat} (hl : l.length = n) (hm : m.length = n') (hn : (n : Int) < 1000000) (fl : Bool) (st : St) (d : Option Nat) : callQ (callL Try.prog) 34 (some [.sl n (csInt l), .sl n' (csInt m)]) fl st d = some { dst := d, val := .v (.bool (decide (l = m))) } := by
  subst hl; subst hm
  exact k34 l m hn fl st d
def bL (s : Int) (r p : Root) : Block := ⟨zBlock.pulled, s, r, p, zBlock.payload, zBlock.diff, zBlock.pdiff, zBlock.just, zBlock.fin, zBlock.timely⟩
def bW1 : Node := ⟨bL zBlock.slot (mkRoot 1) zBlock.parent, -1, zNode.status⟩
def bW2 : Node := ⟨bL 3 (mkRoot 2) (mkRoot 1), zNode.up, zNode.status⟩
def bW3 : Node := ⟨bL 5 (mkRoot 3) (mkRoot 2), 1, zNode.status⟩
theorem bUp : UpOk [bW1, bW2, bW3] := by
  intro i h0 h1
  have : i = 1 ∨ i = 2 := by simp at h1; omega
  rcases this with rfl | rfl <;> decide
theorem bPath0 : path [bW1, bW2, bW3] 0 = [0] := path_zero (by simp)
theorem bPath1 : path [bW1, bW2, bW3] 1 = [0, 1] := by rw [path_step bUp (by omega) (by simp)]; show path _ 0 ++ [1] = _; rw [bPath0]; rfl
theorem bPath2 : path [bW1, bW2, bW3] 2 = [0, 1, 2] := by rw [path_step bUp (by omega) (by simp)]; show path _ 1 ++ [2] = _; rw [bPath1]; rfl
theorem wAt : atV [bW1, bW2, bW3] 2 4 = 1 := by
  unfold atV; rw [bPath2]; decide
theorem bAnc : anc [bW1, bW2, bW3] 0 2 = true := by
  unfold anc; rw [bPath2]; decide
theorem bHeir : heirV [bW1, bW2, bW3] 0 2 = 1 := by
  unfold heirV
  rw [bAnc, if_neg (by decide)]
  decide
theorem w39 (fl : Bool) (st : St) (d : Option Nat) : callQ (callL Try.prog) 39 (some [.agg [.sl 3 (csNode [bW1, bW2, bW3])], .v (.int .i64 2), .v (.int .u64 4)]) fl st d = some { dst := d, val := .v (.int .i64 1) } := by
  have h := c39 [bW1, bW2, bW3] bUp rfl 2 4
  rw [wAt] at h
  exact Q_int h
theorem w43 (fl : Bool) (st : St) (d : Option Nat) : callQ (callL Try.prog) 43 (some [.agg [.sl 3 (csNode [bW1, bW2, bW3])], .v (.int .i64 0), .v (.int .i64 2)]) fl st d = some { dst := d, val := .v (.int .i64 1) } := by
  have h := c43 [bW1, bW2, bW3] bUp 0 2
  rw [bHeir] at h
  exact Q_int h
theorem w42 (fl : Bool) (st : St) (d : Option Nat) : callQ (callL Try.prog) 42 (some [.agg [.sl 3 (csNode [bW1, bW2, bW3])], .v (.int .i64 0), .v (.int .i64 2)]) fl st d = some { dst := d, val := .v (.bool true) } := by
  have h := c42 [bW1, bW2, bW3] bUp 0 2
  rw [bAnc] at h
  exact Q_bool h
theorem w44 (fl : Bool) (st : St) (d : Nat) : callQ (callL Try.prog) 44 (some [.agg [.sl 3 (csNode [bW1, bW2, bW3])], .v (.int .i64 2)]) fl st (some d) = some { dst := some d, val := .own d (st.cnt d), new := some (d, [.row 3 1 3 (csInt [0, 1, 2])]) } := by
  have h := c44 [bW1, bW2, bW3] bUp rfl (by decide) 2 (by decide) (by decide)
  rw [bPath2] at h
  exact Q_uniq h (mem_csInt _)
theorem c41 : callL Try.prog 41 [] = some (.v (.bool true)) := by
  rw [callL_eq Try.prog Try.func41 rfl ok41 _ (ext_none _ (by decide)) rfl]
  have h42 := w39
  have h45 := w42
  have h46 := w43
  have h47 := w44
  simp only [bW1, bW2, bW3, bL] at h42 h45 h46 h47
  simp -implicitDefEqProofs only [ZZ, seval, k53, ev_bs23_3E, expoF_node3, q39, q42, q43, q44, q34, h42, h45, h46, h47, k34M, Int.reduceLT, decide_true, beq_self_eq_true]
  exact endL_tmp (keep_none (by decide)) (.inl rfl) rfl (by simp only [EV, seval] <;> rfl) (.v _)
theorem k41 (st : St) (d : Option Nat) : callFn (callL Try.prog) 41 [] st d = some { dst := d, val := .v (.bool true) } := call_flat (by simp) c41 (.v _)
end Try
end Go.Ab
end
