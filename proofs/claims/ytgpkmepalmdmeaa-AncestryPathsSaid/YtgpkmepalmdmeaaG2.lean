/-
  Part G2 of the proof: what functions of this program compute.
-/
import Derived.Test.YtgpkmepalmdmeaaX5
import Derived.Test.YtgpkmepalmdmeaaG1
set_option linter.all false
set_option linter.unusedSimpArgs false
set_option linter.unusedVariables false
set_option maxRecDepth 20000
namespace Go.Ab.Try
open Classical Go.Proofs Go.Ab
theorem q84 (args : List AV) (st : St) (d : Option Nat) : callFn (callL Try.prog) 84 args st d = callQ (callL Try.prog) 84 (optAll (args.map (expo st))) (decide (∀ x ∈ args, Flat x)) st d := callFn_Q _ _ _ _ _
theorem q34 (args : List AV) (st : St) (d : Option Nat) : callFn (callL Try.prog) 34 args st d = callQ (callL Try.prog) 34 (optAll (args.map (expo st))) (decide (∀ x ∈ args, Flat x)) st d := callFn_Q _ _ _ _ _

/-- ref7.Has -/
theorem c84 (l : List Int) (a : Int) (hn : (l.length : Int) < 1000000) : callL Try.prog 84 [.sl l.length (csInt l), .v (.int .i64 a)] = some (.v (.bool (decide (a ∈ l)))) := by
  rw [callL_eq Try.prog Try.func84 rfl ok84 _ (ext_none _ (by decide)) rfl]
  simp -implicitDefEqProofs only [ZZ, seval]
  refine use_loop (fun n st => ∃ i : Int, st.env 0 = .sl l.length (csInt l) ∧ st.env 1 = .v (.int .i64 a) ∧ st.env 5 = .v (.int .i64 i) ∧ 0 ≤ i ∧ i ≤ l.length ∧ n = (l.length - i).toNat ∧ ∀ j, 0 ≤ j → j < i → it l j ≠ a)
    (fun e st => (e = .ret ∧ st.env 4 = .v (.bool (decide (a ∈ l)))) ∨ (e = .exit 0 ∧ decide (a ∈ l) = false)) l.length ?step ?start ?rest
  case step =>
    rintro n st ⟨i, h0, h1, h5, i0, i1, hn', hb⟩
    by_cases hlt : i < l.length
    · have hw : IntKind.i64.wrap (i + 1) = i + 1 := w64 _ (by omega) (by omega)
      obtain ⟨hi, he⟩ := it_get i0 hlt
      by_cases hr : it l i = a
      · have hm : decide (a ∈ l) = true := by rw [decide_eq_true_eq, ← hr, he]; exact List.getElem_mem hi
        have hbq : (it l i == a) = true := by simp [hr]
        refine go_out (e := .ret) (st' := ?s1) ?h1 (by simp) ?q1
        case h1 =>
          simp -implicitDefEqProofs only [ZZ, seval, h0, h1, h5, hlt, i0, hbq]
          rfl
        case q1 => exact .inl ⟨rfl, by simp only [EV, seval, hm]⟩
      · have hbq : (it l i == a) = false := by simp [hr]
        refine go_on (st' := ?s2) ?h2 ((l.length - (i + 1)).toNat) (by omega) ?q2
        case h2 =>
          simp -implicitDefEqProofs only [ZZ, seval, h0, h1, h5, hlt, i0, hbq, hw]
          rfl
        case q2 => exact ⟨i + 1, by simp only [EV, seval, h0], by simp only [EV, seval, h1], (by simp only [EV, seval]), by omega, by omega, rfl, fun j j0 j1 => by
          rcases Int.lt_or_eq_of_le (show j ≤ i by omega) with h | rfl
          · exact hb j j0 h
          · exact hr⟩
    · refine go_out (e := .exit 0) (st' := ?s3) ?h3 (by simp) ?q3
      case h3 =>
        simp -implicitDefEqProofs only [ZZ, seval, h0, h1, h5, hlt, i0]
        rfl
      case q3 => exact .inr ⟨rfl, by
        rw [decide_eq_false_iff_not]
        intro hm
        obtain ⟨j, hj, rfl⟩ := List.getElem_of_mem hm
        exact hb j (by omega) (by omega) (by simp [it, hj])⟩
  case start => exact ⟨0, (by simp only [EV, seval]), (by simp only [EV, seval]), (by simp only [EV, seval]), by omega, by omega, by omega, fun j _ _ => by omega⟩
  case rest =>
    rintro e st (⟨rfl, h⟩ | ⟨rfl, h⟩)
    · simp -implicitDefEqProofs only [ZZ, seval]
      exact endL_tmp (keep_none (by decide)) (.inl rfl) rfl h (.v _)
    · simp -implicitDefEqProofs only [ZZ, seval]
      exact endL_tmp (keep_none (by decide)) (.inl rfl) rfl (by simp only [EV, seval, h]) (.v _)
theorem c84n (a : Int) : callL Try.prog 84 [.v (.slice none 0 0), .v (.int .i64 a)] = some (.v (.bool false)) := by
  rw [callL_eq Try.prog Try.func84 rfl ok84 _ (ext_none _ (by decide)) rfl]
  simp -implicitDefEqProofs only [ZZ, seval, evL_loop, Int.natCast_zero, Int.lt_irrefl, decide_false]
  exact endL_tmp (keep_none (by decide)) (.inl rfl) rfl (by simp only [EV, seval]) (.v _)
theorem k84 (l : List Int) (a : Int) (hn : (l.length : Int) < 1000000) (fl : Bool) (st : St) (d : Option Nat) : callQ (callL Try.prog) 84 (some [.sl l.length (csInt l), .v (.int .i64 a)]) fl st d = some { dst := d, val := .v (.bool (decide (a ∈ l))) } := Q_bool (c84 l a hn)
theorem k84n (a : Int) (fl : Bool) (st : St) (d : Option Nat) : callQ (callL Try.prog) 84 (some [.v (.slice none 0 0), .v (.int .i64 a)]) fl st d = some { dst := d, val := .v (.bool false) } := Q_bool (c84n a)

/-- ref4.SameInts -/
theorem c34 (l m : List Int) (hn : (l.length : Int) < 1000000) : callL Try.prog 34 [.sl l.length (csInt l), .sl m.length (csInt m)] = some (.v (.bool (decide (l = m)))) := by
  rw [callL_eq Try.prog Try.func34 rfl ok34 _ (ext_none _ (by decide)) rfl]
  by_cases hlen : l.length = m.length
  · have hq : ((l.length : Int) != (m.length : Int)) = false := by simp [hlen]
    simp -implicitDefEqProofs only [ZZ, seval, hq]
    refine use_loop (fun n st => ∃ i : Int, st.env 0 = .sl l.length (csInt l) ∧ st.env 1 = .sl m.length (csInt m) ∧ st.env 5 = .v (.int .i64 i) ∧ 0 ≤ i ∧ i ≤ l.length ∧ n = (l.length - i).toNat ∧ ∀ j, 0 ≤ j → j < i → it l j = it m j)
      (fun e st => (e = .ret ∧ st.env 4 = .v (.bool (decide (l = m)))) ∨ (e = .exit 0 ∧ decide (l = m) = true)) l.length ?step ?start ?rest
    case step =>
      rintro n st ⟨i, h0, h1, h5, i0, i1, hn', hb⟩
      by_cases hlt : i < l.length
      · have hw : IntKind.i64.wrap (i + 1) = i + 1 := w64 _ (by omega) (by omega)
        have hlt' : i < m.length := by omega
        by_cases hr : it l i = it m i
        · have hbq : (it l i != it m i) = false := by simp [hr]
          refine go_on (st' := ?s4) ?h4 ((l.length - (i + 1)).toNat) (by omega) ?q4
          case h4 =>
            simp -implicitDefEqProofs only [ZZ, seval, h0, h1, h5, hlt, hlt', i0, hbq, hw]
            rfl
          case q4 => exact ⟨i + 1, by simp only [EV, seval, h0], by simp only [EV, seval, h1], (by simp only [EV, seval]), by omega, by omega, rfl, fun j j0 j1 => by
            rcases Int.lt_or_eq_of_le (show j ≤ i by omega) with h | rfl
            · exact hb j j0 h
            · exact hr⟩
        · have hbq : (it l i != it m i) = true := by simp [hr]
          have hd : decide (l = m) = false := by rw [decide_eq_false_iff_not]; intro h; exact hr (by rw [h])
          refine go_out (e := .ret) (st' := ?s5) ?h5 (by simp) ?q5
          case h5 =>
            simp -implicitDefEqProofs only [ZZ, seval, h0, h1, h5, hlt, hlt', i0, hbq]
            rfl
          case q5 => exact .inl ⟨rfl, by simp only [EV, seval, hd]⟩
      · refine go_out (e := .exit 0) (st' := ?s6) ?h6 (by simp) ?q6
        case h6 =>
          simp -implicitDefEqProofs only [ZZ, seval, h0, h1, h5, hlt, i0]
          rfl
        case q6 => exact .inr ⟨rfl, by
          rw [decide_eq_true_eq]
          apply List.ext_getElem hlen
          intro j h1 h2
          have := hb j (by omega) (by omega)
          simpa [it, h1, h2] using this⟩
    case start => exact ⟨0, (by simp only [EV, seval]), (by simp only [EV, seval]), (by simp only [EV, seval]), by omega, by omega, by omega, fun j _ _ => by omega⟩
    case rest =>
      rintro e st (⟨rfl, h⟩ | ⟨rfl, h⟩)
      · simp -implicitDefEqProofs only [ZZ, seval]
        exact endL_tmp (keep_none (by decide)) (.inl rfl) rfl h (.v _)
      · simp -implicitDefEqProofs only [ZZ, seval]
        exact endL_tmp (keep_none (by decide)) (.inl rfl) rfl (by simp only [EV, seval, h]) (.v _)
  · have hq : ((l.length : Int) != (m.length : Int)) = true := by simp; omega
    have hd : decide (l = m) = false := by rw [decide_eq_false_iff_not]; intro h; exact hlen (by rw [h])
    simp -implicitDefEqProofs only [ZZ, seval, hq]
    exact endL_tmp (keep_none (by decide)) (.inl rfl) rfl (by simp only [EV, seval, hd]) (.v _)
theorem c34n : callL Try.prog 34 [.v (.slice none 0 0), .v (.slice none 0 0)] = some (.v (.bool true)) := by
  rw [callL_eq Try.prog Try.func34 rfl ok34 _ (ext_none _ (by decide)) rfl]
  simp -implicitDefEqProofs only [ZZ, seval, evL_loop, Int.natCast_zero, Int.lt_irrefl, decide_false, bne_self_eq_false]
  exact endL_tmp (keep_none (by decide)) (.inl rfl) rfl (by simp only [EV, seval]) (.v _)
theorem k34 (l m : List Int) (hn : (l.length : Int) < 1000000) (fl : Bool) (st : St) (d : Option Nat) : callQ (callL Try.prog) 34 (some [.sl l.length (csInt l), .sl m.length (csInt m)]) fl st d = some { dst := d, val := .v (.bool (decide (l = m))) } := Q_bool (c34 l m hn)
theorem k34n (fl : Bool) (st : St) (d : Option Nat) : callQ (callL Try.prog) 34 (some [.v (.slice none 0 0), .v (.slice none 0 0)]) fl st d = some { dst := d, val := .v (.bool true) } := Q_bool c34n

/-- Trees in which every parent comes before its children. -/
def UpOk (ns : List Node) : Prop := ∀ i : Int, 0 < i → i < ns.length → 0 ≤ (nd ns i).up ∧ (nd ns i).up < i
def pathN (ns : List Node) : Nat → Int → List Int
  | 0, _ => []
  | f + 1, i => if i = 0 then [0] else pathN ns f (nd ns i).up ++ [i]
/-- The path from node 0. -/
def path (ns : List Node) (i : Int) : List Int := if 0 ≤ i ∧ i < ns.length then pathN ns (i.toNat + 1) i else []
theorem pathN_fuel {ns : List Node} (h : UpOk ns) : ∀ (f g : Nat) (i : Int), 0 ≤ i → i < ns.length → i.toNat < f → i.toNat < g → pathN ns f i = pathN ns g i
  | 0, _, i, _, _, h1, _ => by omega
  | f + 1, 0, i, _, _, _, h2 => by omega
  | f + 1, g + 1, i, i0, i1, h1, h2 => by
    simp only [pathN]
    by_cases hi : i = 0
    · rw [if_pos hi, if_pos hi]
    · obtain ⟨u0, u1⟩ := h i (by omega) i1
      rw [if_neg hi, if_neg hi, pathN_fuel h f g (nd ns i).up u0 (by omega) (by omega) (by omega)]
theorem path_zero {ns : List Node} (h : 0 < ns.length) : path ns 0 = [0] := by
  unfold path
  rw [if_pos ⟨by omega, by omega⟩]
  rfl
theorem path_step {ns : List Node} (h : UpOk ns) {i : Int} (i0 : 0 < i) (i1 : i < ns.length) : path ns i = path ns (nd ns i).up ++ [i] := by
  obtain ⟨u0, u1⟩ := h i i0 i1
  unfold path
  rw [if_pos ⟨by omega, i1⟩, if_pos ⟨u0, by omega⟩]
  show pathN ns (i.toNat + 1) i = _
  rw [pathN, if_neg (by omega)]
  rw [pathN_fuel h i.toNat ((nd ns i).up.toNat + 1) (nd ns i).up u0 (by omega) (by omega) (by omega)]
theorem path_none {ns : List Node} {i : Int} (h : ¬ (0 ≤ i ∧ i < ns.length)) : path ns i = [] := if_neg h
theorem path_len {ns : List Node} (h : UpOk ns) : ∀ (k : Nat) (i : Int), i.toNat = k → 0 ≤ i → i < ns.length → (path ns i).length ≤ i + 1 := by
  intro k
  induction k using Nat.strongRecOn with
  | _ k ih =>
    intro i hk i0 i1
    by_cases hi : i = 0
    · subst hi; rw [path_zero (by omega)]; simp
    · obtain ⟨u0, u1⟩ := h i (by omega) i1
      rw [path_step h (by omega) i1]
      have := ih (nd ns i).up.toNat (by omega) _ rfl u0 (by omega)
      simp only [List.length_append, List.length_singleton]
      omega
theorem path_lt {ns : List Node} (h : UpOk ns) (i : Int) : ((path ns i).length : Int) ≤ ns.length := by
  by_cases hi : 0 ≤ i ∧ i < ns.length
  · have := path_len h _ i rfl hi.1 hi.2; omega
  · rw [path_none hi]; simp

/-- ref11.Path -/
theorem c45n (ns : List Node) (i : Int) (h : ¬ (0 ≤ i ∧ i < ns.length)) : callL Try.prog 45 [.agg (cTree ⟨ns⟩), .v (.int .i64 i)] = some (.v (.slice none 0 0)) := by
  rw [callL_eq Try.prog Try.func45 rfl ok45 _ (ext_none _ (by decide)) rfl]
  have hd : (decide (0 ≤ i) && decide (i < ns.length)) = false := by
    rw [← Bool.not_eq_true]; simpa using h
  simp -implicitDefEqProofs only [ZZ, seval, k86, hd]
  exact endL_tmp (keep_none (by decide)) (.inl rfl) rfl (by simp only [EV, seval]) (.v _)
theorem c45 (ns : List Node) (hu : UpOk ns) (hn : (ns.length : Int) < 1000000) : ∀ (k : Nat) (i : Int), i.toNat = k → 0 ≤ i → i < ns.length → callL Try.prog 45 [.agg (cTree ⟨ns⟩), .v (.int .i64 i)] = some (.uniq 3 1 (path ns i).length (csInt (path ns i))) := by
  intro k
  induction k using Nat.strongRecOn with
  | _ k ih =>
    intro i hk i0 i1
    have hd : (decide (0 ≤ i) && decide (i < ns.length)) = true := by simp [i0, i1]
    rw [callL_eq Try.prog Try.func45 rfl ok45 _ (ext_none _ (by decide)) rfl]
    by_cases hi : i = 0
    · subst hi
      simp -implicitDefEqProofs only [ZZ, seval, k86, hd, i1, beq_self_eq_true]
      exact endL_row (keep_none (by decide)) (.inl rfl) rfl (by simp only [EV, seval]; rfl) (by simp only [EV, seval, path_zero (show 0 < ns.length by omega)]; rfl) (flat_csInt _)
    · obtain ⟨u0, u1⟩ := hu i (by omega) i1
      have hq : (i == 0) = false := by simp [hi]
      have hr := ih (nd ns i).up.toNat (by omega) _ rfl u0 (by omega)
      have hc : ∀ (st : St) (d : Nat), callFn (callL Try.prog) 45 [.agg (cTree ⟨ns⟩), .v (.int .i64 (nd ns i).up)] st (some d) = some { dst := some d, val := .own d (st.cnt d), new := some (d, [.row 3 1 (path ns (nd ns i).up).length (csInt (path ns (nd ns i).up))]) } := fun st d => call_uniq (flat2 (flatT _) (.v _)) hr
      have hl : ((path ns (nd ns i).up).length : Int) < 1000000 := by have := path_lt hu (nd ns i).up; omega
      simp -implicitDefEqProofs only [ZZ, seval, k86, hd, hq, i0, i1, hc, hl]
      exact endL_row (keep_none (by decide)) (.inl rfl) rfl (by simp only [EV, seval]; rfl) (by simp only [EV, seval, path_step hu (show 0 < i by omega) i1]) (flat_csInt _)
theorem k45 (ns : List Node) (hu : UpOk ns) (hn : (ns.length : Int) < 1000000) (i : Int) (i0 : 0 ≤ i) (i1 : i < ns.length) (st : St) (d : Nat) : callFn (callL Try.prog) 45 [.agg (cTree ⟨ns⟩), .v (.int .i64 i)] st (some d) = some { dst := some d, val := .own d (st.cnt d), new := some (d, [.row 3 1 (path ns i).length (csInt (path ns i))]) } := call_uniq (flat2 (flatT _) (.v _)) (c45 ns hu hn _ i rfl i0 i1)
theorem k45n (ns : List Node) (i : Int) (h : ¬ (0 ≤ i ∧ i < ns.length)) (st : St) (d : Option Nat) : callFn (callL Try.prog) 45 [.agg (cTree ⟨ns⟩), .v (.int .i64 i)] st d = some { dst := d, val := .v (.slice none 0 0) } := call_flat (flat2 (flatT _) (.v _)) (c45n ns i h) (.v _)

/-- ref11.IsAncestor -/
def anc (ns : List Node) (a b : Int) : Bool := decide (a ∈ path ns b)
theorem c46 (ns : List Node) (hu : UpOk ns) (hn : (ns.length : Int) < 1000000) (a b : Int) : callL Try.prog 46 [.agg (cTree ⟨ns⟩), .v (.int .i64 a), .v (.int .i64 b)] = some (.v (.bool (anc ns a b))) := by
  rw [callL_eq Try.prog Try.func46 rfl ok46 _ (ext_none _ (by decide)) rfl]
  by_cases hb : 0 ≤ b ∧ b < ns.length
  · have hl : ((path ns b).length : Int) < 1000000 := by have := path_lt hu b; omega
    simp -implicitDefEqProofs only [ZZ, seval, k45 ns hu hn b hb.1 hb.2, q84, k84, hl]
    exact endL_tmp (keep_none (by decide)) (.inl rfl) rfl (by simp only [EV, seval, anc]) (.v _)
  · simp -implicitDefEqProofs only [ZZ, seval, k45n ns b hb, q84, k84n]
    exact endL_tmp (keep_none (by decide)) (.inl rfl) rfl (by simp only [EV, seval, anc, path_none hb, List.not_mem_nil, decide_false]) (.v _)
theorem k46 (ns : List Node) (hu : UpOk ns) (hn : (ns.length : Int) < 1000000) (a b : Int) (st : St) (d : Option Nat) : callFn (callL Try.prog) 46 [.agg (cTree ⟨ns⟩), .v (.int .i64 a), .v (.int .i64 b)] st d = some { dst := d, val := .v (.bool (anc ns a b)) } := call_flat (flat3 (flatT _) (.v _) (.v _)) (c46 ns hu hn a b) (.v _)
end Go.Ab.Try
