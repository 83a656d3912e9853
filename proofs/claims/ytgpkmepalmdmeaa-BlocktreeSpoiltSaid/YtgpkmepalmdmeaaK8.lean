/-
  Part K8 of the proof: several texts of the evaluator and of what functions of this program compute.
-/
import Derived.Test.YtgpkmepalmdmeaaK6
import Derived.Test.YtgpkmepalmdmeaaK7
set_option linter.all false
section
set_option linter.unusedSimpArgs false
set_option linter.unusedVariables false
set_option maxRecDepth 20000
set_option maxHeartbeats 4000000
namespace Go.Ab.Try
open Classical Go.Proofs Go.Ab
/-- ref11.Same -/
theorem c33 (a b : List Node) (hn : (a.length : Int) < 1000000) : callL Try.prog 33 [.agg (cTree ⟨a⟩), .agg (cTree ⟨b⟩)] = some (.v (.bool (decide (a = b)))) := by
  rw [callL_eq Try.prog Try.func33 rfl ok33 _ (ext_none _ (by decide)) rfl]
  by_cases hlen : a.length = b.length
  · have hq : ((a.length : Int) != (b.length : Int)) = false := by simp [hlen]
    simp -implicitDefEqProofs only [ZZ, seval, hq]
    refine use_loop (fun n st => ∃ i : Int, st.env 2 = .ptr 2 0 0 ∧ st.env 3 = .ptr 3 0 0 ∧ st.heap 2 0 = some (.cells (cTree ⟨a⟩)) ∧ st.heap 3 0 = some (.cells (cTree ⟨b⟩)) ∧ st.env 5 = .v (.int .i64 i) ∧ 0 ≤ i ∧ i ≤ a.length ∧ n = (a.length - i).toNat ∧ ∀ j, 0 ≤ j → j < i → nd a j = nd b j)
      (fun e st => (e = .ret ∧ st.env 4 = .v (.bool (decide (a = b)))) ∨ (e = .exit 0 ∧ decide (a = b) = true)) a.length ?step ?start ?rest
    case step =>
      rintro n st ⟨i, h2, h3, hh2, hh3, h5, i0, i1, hn', hb⟩
      by_cases hlt : i < a.length
      · have hw : IntKind.i64.wrap (i + 1) = i + 1 := w64 _ (by omega) (by omega)
        have hlt' : i < b.length := by omega
        by_cases hr : nd a i = nd b i
        · have hbq : decide (nd a i = nd b i) = true := by simp [hr]
          refine go_on (st' := ?s1) ?h1 ((a.length - (i + 1)).toNat) (by omega) ?q1
          case h1 =>
            simp -implicitDefEqProofs only [ZZ, seval, h2, h3, hh2, hh3, h5, hlt, hlt', i0, hbq, hw]
            rfl
          case q1 => exact ⟨i + 1, by simp only [EV, seval, h2], by simp only [EV, seval, h3], by simp only [EV, seval, hh2], by simp only [EV, seval, hh3], (by simp only [EV, seval]), by omega, by omega, rfl, fun j j0 j1 => by
            rcases Int.lt_or_eq_of_le (show j ≤ i by omega) with h | rfl
            · exact hb j j0 h
            · exact hr⟩
        · have hbq : decide (nd a i = nd b i) = false := by simp [hr]
          have hd : decide (a = b) = false := by rw [decide_eq_false_iff_not]; intro h; exact hr (by rw [h])
          refine go_out (e := .ret) (st' := ?s2) ?h2 (by simp) ?q2
          case h2 =>
            simp -implicitDefEqProofs only [ZZ, seval, h2, h3, hh2, hh3, h5, hlt, hlt', i0, hbq]
            rfl
          case q2 => exact .inl ⟨rfl, by simp only [EV, seval, hd]⟩
      · refine go_out (e := .exit 0) (st' := ?s3) ?h3 (by simp) ?q3
        case h3 =>
          simp -implicitDefEqProofs only [ZZ, seval, h2, h3, hh2, hh3, h5, hlt, i0]
          rfl
        case q3 => exact .inr ⟨rfl, by
          rw [decide_eq_true_eq]
          apply List.ext_getElem hlen
          intro j h1 h2
          have := hb j (by omega) (by omega)
          simpa [nd, h1, h2] using this⟩
    case start => exact ⟨0, (by simp only [EV, seval]), (by simp only [EV, seval]), (by simp only [EV, seval]), (by simp only [EV, seval]), (by simp only [EV, seval]), by omega, by omega, by omega, fun j _ _ => by omega⟩
    case rest =>
      rintro e st (⟨rfl, h⟩ | ⟨rfl, h⟩)
      · simp -implicitDefEqProofs only [ZZ, seval]
        exact endL_tmp (keep_none (by decide)) (.inl rfl) rfl h (.v _)
      · simp -implicitDefEqProofs only [ZZ, seval]
        exact endL_tmp (keep_none (by decide)) (.inl rfl) rfl (by simp only [EV, seval, h]) (.v _)
  · have hq : ((a.length : Int) != (b.length : Int)) = true := by simp; omega
    have hd : decide (a = b) = false := by rw [decide_eq_false_iff_not]; intro h; exact hlen (by rw [h])
    simp -implicitDefEqProofs only [ZZ, seval, hq]
    exact endL_tmp (keep_none (by decide)) (.inl rfl) rfl (by simp only [EV, seval, hd]) (.v _)
theorem flatNT : Flat (.agg [.v (.slice none 0 0)]) := .agg _ (by simp; exact .v _)
theorem c33n : callL Try.prog 33 [.agg [.v (.slice none 0 0)], .agg [.v (.slice none 0 0)]] = some (.v (.bool true)) := by
  rw [callL_eq Try.prog Try.func33 rfl ok33 _ (ext_none _ (by decide)) rfl]
  simp -implicitDefEqProofs only [ZZ, seval, evL_loop, Int.natCast_zero, Int.lt_irrefl, decide_false, bne_self_eq_false]
  exact endL_tmp (keep_none (by decide)) (.inl rfl) rfl (by simp only [EV, seval]) (.v _)
theorem k33 (a b : List Node) (hn : (a.length : Int) < 1000000) (st : St) (d : Option Nat) : callFn (callL Try.prog) 33 [.agg (cTree ⟨a⟩), .agg (cTree ⟨b⟩)] st d = some { dst := d, val := .v (.bool (decide (a = b))) } := call_flat (flat2 (flatT _) (flatT _)) (c33 a b hn) (.v _)
theorem k33n (st : St) (d : Option Nat) : callFn (callL Try.prog) 33 [.agg [.v (.slice none 0 0)], .agg [.v (.slice none 0 0)]] st d = some { dst := d, val := .v (.bool true) } := call_flat (flat2 flatNT flatNT) c33n (.v _)

/-- What pruning makes of the first k nodes: the nodes kept, and the index. -/
def prF (ns : List Node) (i : Int) : Nat → List Node × List Int
  | 0 => ([], [])
  | k + 1 =>
    let p := prF ns i k
    if anc ns i k = true then (p.1 ++ [{ nd ns k with up := if (k : Int) = i then -1 else it p.2 (nd ns k).up }], p.2 ++ [(p.1.length : Int)]) else (p.1, p.2 ++ [-1])
theorem prF_idx (ns : List Node) (i : Int) : ∀ k, (prF ns i k).2.length = k
  | 0 => rfl
  | k + 1 => by
    have := prF_idx ns i k
    simp only [prF]
    split <;> simp [this]
theorem prF_nodes (ns : List Node) (i : Int) : ∀ k, (prF ns i k).1.length ≤ k
  | 0 => Nat.le_refl _
  | k + 1 => by
    have := prF_nodes ns i k
    simp only [prF]
    split
    · simp; exact this
    · simp; omega
theorem it_app_lt {l m : List Int} {j : Int} (h0 : 0 ≤ j) (h1 : j < l.length) : it (l ++ m) j = it l j := by
  have : j.toNat < l.length := by omega
  simp [it, List.getElem?_append_left this]
theorem it_app_eq {l : List Int} {x : Int} {j : Int} (h : j = l.length) : it (l ++ [x]) j = x := by
  subst h
  simp [it]
theorem nd_app_lt {l m : List Node} {j : Int} (h0 : 0 ≤ j) (h1 : j < l.length) : nd (l ++ m) j = nd l j := by
  have : j.toNat < l.length := by omega
  simp [nd, List.getElem?_append_left this]
theorem nd_app_eq {l : List Node} {x : Node} {j : Int} (h : j = l.length) : nd (l ++ [x]) j = x := by
  subst h
  simp [nd]
/-- The index is not negative exactly at the descendants. -/
theorem prF_sign (ns : List Node) (i : Int) : ∀ (k : Nat) (j : Int), 0 ≤ j → j < k → (0 ≤ it (prF ns i k).2 j ↔ anc ns i j = true)
  | 0, j, _, h => by omega
  | k + 1, j, h0, h1 => by
    have hl := prF_idx ns i k
    by_cases hj : j < k
    · have ih := prF_sign ns i k j h0 hj
      simp only [prF]
      split
      · simp only; rw [it_app_lt h0 (by omega)]; exact ih
      · simp only; rw [it_app_lt h0 (by omega)]; exact ih
    · have hjk : j = k := by omega
      subst hjk
      simp only [prF]
      split
      · rename_i h
        simp only; rw [it_app_eq (by omega)]; simp [h]
      · rename_i h
        simp only; rw [it_app_eq (by omega)]; simp [h]
theorem anc_self {ns : List Node} (hu : UpOk ns) {i : Int} (i0 : 0 ≤ i) (i1 : i < ns.length) : anc ns i i = true := by
  unfold anc
  rw [decide_eq_true_eq]
  by_cases h : i = 0
  · subst h; rw [path_zero (by omega)]; simp
  · rw [path_step hu (by omega) i1]; simp
theorem anc_step {ns : List Node} (hu : UpOk ns) {a i : Int} (i0 : 0 < i) (i1 : i < ns.length) (h : a ≠ i) : anc ns a i = anc ns a (nd ns i).up := by
  unfold anc
  rw [path_step hu i0 i1]
  simp [h]
theorem anc_zero {ns : List Node} {a : Int} (h : 0 < ns.length) : anc ns a 0 = decide (a = 0) := by
  unfold anc
  rw [path_zero h]
  simp

theorem prF_ne (ns : List Node) (hu : UpOk ns) {i : Int} (i0 : 0 ≤ i) (i1 : i < ns.length) : (prF ns i ns.length).1 ≠ [] := by
  have main : ∀ k : Nat, i < k → k ≤ ns.length → (prF ns i k).1 ≠ [] := by
    intro k
    induction k with
    | zero => intro h; omega
    | succ k ih =>
      intro h1 h2
      by_cases hk : i < k
      · have := ih hk (by omega)
        simp only [prF]
        split
        · simp
        · exact this
      · have hki : i = k := by omega
        have : anc ns i k = true := by rw [← hki]; exact anc_self hu i0 i1
        simp [prF, this]
  exact main ns.length i1 (Nat.le_refl _)

/-- A variable of []int or []Node, nil or a row of the call's own. -/
def RowI (st : St) (s1 s2 : Nat) (y : AV) (l : List Int) : Prop :=
  (y = .v (.slice none 0 0) ∧ l = []) ∨ (∃ g, y = .own s1 g ∧ g < st.cnt s1 ∧ st.heap s1 g = some (.row 3 1 l.length (csInt l))) ∨ (∃ g, y = .own s2 g ∧ g < st.cnt s2 ∧ st.heap s2 g = some (.row 3 1 l.length (csInt l)))
def RowN (st : St) (s1 : Nat) (x : AV) (l : List Node) : Prop :=
  (x = .v (.slice none 0 0) ∧ l = []) ∨ (∃ g, x = .own s1 g ∧ g < st.cnt s1 ∧ st.heap s1 g = some (.row 54 240 l.length (csNode l)))
/-- ref11.Prune -/
theorem c32 (ns : List Node) (hu : UpOk ns) (hn : (ns.length : Int) < 1000000) (i : Int) (i0 : 0 ≤ i) (i1 : i < ns.length) : callL Try.prog 32 [.agg (cTree ⟨ns⟩), .v (.int .i64 i)] =
    some (.tup [.agg (cTree ⟨(prF ns i ns.length).1⟩), .sl (prF ns i ns.length).2.length (csInt (prF ns i ns.length).2), .v (.int .i64 0)]) := by
  have hd : (decide (0 ≤ i) && decide (i < ns.length)) = true := by simp [i0, i1]
  rw [callL_eq Try.prog Try.func32 rfl ok32 _ (ext_none _ (by decide)) rfl]
  simp -implicitDefEqProofs only [ZZ, seval, k86, hd]
  refine use_loop (fun n st => ∃ (k : Nat) (x y : AV), st.env 2 = .ptr 2 0 0 ∧ st.heap 2 0 = some (.cells (cTree ⟨ns⟩)) ∧ st.env 4 = .ptr 4 0 0 ∧ st.heap 4 0 = some (.cells [.v (.slice none 0 0)]) ∧ st.env 7 = .ptr 7 0 0 ∧ st.heap 7 0 = some (.cells [x]) ∧
      st.env 1 = .v (.int .i64 i) ∧ st.env 9 = .v (.int .i64 k) ∧ k ≤ ns.length ∧ n = ns.length - k ∧ st.env 8 = y ∧ RowI st 30 51 y (prF ns i k).2 ∧ RowN st 56 x (prF ns i k).1)
    (fun e st => e = .exit 0 ∧ ∃ (x y : AV), st.env 4 = .ptr 4 0 0 ∧ st.heap 4 0 = some (.cells [.v (.slice none 0 0)]) ∧ st.env 7 = .ptr 7 0 0 ∧ st.heap 7 0 = some (.cells [x]) ∧ st.env 8 = y ∧ RowI st 30 51 y (prF ns i ns.length).2 ∧ RowN st 56 x (prF ns i ns.length).1) ns.length ?step ?start ?rest
  case step =>
    rintro n st ⟨k, x, y, h2, hh2, h4, hh4, h7, hh7, h1, h9, hk, hn', h8, hy, hx⟩
    have hlen := prF_idx ns i k
    have hlen2 := prF_nodes ns i k
    have hl1 : ((prF ns i k).2.length : Int) < 1000000 := by omega
    have hl2 : ((prF ns i k).1.length : Int) < 1000000 := by omega
    by_cases hlt : (k : Int) < ns.length
    · have hw : IntKind.i64.wrap ((k : Int) + 1) = ((k + 1 : Nat) : Int) := by rw [w64 _ (by omega) (by omega)]; simp
      have k0 : (0 : Int) ≤ k := by omega
      by_cases hanc : anc ns i k = true
      · have hs : prF ns i (k + 1) = ((prF ns i k).1 ++ [{ nd ns k with up := if (k : Int) = i then -1 else it (prF ns i k).2 (nd ns k).up }], (prF ns i k).2 ++ [((prF ns i k).1.length : Int)]) := by simp only [prF, hanc, if_true]
        have upb : (k : Int) ≠ i → 0 ≤ (nd ns k).up ∧ (nd ns k).up < (prF ns i k).2.length := fun hne => by
          rcases Nat.eq_zero_or_pos k with h0 | h0
          · subst h0
            rw [show ((0 : Nat) : Int) = 0 from rfl, anc_zero (by omega)] at hanc
            simp at hanc
            omega
          · have := hu k (by omega) hlt
            rw [hlen]; omega
        by_cases hki : (k : Int) = i
        · have hq : ((k : Int) == i) = true := by simp [hki]
          rw [if_pos hki] at hs
          rcases hy with ⟨rfl, hy⟩ | ⟨g, rfl, hg, hy⟩ | ⟨g, rfl, hg, hy⟩ <;> rcases hx with ⟨rfl, hx⟩ | ⟨g', rfl, hg', hx⟩
          · rw [hy, hx] at hs
            refine go_on (st' := ?s4) ?h4 ((ns.length - (k + 1))) (by omega) ?q4
            case h4 =>
              simp -implicitDefEqProofs only [ZZ, seval, h2, hh2, h4, hh4, h7, hh7, h1, h9, h8, hlt, k0, k46 ns hu hn, hanc, hw, hq]
              rfl
            case q4 => exact ⟨k + 1, _, _, (by simp only [EV, seval, h2]), (by simp only [EV, seval, hh2]), (by simp only [EV, seval, h4]), (by simp only [EV, seval, hh4]), (by simp only [EV, seval, h7]), (by simp only [EV, seval]; rfl), (by simp only [EV, seval, h1]), (by simp only [EV, seval]), by omega, by omega, (by simp only [EV, seval]; rfl), (by rw [hs]; (try simp only [List.nil_append]); exact .inr (.inr ⟨_, rfl, (by simp only [EV, seval] <;> omega), (by simp only [EV, seval] <;> rfl)⟩)), (by rw [hs]; (try simp only [List.nil_append]); exact .inr ⟨_, rfl, (by simp only [EV, seval] <;> omega), (by simp only [EV, seval] <;> rfl)⟩)⟩
          · rw [hy] at hs
            refine go_on (st' := ?s5) ?h5 ((ns.length - (k + 1))) (by omega) ?q5
            case h5 =>
              simp -implicitDefEqProofs only [ZZ, seval, h2, hh2, h4, hh4, h7, hh7, h1, h9, h8, hlt, k0, k46 ns hu hn, hanc, hw, hq, hx, hl2]
              rfl
            case q5 => exact ⟨k + 1, _, _, (by simp only [EV, seval, h2]), (by simp only [EV, seval, hh2]), (by simp only [EV, seval, h4]), (by simp only [EV, seval, hh4]), (by simp only [EV, seval, h7]), (by simp only [EV, seval]; rfl), (by simp only [EV, seval, h1]), (by simp only [EV, seval]), by omega, by omega, (by simp only [EV, seval]; rfl), (by rw [hs]; (try simp only [List.nil_append]); exact .inr (.inr ⟨_, rfl, (by simp only [EV, seval] <;> omega), (by simp only [EV, seval] <;> rfl)⟩)), (by rw [hs]; (try simp only [List.nil_append]); exact .inr ⟨_, rfl, (by simp only [EV, seval] <;> omega), (by simp only [EV, seval] <;> rfl)⟩)⟩
          · rw [hx] at hs
            refine go_on (st' := ?s6) ?h6 ((ns.length - (k + 1))) (by omega) ?q6
            case h6 =>
              simp -implicitDefEqProofs only [ZZ, seval, h2, hh2, h4, hh4, h7, hh7, h1, h9, h8, hlt, k0, k46 ns hu hn, hanc, hw, hq, hy, hl1]
              rfl
            case q6 => exact ⟨k + 1, _, _, (by simp only [EV, seval, h2]), (by simp only [EV, seval, hh2]), (by simp only [EV, seval, h4]), (by simp only [EV, seval, hh4]), (by simp only [EV, seval, h7]), (by simp only [EV, seval]; rfl), (by simp only [EV, seval, h1]), (by simp only [EV, seval]), by omega, by omega, (by simp only [EV, seval]; rfl), (by rw [hs]; (try simp only [List.nil_append]); exact .inr (.inr ⟨_, rfl, (by simp only [EV, seval] <;> omega), (by simp only [EV, seval] <;> rfl)⟩)), (by rw [hs]; (try simp only [List.nil_append]); exact .inr ⟨_, rfl, (by simp only [EV, seval] <;> omega), (by simp only [EV, seval] <;> rfl)⟩)⟩
          · refine go_on (st' := ?s7) ?h7 ((ns.length - (k + 1))) (by omega) ?q7
            case h7 =>
              simp -implicitDefEqProofs only [ZZ, seval, h2, hh2, h4, hh4, h7, hh7, h1, h9, h8, hlt, k0, k46 ns hu hn, hanc, hw, hq, hy, hl1, hx, hl2]
              rfl
            case q7 => exact ⟨k + 1, _, _, (by simp only [EV, seval, h2]), (by simp only [EV, seval, hh2]), (by simp only [EV, seval, h4]), (by simp only [EV, seval, hh4]), (by simp only [EV, seval, h7]), (by simp only [EV, seval]; rfl), (by simp only [EV, seval, h1]), (by simp only [EV, seval]), by omega, by omega, (by simp only [EV, seval]; rfl), (by rw [hs]; (try simp only [List.nil_append]); exact .inr (.inr ⟨_, rfl, (by simp only [EV, seval] <;> omega), (by simp only [EV, seval] <;> rfl)⟩)), (by rw [hs]; (try simp only [List.nil_append]); exact .inr ⟨_, rfl, (by simp only [EV, seval] <;> omega), (by simp only [EV, seval] <;> rfl)⟩)⟩
          · rw [hx] at hs
            refine go_on (st' := ?s8) ?h8 ((ns.length - (k + 1))) (by omega) ?q8
            case h8 =>
              simp -implicitDefEqProofs only [ZZ, seval, h2, hh2, h4, hh4, h7, hh7, h1, h9, h8, hlt, k0, k46 ns hu hn, hanc, hw, hq, hy, hl1]
              rfl
            case q8 => exact ⟨k + 1, _, _, (by simp only [EV, seval, h2]), (by simp only [EV, seval, hh2]), (by simp only [EV, seval, h4]), (by simp only [EV, seval, hh4]), (by simp only [EV, seval, h7]), (by simp only [EV, seval]; rfl), (by simp only [EV, seval, h1]), (by simp only [EV, seval]), by omega, by omega, (by simp only [EV, seval]; rfl), (by rw [hs]; (try simp only [List.nil_append]); exact .inr (.inr ⟨_, rfl, (by simp only [EV, seval] <;> omega), (by simp only [EV, seval] <;> rfl)⟩)), (by rw [hs]; (try simp only [List.nil_append]); exact .inr ⟨_, rfl, (by simp only [EV, seval] <;> omega), (by simp only [EV, seval] <;> rfl)⟩)⟩
          · refine go_on (st' := ?s9) ?h9 ((ns.length - (k + 1))) (by omega) ?q9
            case h9 =>
              simp -implicitDefEqProofs only [ZZ, seval, h2, hh2, h4, hh4, h7, hh7, h1, h9, h8, hlt, k0, k46 ns hu hn, hanc, hw, hq, hy, hl1, hx, hl2]
              rfl
            case q9 => exact ⟨k + 1, _, _, (by simp only [EV, seval, h2]), (by simp only [EV, seval, hh2]), (by simp only [EV, seval, h4]), (by simp only [EV, seval, hh4]), (by simp only [EV, seval, h7]), (by simp only [EV, seval]; rfl), (by simp only [EV, seval, h1]), (by simp only [EV, seval]), by omega, by omega, (by simp only [EV, seval]; rfl), (by rw [hs]; (try simp only [List.nil_append]); exact .inr (.inr ⟨_, rfl, (by simp only [EV, seval] <;> omega), (by simp only [EV, seval] <;> rfl)⟩)), (by rw [hs]; (try simp only [List.nil_append]); exact .inr ⟨_, rfl, (by simp only [EV, seval] <;> omega), (by simp only [EV, seval] <;> rfl)⟩)⟩
        · have hq : ((k : Int) == i) = false := by simp [hki]
          obtain ⟨u0, u1⟩ := upb hki
          rw [if_neg hki] at hs
          rcases hy with ⟨rfl, hy⟩ | ⟨g, rfl, hg, hy⟩ | ⟨g, rfl, hg, hy⟩ <;> rcases hx with ⟨rfl, hx⟩ | ⟨g', rfl, hg', hx⟩
          · exfalso; rw [hy] at u1; simp at u1; omega
          · exfalso; rw [hy] at u1; simp at u1; omega
          · rw [hx] at hs
            refine go_on (st' := ?s10) ?h10 ((ns.length - (k + 1))) (by omega) ?q10
            case h10 =>
              simp -implicitDefEqProofs only [ZZ, seval, h2, hh2, h4, hh4, h7, hh7, h1, h9, h8, hlt, k0, k46 ns hu hn, hanc, hw, hq, u0, u1, hy, hl1]
              rfl
            case q10 => exact ⟨k + 1, _, _, (by simp only [EV, seval, h2]), (by simp only [EV, seval, hh2]), (by simp only [EV, seval, h4]), (by simp only [EV, seval, hh4]), (by simp only [EV, seval, h7]), (by simp only [EV, seval]; rfl), (by simp only [EV, seval, h1]), (by simp only [EV, seval]), by omega, by omega, (by simp only [EV, seval]; rfl), (by rw [hs]; (try simp only [List.nil_append]); exact .inr (.inr ⟨_, rfl, (by simp only [EV, seval] <;> omega), (by simp only [EV, seval] <;> rfl)⟩)), (by rw [hs]; (try simp only [List.nil_append]); exact .inr ⟨_, rfl, (by simp only [EV, seval] <;> omega), (by simp only [EV, seval] <;> rfl)⟩)⟩
          · refine go_on (st' := ?s11) ?h11 ((ns.length - (k + 1))) (by omega) ?q11
            case h11 =>
              simp -implicitDefEqProofs only [ZZ, seval, h2, hh2, h4, hh4, h7, hh7, h1, h9, h8, hlt, k0, k46 ns hu hn, hanc, hw, hq, u0, u1, hy, hl1, hx, hl2]
              rfl
            case q11 => exact ⟨k + 1, _, _, (by simp only [EV, seval, h2]), (by simp only [EV, seval, hh2]), (by simp only [EV, seval, h4]), (by simp only [EV, seval, hh4]), (by simp only [EV, seval, h7]), (by simp only [EV, seval]; rfl), (by simp only [EV, seval, h1]), (by simp only [EV, seval]), by omega, by omega, (by simp only [EV, seval]; rfl), (by rw [hs]; (try simp only [List.nil_append]); exact .inr (.inr ⟨_, rfl, (by simp only [EV, seval] <;> omega), (by simp only [EV, seval] <;> rfl)⟩)), (by rw [hs]; (try simp only [List.nil_append]); exact .inr ⟨_, rfl, (by simp only [EV, seval] <;> omega), (by simp only [EV, seval] <;> rfl)⟩)⟩
          · rw [hx] at hs
            refine go_on (st' := ?s12) ?h12 ((ns.length - (k + 1))) (by omega) ?q12
            case h12 =>
              simp -implicitDefEqProofs only [ZZ, seval, h2, hh2, h4, hh4, h7, hh7, h1, h9, h8, hlt, k0, k46 ns hu hn, hanc, hw, hq, u0, u1, hy, hl1]
              rfl
            case q12 => exact ⟨k + 1, _, _, (by simp only [EV, seval, h2]), (by simp only [EV, seval, hh2]), (by simp only [EV, seval, h4]), (by simp only [EV, seval, hh4]), (by simp only [EV, seval, h7]), (by simp only [EV, seval]; rfl), (by simp only [EV, seval, h1]), (by simp only [EV, seval]), by omega, by omega, (by simp only [EV, seval]; rfl), (by rw [hs]; (try simp only [List.nil_append]); exact .inr (.inr ⟨_, rfl, (by simp only [EV, seval] <;> omega), (by simp only [EV, seval] <;> rfl)⟩)), (by rw [hs]; (try simp only [List.nil_append]); exact .inr ⟨_, rfl, (by simp only [EV, seval] <;> omega), (by simp only [EV, seval] <;> rfl)⟩)⟩
          · refine go_on (st' := ?s13) ?h13 ((ns.length - (k + 1))) (by omega) ?q13
            case h13 =>
              simp -implicitDefEqProofs only [ZZ, seval, h2, hh2, h4, hh4, h7, hh7, h1, h9, h8, hlt, k0, k46 ns hu hn, hanc, hw, hq, u0, u1, hy, hl1, hx, hl2]
              rfl
            case q13 => exact ⟨k + 1, _, _, (by simp only [EV, seval, h2]), (by simp only [EV, seval, hh2]), (by simp only [EV, seval, h4]), (by simp only [EV, seval, hh4]), (by simp only [EV, seval, h7]), (by simp only [EV, seval]; rfl), (by simp only [EV, seval, h1]), (by simp only [EV, seval]), by omega, by omega, (by simp only [EV, seval]; rfl), (by rw [hs]; (try simp only [List.nil_append]); exact .inr (.inr ⟨_, rfl, (by simp only [EV, seval] <;> omega), (by simp only [EV, seval] <;> rfl)⟩)), (by rw [hs]; (try simp only [List.nil_append]); exact .inr ⟨_, rfl, (by simp only [EV, seval] <;> omega), (by simp only [EV, seval] <;> rfl)⟩)⟩
      · have hanc' : anc ns i k = false := by simpa using hanc
        have hs : prF ns i (k + 1) = ((prF ns i k).1, (prF ns i k).2 ++ [-1]) := by simp [prF, hanc']
        rcases hy with ⟨rfl, hy⟩ | ⟨g, rfl, hg, hy⟩ | ⟨g, rfl, hg, hy⟩ <;> rcases hx with ⟨rfl, hx⟩ | ⟨g', rfl, hg', hx⟩
        · rw [hy, hx] at hs
          refine go_on (st' := ?s14) ?h14 ((ns.length - (k + 1))) (by omega) ?q14
          case h14 =>
            simp -implicitDefEqProofs only [ZZ, seval, h2, hh2, h4, hh4, h7, hh7, h1, h9, h8, hlt, k0, k46 ns hu hn, hanc', hw]
            rfl
          case q14 => exact ⟨k + 1, _, _, (by simp only [EV, seval, h2]), (by simp only [EV, seval, hh2]), (by simp only [EV, seval, h4]), (by simp only [EV, seval, hh4]), (by simp only [EV, seval, h7]), (by simp only [EV, seval, hh7]; rfl), (by simp only [EV, seval, h1]), (by simp only [EV, seval]), by omega, by omega, (by simp only [EV, seval]; rfl), (by rw [hs]; (try simp only [List.nil_append]); exact .inr (.inl ⟨_, rfl, (by simp only [EV, seval] <;> omega), (by simp only [EV, seval] <;> rfl)⟩)), (by rw [hs]; exact .inl ⟨rfl, rfl⟩)⟩
        · rw [hy] at hs
          refine go_on (st' := ?s15) ?h15 ((ns.length - (k + 1))) (by omega) ?q15
          case h15 =>
            simp -implicitDefEqProofs only [ZZ, seval, h2, hh2, h4, hh4, h7, hh7, h1, h9, h8, hlt, k0, k46 ns hu hn, hanc', hw, hx, hl2]
            rfl
          case q15 => exact ⟨k + 1, _, _, (by simp only [EV, seval, h2]), (by simp only [EV, seval, hh2]), (by simp only [EV, seval, h4]), (by simp only [EV, seval, hh4]), (by simp only [EV, seval, h7]), (by simp only [EV, seval, hh7]; rfl), (by simp only [EV, seval, h1]), (by simp only [EV, seval]), by omega, by omega, (by simp only [EV, seval]; rfl), (by rw [hs]; (try simp only [List.nil_append]); exact .inr (.inl ⟨_, rfl, (by simp only [EV, seval] <;> omega), (by simp only [EV, seval] <;> rfl)⟩)), (by rw [hs]; exact .inr ⟨_, rfl, (by simp only [EV, seval] <;> omega), (by simp only [EV, seval, hx])⟩)⟩
        · rw [hx] at hs
          refine go_on (st' := ?s16) ?h16 ((ns.length - (k + 1))) (by omega) ?q16
          case h16 =>
            simp -implicitDefEqProofs only [ZZ, seval, h2, hh2, h4, hh4, h7, hh7, h1, h9, h8, hlt, k0, k46 ns hu hn, hanc', hw, hy, hl1]
            rfl
          case q16 => exact ⟨k + 1, _, _, (by simp only [EV, seval, h2]), (by simp only [EV, seval, hh2]), (by simp only [EV, seval, h4]), (by simp only [EV, seval, hh4]), (by simp only [EV, seval, h7]), (by simp only [EV, seval, hh7]; rfl), (by simp only [EV, seval, h1]), (by simp only [EV, seval]), by omega, by omega, (by simp only [EV, seval]; rfl), (by rw [hs]; (try simp only [List.nil_append]); exact .inr (.inl ⟨_, rfl, (by simp only [EV, seval] <;> omega), (by simp only [EV, seval] <;> rfl)⟩)), (by rw [hs]; exact .inl ⟨rfl, rfl⟩)⟩
        · refine go_on (st' := ?s17) ?h17 ((ns.length - (k + 1))) (by omega) ?q17
          case h17 =>
            simp -implicitDefEqProofs only [ZZ, seval, h2, hh2, h4, hh4, h7, hh7, h1, h9, h8, hlt, k0, k46 ns hu hn, hanc', hw, hy, hl1, hx, hl2]
            rfl
          case q17 => exact ⟨k + 1, _, _, (by simp only [EV, seval, h2]), (by simp only [EV, seval, hh2]), (by simp only [EV, seval, h4]), (by simp only [EV, seval, hh4]), (by simp only [EV, seval, h7]), (by simp only [EV, seval, hh7]; rfl), (by simp only [EV, seval, h1]), (by simp only [EV, seval]), by omega, by omega, (by simp only [EV, seval]; rfl), (by rw [hs]; (try simp only [List.nil_append]); exact .inr (.inl ⟨_, rfl, (by simp only [EV, seval] <;> omega), (by simp only [EV, seval] <;> rfl)⟩)), (by rw [hs]; exact .inr ⟨_, rfl, (by simp only [EV, seval] <;> omega), (by simp only [EV, seval, hx])⟩)⟩
        · rw [hx] at hs
          refine go_on (st' := ?s18) ?h18 ((ns.length - (k + 1))) (by omega) ?q18
          case h18 =>
            simp -implicitDefEqProofs only [ZZ, seval, h2, hh2, h4, hh4, h7, hh7, h1, h9, h8, hlt, k0, k46 ns hu hn, hanc', hw, hy, hl1]
            rfl
          case q18 => exact ⟨k + 1, _, _, (by simp only [EV, seval, h2]), (by simp only [EV, seval, hh2]), (by simp only [EV, seval, h4]), (by simp only [EV, seval, hh4]), (by simp only [EV, seval, h7]), (by simp only [EV, seval, hh7]; rfl), (by simp only [EV, seval, h1]), (by simp only [EV, seval]), by omega, by omega, (by simp only [EV, seval]; rfl), (by rw [hs]; (try simp only [List.nil_append]); exact .inr (.inl ⟨_, rfl, (by simp only [EV, seval] <;> omega), (by simp only [EV, seval] <;> rfl)⟩)), (by rw [hs]; exact .inl ⟨rfl, rfl⟩)⟩
        · refine go_on (st' := ?s19) ?h19 ((ns.length - (k + 1))) (by omega) ?q19
          case h19 =>
            simp -implicitDefEqProofs only [ZZ, seval, h2, hh2, h4, hh4, h7, hh7, h1, h9, h8, hlt, k0, k46 ns hu hn, hanc', hw, hy, hl1, hx, hl2]
            rfl
          case q19 => exact ⟨k + 1, _, _, (by simp only [EV, seval, h2]), (by simp only [EV, seval, hh2]), (by simp only [EV, seval, h4]), (by simp only [EV, seval, hh4]), (by simp only [EV, seval, h7]), (by simp only [EV, seval, hh7]; rfl), (by simp only [EV, seval, h1]), (by simp only [EV, seval]), by omega, by omega, (by simp only [EV, seval]; rfl), (by rw [hs]; (try simp only [List.nil_append]); exact .inr (.inl ⟨_, rfl, (by simp only [EV, seval] <;> omega), (by simp only [EV, seval] <;> rfl)⟩)), (by rw [hs]; exact .inr ⟨_, rfl, (by simp only [EV, seval] <;> omega), (by simp only [EV, seval, hx])⟩)⟩
    · have hkn : k = ns.length := by omega
      subst hkn
      refine go_out (e := .exit 0) (st' := ?s20) ?h20 (by simp) ?q20
      case h20 =>
        simp -implicitDefEqProofs only [ZZ, seval, h2, hh2, h4, hh4, h7, hh7, h1, h9, h8, hlt]
        rfl
      case q20 => exact ⟨rfl, x, y, (by simp only [EV, seval, h4]), (by simp only [EV, seval, hh4]), (by simp only [EV, seval, h7]), (by simp only [EV, seval, hh7]), (by simp only [EV, seval, h8]), hy, hx⟩
  case start => exact ⟨0, _, _, (by simp only [EV, seval]), (by simp only [EV, seval]), (by simp only [EV, seval]), (by simp only [EV, seval]), (by simp only [EV, seval]), (by simp only [EV, seval] <;> rfl), (by simp only [EV, seval]), (by simp only [EV, seval] <;> rfl), by omega, by omega, (by simp only [EV, seval] <;> rfl), .inl ⟨rfl, rfl⟩, .inl ⟨rfl, rfl⟩⟩
  case rest =>
    rintro e st ⟨rfl, x, y, h4, hh4, h7, hh7, h8, hy, hx⟩
    have hlen := prF_idx ns i ns.length
    have hne := prF_ne ns hu i0 i1
    rcases hy with ⟨rfl, hy⟩ | ⟨g, rfl, hg, hy⟩ | ⟨g, rfl, hg, hy⟩ <;> rcases hx with ⟨rfl, hx⟩ | ⟨g', rfl, hg', hx⟩
    · exact absurd hx hne
    · rw [hy] at hlen; simp at hlen; omega
    · exact absurd hx hne
    · simp -implicitDefEqProofs only [ZZ, seval, h4, hh4, h7, hh7, h8]
      exact endL_three (keep_none (by decide)) (.inl rfl) rfl (by simp -implicitDefEqProofs only [resA, ZZ, seval, h4, hh4, h7, hh7, h8]; rfl) (by simp only [resA, EV, seval] <;> rfl) (by simp only [resA, EV, seval] <;> rfl) (by simp only [EV, seval, hx, Option.map_some] <;> rfl) (by simp only [EV, seval, hy]) (by simp only [EV, seval])
    · exact absurd hx hne
    · simp -implicitDefEqProofs only [ZZ, seval, h4, hh4, h7, hh7, h8]
      exact endL_three (keep_none (by decide)) (.inl rfl) rfl (by simp -implicitDefEqProofs only [resA, ZZ, seval, h4, hh4, h7, hh7, h8]; rfl) (by simp only [resA, EV, seval] <;> rfl) (by simp only [resA, EV, seval] <;> rfl) (by simp only [EV, seval, hx, Option.map_some] <;> rfl) (by simp only [EV, seval, hy]) (by simp only [EV, seval])
end Go.Ab.Try
end
section
set_option linter.unusedSimpArgs false
set_option linter.unusedVariables false
set_option maxRecDepth 20000
set_option maxHeartbeats 4000000
namespace Go.Ab.Try
open Classical Go.Proofs Go.Ab
/-- pruning.Prune -/
theorem c31 (ns : List Node) (hu : UpOk ns) (hr : (nd ns 0).up < 0) (hn : (ns.length : Int) < 1000000) (i : Int) (i0 : 0 ≤ i) (i1 : i < ns.length) : callL Try.prog 31 [.agg (cTree ⟨ns⟩), .v (.int .i64 i)] =
    some (.tup [.agg (cTree ⟨(prF ns i ns.length).1⟩), .sl (prF ns i ns.length).2.length (csInt (prF ns i ns.length).2), .v (.int .i64 0)]) := by
  have hi0 : decide (i < 0) = false := by simp; omega
  have hi1 : decide ((ns.length : Int) ≤ i) = false := by simp; omega
  rw [callL_eq Try.prog Try.func31 rfl ok31 _ (ext_none _ (by decide)) rfl]
  simp -implicitDefEqProofs only [ZZ, seval, hi0, hi1]
  refine use_loop (fun n st => ∃ (k : Nat) (x y : AV), st.env 4 = .ptr 4 0 0 ∧ st.heap 4 0 = some (.cells [x]) ∧ st.env 1 = .v (.int .i64 i) ∧ st.env 21 = .sl ns.length (csNode ns) ∧ st.env 22 = .v (.int .i64 ns.length) ∧ st.env 23 = .v (.int .i64 k) ∧
      k ≤ ns.length ∧ n = ns.length - k ∧ st.env 5 = y ∧ RowI st 50 58 y (prF ns i k).2 ∧ RowN st 63 x (prF ns i k).1)
    (fun e st => e = .exit 0 ∧ ∃ (x y : AV), st.env 4 = .ptr 4 0 0 ∧ st.heap 4 0 = some (.cells [x]) ∧ st.env 5 = y ∧ RowI st 50 58 y (prF ns i ns.length).2 ∧ RowN st 63 x (prF ns i ns.length).1) ns.length ?step ?start ?rest
  case step =>
    rintro n st ⟨k, x, y, h4, hh4, h1, h21, h22, h23, hk, hn', h5, hy, hx⟩
    have hlen := prF_idx ns i k
    have hlen2 := prF_nodes ns i k
    have hl1 : ((prF ns i k).2.length : Int) < 1000000 := by omega
    have hl2 : ((prF ns i k).1.length : Int) < 1000000 := by omega
    by_cases hlt : (k : Int) < ns.length
    · have hw : IntKind.i64.wrap ((k : Int) + 1) = ((k + 1 : Nat) : Int) := by rw [w64 _ (by omega) (by omega)]; simp
      have k0 : (0 : Int) ≤ k := by omega
      have hself := anc_self hu i0 i1
      by_cases hki : (k : Int) = i
      · have hq : ((k : Int) != i) = false := by simp [hki]
        have hs : prF ns i (k + 1) = ((prF ns i k).1 ++ [{ nd ns k with up := -1 }], (prF ns i k).2 ++ [((prF ns i k).1.length : Int)]) := by simp only [prF, hki, hself, if_true]
        rcases hy with ⟨rfl, hy⟩ | ⟨g, rfl, hg, hy⟩ | ⟨g, rfl, hg, hy⟩ <;> rcases hx with ⟨rfl, hx⟩ | ⟨g', rfl, hg', hx⟩
        · rw [hy, hx] at hs
          refine go_on (st' := ?s1) ?h1 ((ns.length - (k + 1))) (by omega) ?q1
          case h1 =>
            simp -implicitDefEqProofs only [ZZ, seval, h4, hh4, h1, h21, h22, h23, h5, hlt, k0, hw, hq]
            rfl
          case q1 => exact ⟨k + 1, _, _, (by simp only [EV, seval, h4]), (by simp only [EV, seval] <;> rfl), (by simp only [EV, seval, h1]), (by simp only [EV, seval, h21]), (by simp only [EV, seval, h22]), (by simp only [EV, seval]), by omega, by omega, (by simp only [EV, seval] <;> rfl), (by rw [hs]; (try simp only [List.nil_append]); exact .inr (.inr ⟨_, rfl, (by simp only [EV, seval] <;> omega), (by simp only [EV, seval] <;> rfl)⟩)), (by rw [hs]; (try simp only [List.nil_append]); exact .inr ⟨_, rfl, (by simp only [EV, seval] <;> omega), (by simp only [EV, seval] <;> rfl)⟩)⟩
        · rw [hy] at hs
          refine go_on (st' := ?s2) ?h2 ((ns.length - (k + 1))) (by omega) ?q2
          case h2 =>
            simp -implicitDefEqProofs only [ZZ, seval, h4, hh4, h1, h21, h22, h23, h5, hlt, k0, hw, hq, hx, hl2]
            rfl
          case q2 => exact ⟨k + 1, _, _, (by simp only [EV, seval, h4]), (by simp only [EV, seval] <;> rfl), (by simp only [EV, seval, h1]), (by simp only [EV, seval, h21]), (by simp only [EV, seval, h22]), (by simp only [EV, seval]), by omega, by omega, (by simp only [EV, seval] <;> rfl), (by rw [hs]; (try simp only [List.nil_append]); exact .inr (.inr ⟨_, rfl, (by simp only [EV, seval] <;> omega), (by simp only [EV, seval] <;> rfl)⟩)), (by rw [hs]; (try simp only [List.nil_append]); exact .inr ⟨_, rfl, (by simp only [EV, seval] <;> omega), (by simp only [EV, seval] <;> rfl)⟩)⟩
        · rw [hx] at hs
          refine go_on (st' := ?s3) ?h3 ((ns.length - (k + 1))) (by omega) ?q3
          case h3 =>
            simp -implicitDefEqProofs only [ZZ, seval, h4, hh4, h1, h21, h22, h23, h5, hlt, k0, hw, hq, hy, hl1]
            rfl
          case q3 => exact ⟨k + 1, _, _, (by simp only [EV, seval, h4]), (by simp only [EV, seval] <;> rfl), (by simp only [EV, seval, h1]), (by simp only [EV, seval, h21]), (by simp only [EV, seval, h22]), (by simp only [EV, seval]), by omega, by omega, (by simp only [EV, seval] <;> rfl), (by rw [hs]; (try simp only [List.nil_append]); exact .inr (.inr ⟨_, rfl, (by simp only [EV, seval] <;> omega), (by simp only [EV, seval] <;> rfl)⟩)), (by rw [hs]; (try simp only [List.nil_append]); exact .inr ⟨_, rfl, (by simp only [EV, seval] <;> omega), (by simp only [EV, seval] <;> rfl)⟩)⟩
        · refine go_on (st' := ?s4) ?h4 ((ns.length - (k + 1))) (by omega) ?q4
          case h4 =>
            simp -implicitDefEqProofs only [ZZ, seval, h4, hh4, h1, h21, h22, h23, h5, hlt, k0, hw, hq, hy, hl1, hx, hl2]
            rfl
          case q4 => exact ⟨k + 1, _, _, (by simp only [EV, seval, h4]), (by simp only [EV, seval] <;> rfl), (by simp only [EV, seval, h1]), (by simp only [EV, seval, h21]), (by simp only [EV, seval, h22]), (by simp only [EV, seval]), by omega, by omega, (by simp only [EV, seval] <;> rfl), (by rw [hs]; (try simp only [List.nil_append]); exact .inr (.inr ⟨_, rfl, (by simp only [EV, seval] <;> omega), (by simp only [EV, seval] <;> rfl)⟩)), (by rw [hs]; (try simp only [List.nil_append]); exact .inr ⟨_, rfl, (by simp only [EV, seval] <;> omega), (by simp only [EV, seval] <;> rfl)⟩)⟩
        · rw [hx] at hs
          refine go_on (st' := ?s5) ?h5 ((ns.length - (k + 1))) (by omega) ?q5
          case h5 =>
            simp -implicitDefEqProofs only [ZZ, seval, h4, hh4, h1, h21, h22, h23, h5, hlt, k0, hw, hq, hy, hl1]
            rfl
          case q5 => exact ⟨k + 1, _, _, (by simp only [EV, seval, h4]), (by simp only [EV, seval] <;> rfl), (by simp only [EV, seval, h1]), (by simp only [EV, seval, h21]), (by simp only [EV, seval, h22]), (by simp only [EV, seval]), by omega, by omega, (by simp only [EV, seval] <;> rfl), (by rw [hs]; (try simp only [List.nil_append]); exact .inr (.inr ⟨_, rfl, (by simp only [EV, seval] <;> omega), (by simp only [EV, seval] <;> rfl)⟩)), (by rw [hs]; (try simp only [List.nil_append]); exact .inr ⟨_, rfl, (by simp only [EV, seval] <;> omega), (by simp only [EV, seval] <;> rfl)⟩)⟩
        · refine go_on (st' := ?s6) ?h6 ((ns.length - (k + 1))) (by omega) ?q6
          case h6 =>
            simp -implicitDefEqProofs only [ZZ, seval, h4, hh4, h1, h21, h22, h23, h5, hlt, k0, hw, hq, hy, hl1, hx, hl2]
            rfl
          case q6 => exact ⟨k + 1, _, _, (by simp only [EV, seval, h4]), (by simp only [EV, seval] <;> rfl), (by simp only [EV, seval, h1]), (by simp only [EV, seval, h21]), (by simp only [EV, seval, h22]), (by simp only [EV, seval]), by omega, by omega, (by simp only [EV, seval] <;> rfl), (by rw [hs]; (try simp only [List.nil_append]); exact .inr (.inr ⟨_, rfl, (by simp only [EV, seval] <;> omega), (by simp only [EV, seval] <;> rfl)⟩)), (by rw [hs]; (try simp only [List.nil_append]); exact .inr ⟨_, rfl, (by simp only [EV, seval] <;> omega), (by simp only [EV, seval] <;> rfl)⟩)⟩
      · have hq : ((k : Int) != i) = true := by simp [hki]
        rcases Nat.eq_zero_or_pos k with hk0 | hk0
        · have hup : decide (0 ≤ (nd ns k).up) = false := by rw [hk0]; simp; omega
          have hanc : anc ns i k = false := by rw [hk0, show ((0 : Nat) : Int) = 0 from rfl, anc_zero (by omega)]; simp; omega
          have hs : prF ns i (k + 1) = ((prF ns i k).1, (prF ns i k).2 ++ [-1]) := by simp [prF, hanc]
          rcases hy with ⟨rfl, hy⟩ | ⟨g, rfl, hg, hy⟩ | ⟨g, rfl, hg, hy⟩ <;> rcases hx with ⟨rfl, hx⟩ | ⟨g', rfl, hg', hx⟩
          · rw [hy, hx] at hs
            refine go_on (st' := ?s7) ?h7 ((ns.length - (k + 1))) (by omega) ?q7
            case h7 =>
              simp -implicitDefEqProofs only [ZZ, seval, h4, hh4, h1, h21, h22, h23, h5, hlt, k0, hw, hq, hup]
              rfl
            case q7 => exact ⟨k + 1, _, _, (by simp only [EV, seval, h4]), (by simp only [EV, seval, hh4] <;> rfl), (by simp only [EV, seval, h1]), (by simp only [EV, seval, h21]), (by simp only [EV, seval, h22]), (by simp only [EV, seval]), by omega, by omega, (by simp only [EV, seval] <;> rfl), (by rw [hs]; (try simp only [List.nil_append]); exact .inr (.inl ⟨_, rfl, (by simp only [EV, seval] <;> omega), (by simp only [EV, seval] <;> rfl)⟩)), (by rw [hs]; exact .inl ⟨rfl, rfl⟩)⟩
          · rw [hy] at hs
            refine go_on (st' := ?s8) ?h8 ((ns.length - (k + 1))) (by omega) ?q8
            case h8 =>
              simp -implicitDefEqProofs only [ZZ, seval, h4, hh4, h1, h21, h22, h23, h5, hlt, k0, hw, hq, hup, hx, hl2]
              rfl
            case q8 => exact ⟨k + 1, _, _, (by simp only [EV, seval, h4]), (by simp only [EV, seval, hh4] <;> rfl), (by simp only [EV, seval, h1]), (by simp only [EV, seval, h21]), (by simp only [EV, seval, h22]), (by simp only [EV, seval]), by omega, by omega, (by simp only [EV, seval] <;> rfl), (by rw [hs]; (try simp only [List.nil_append]); exact .inr (.inl ⟨_, rfl, (by simp only [EV, seval] <;> omega), (by simp only [EV, seval] <;> rfl)⟩)), (by rw [hs]; exact .inr ⟨_, rfl, (by simp only [EV, seval] <;> omega), (by simp only [EV, seval, hx])⟩)⟩
          · rw [hx] at hs
            refine go_on (st' := ?s9) ?h9 ((ns.length - (k + 1))) (by omega) ?q9
            case h9 =>
              simp -implicitDefEqProofs only [ZZ, seval, h4, hh4, h1, h21, h22, h23, h5, hlt, k0, hw, hq, hup, hy, hl1]
              rfl
            case q9 => exact ⟨k + 1, _, _, (by simp only [EV, seval, h4]), (by simp only [EV, seval, hh4] <;> rfl), (by simp only [EV, seval, h1]), (by simp only [EV, seval, h21]), (by simp only [EV, seval, h22]), (by simp only [EV, seval]), by omega, by omega, (by simp only [EV, seval] <;> rfl), (by rw [hs]; (try simp only [List.nil_append]); exact .inr (.inl ⟨_, rfl, (by simp only [EV, seval] <;> omega), (by simp only [EV, seval] <;> rfl)⟩)), (by rw [hs]; exact .inl ⟨rfl, rfl⟩)⟩
          · refine go_on (st' := ?s10) ?h10 ((ns.length - (k + 1))) (by omega) ?q10
            case h10 =>
              simp -implicitDefEqProofs only [ZZ, seval, h4, hh4, h1, h21, h22, h23, h5, hlt, k0, hw, hq, hup, hy, hl1, hx, hl2]
              rfl
            case q10 => exact ⟨k + 1, _, _, (by simp only [EV, seval, h4]), (by simp only [EV, seval, hh4] <;> rfl), (by simp only [EV, seval, h1]), (by simp only [EV, seval, h21]), (by simp only [EV, seval, h22]), (by simp only [EV, seval]), by omega, by omega, (by simp only [EV, seval] <;> rfl), (by rw [hs]; (try simp only [List.nil_append]); exact .inr (.inl ⟨_, rfl, (by simp only [EV, seval] <;> omega), (by simp only [EV, seval] <;> rfl)⟩)), (by rw [hs]; exact .inr ⟨_, rfl, (by simp only [EV, seval] <;> omega), (by simp only [EV, seval, hx])⟩)⟩
          · rw [hx] at hs
            refine go_on (st' := ?s11) ?h11 ((ns.length - (k + 1))) (by omega) ?q11
            case h11 =>
              simp -implicitDefEqProofs only [ZZ, seval, h4, hh4, h1, h21, h22, h23, h5, hlt, k0, hw, hq, hup, hy, hl1]
              rfl
            case q11 => exact ⟨k + 1, _, _, (by simp only [EV, seval, h4]), (by simp only [EV, seval, hh4] <;> rfl), (by simp only [EV, seval, h1]), (by simp only [EV, seval, h21]), (by simp only [EV, seval, h22]), (by simp only [EV, seval]), by omega, by omega, (by simp only [EV, seval] <;> rfl), (by rw [hs]; (try simp only [List.nil_append]); exact .inr (.inl ⟨_, rfl, (by simp only [EV, seval] <;> omega), (by simp only [EV, seval] <;> rfl)⟩)), (by rw [hs]; exact .inl ⟨rfl, rfl⟩)⟩
          · refine go_on (st' := ?s12) ?h12 ((ns.length - (k + 1))) (by omega) ?q12
            case h12 =>
              simp -implicitDefEqProofs only [ZZ, seval, h4, hh4, h1, h21, h22, h23, h5, hlt, k0, hw, hq, hup, hy, hl1, hx, hl2]
              rfl
            case q12 => exact ⟨k + 1, _, _, (by simp only [EV, seval, h4]), (by simp only [EV, seval, hh4] <;> rfl), (by simp only [EV, seval, h1]), (by simp only [EV, seval, h21]), (by simp only [EV, seval, h22]), (by simp only [EV, seval]), by omega, by omega, (by simp only [EV, seval] <;> rfl), (by rw [hs]; (try simp only [List.nil_append]); exact .inr (.inl ⟨_, rfl, (by simp only [EV, seval] <;> omega), (by simp only [EV, seval] <;> rfl)⟩)), (by rw [hs]; exact .inr ⟨_, rfl, (by simp only [EV, seval] <;> omega), (by simp only [EV, seval, hx])⟩)⟩
        · obtain ⟨u0, u1'⟩ := hu k (by omega) hlt
          have u1 : (nd ns k).up < (prF ns i k).2.length := by rw [hlen]; exact u1'
          have hsg := prF_sign ns i k (nd ns k).up u0 (by omega)
          have hstep := anc_step hu (show (0 : Int) < k by omega) hlt (Ne.symm hki)
          cases hanc : anc ns i k
          · have hneg : decide (it (prF ns i k).2 (nd ns k).up < 0) = true := by
              rw [← hstep, hanc] at hsg
              simp at hsg ⊢; exact hsg
            have hs : prF ns i (k + 1) = ((prF ns i k).1, (prF ns i k).2 ++ [-1]) := by simp [prF, hanc]
            rcases hy with ⟨rfl, hy⟩ | ⟨g, rfl, hg, hy⟩ | ⟨g, rfl, hg, hy⟩ <;> rcases hx with ⟨rfl, hx⟩ | ⟨g', rfl, hg', hx⟩
            · exfalso; rw [hy] at u1; simp at u1; omega
            · exfalso; rw [hy] at u1; simp at u1; omega
            · rw [hx] at hs
              refine go_on (st' := ?s13) ?h13 ((ns.length - (k + 1))) (by omega) ?q13
              case h13 =>
                simp -implicitDefEqProofs only [ZZ, seval, h4, hh4, h1, h21, h22, h23, h5, hlt, k0, hw, hq, u0, u1, hneg, hy, hl1]
                rfl
              case q13 => exact ⟨k + 1, _, _, (by simp only [EV, seval, h4]), (by simp only [EV, seval, hh4] <;> rfl), (by simp only [EV, seval, h1]), (by simp only [EV, seval, h21]), (by simp only [EV, seval, h22]), (by simp only [EV, seval]), by omega, by omega, (by simp only [EV, seval] <;> rfl), (by rw [hs]; (try simp only [List.nil_append]); exact .inr (.inl ⟨_, rfl, (by simp only [EV, seval] <;> omega), (by simp only [EV, seval] <;> rfl)⟩)), (by rw [hs]; exact .inl ⟨rfl, rfl⟩)⟩
            · refine go_on (st' := ?s14) ?h14 ((ns.length - (k + 1))) (by omega) ?q14
              case h14 =>
                simp -implicitDefEqProofs only [ZZ, seval, h4, hh4, h1, h21, h22, h23, h5, hlt, k0, hw, hq, u0, u1, hneg, hy, hl1, hx, hl2]
                rfl
              case q14 => exact ⟨k + 1, _, _, (by simp only [EV, seval, h4]), (by simp only [EV, seval, hh4] <;> rfl), (by simp only [EV, seval, h1]), (by simp only [EV, seval, h21]), (by simp only [EV, seval, h22]), (by simp only [EV, seval]), by omega, by omega, (by simp only [EV, seval] <;> rfl), (by rw [hs]; (try simp only [List.nil_append]); exact .inr (.inl ⟨_, rfl, (by simp only [EV, seval] <;> omega), (by simp only [EV, seval] <;> rfl)⟩)), (by rw [hs]; exact .inr ⟨_, rfl, (by simp only [EV, seval] <;> omega), (by simp only [EV, seval, hx])⟩)⟩
            · rw [hx] at hs
              refine go_on (st' := ?s15) ?h15 ((ns.length - (k + 1))) (by omega) ?q15
              case h15 =>
                simp -implicitDefEqProofs only [ZZ, seval, h4, hh4, h1, h21, h22, h23, h5, hlt, k0, hw, hq, u0, u1, hneg, hy, hl1]
                rfl
              case q15 => exact ⟨k + 1, _, _, (by simp only [EV, seval, h4]), (by simp only [EV, seval, hh4] <;> rfl), (by simp only [EV, seval, h1]), (by simp only [EV, seval, h21]), (by simp only [EV, seval, h22]), (by simp only [EV, seval]), by omega, by omega, (by simp only [EV, seval] <;> rfl), (by rw [hs]; (try simp only [List.nil_append]); exact .inr (.inl ⟨_, rfl, (by simp only [EV, seval] <;> omega), (by simp only [EV, seval] <;> rfl)⟩)), (by rw [hs]; exact .inl ⟨rfl, rfl⟩)⟩
            · refine go_on (st' := ?s16) ?h16 ((ns.length - (k + 1))) (by omega) ?q16
              case h16 =>
                simp -implicitDefEqProofs only [ZZ, seval, h4, hh4, h1, h21, h22, h23, h5, hlt, k0, hw, hq, u0, u1, hneg, hy, hl1, hx, hl2]
                rfl
              case q16 => exact ⟨k + 1, _, _, (by simp only [EV, seval, h4]), (by simp only [EV, seval, hh4] <;> rfl), (by simp only [EV, seval, h1]), (by simp only [EV, seval, h21]), (by simp only [EV, seval, h22]), (by simp only [EV, seval]), by omega, by omega, (by simp only [EV, seval] <;> rfl), (by rw [hs]; (try simp only [List.nil_append]); exact .inr (.inl ⟨_, rfl, (by simp only [EV, seval] <;> omega), (by simp only [EV, seval] <;> rfl)⟩)), (by rw [hs]; exact .inr ⟨_, rfl, (by simp only [EV, seval] <;> omega), (by simp only [EV, seval, hx])⟩)⟩
          · have hneg : decide (it (prF ns i k).2 (nd ns k).up < 0) = false := by
              rw [← hstep, hanc] at hsg
              simp at hsg ⊢; exact hsg
            have hs : prF ns i (k + 1) = ((prF ns i k).1 ++ [{ nd ns k with up := it (prF ns i k).2 (nd ns k).up }], (prF ns i k).2 ++ [((prF ns i k).1.length : Int)]) := by simp only [prF, hanc, if_true, if_neg hki]
            rcases hy with ⟨rfl, hy⟩ | ⟨g, rfl, hg, hy⟩ | ⟨g, rfl, hg, hy⟩ <;> rcases hx with ⟨rfl, hx⟩ | ⟨g', rfl, hg', hx⟩
            · exfalso; rw [hy] at u1; simp at u1; omega
            · exfalso; rw [hy] at u1; simp at u1; omega
            · rw [hx] at hs
              refine go_on (st' := ?s17) ?h17 ((ns.length - (k + 1))) (by omega) ?q17
              case h17 =>
                simp -implicitDefEqProofs only [ZZ, seval, h4, hh4, h1, h21, h22, h23, h5, hlt, k0, hw, hq, u0, u1, hneg, hy, hl1]
                rfl
              case q17 => exact ⟨k + 1, _, _, (by simp only [EV, seval, h4]), (by simp only [EV, seval] <;> rfl), (by simp only [EV, seval, h1]), (by simp only [EV, seval, h21]), (by simp only [EV, seval, h22]), (by simp only [EV, seval]), by omega, by omega, (by simp only [EV, seval] <;> rfl), (by rw [hs]; (try simp only [List.nil_append]); exact .inr (.inr ⟨_, rfl, (by simp only [EV, seval] <;> omega), (by simp only [EV, seval] <;> rfl)⟩)), (by rw [hs]; (try simp only [List.nil_append]); exact .inr ⟨_, rfl, (by simp only [EV, seval] <;> omega), (by simp only [EV, seval] <;> rfl)⟩)⟩
            · refine go_on (st' := ?s18) ?h18 ((ns.length - (k + 1))) (by omega) ?q18
              case h18 =>
                simp -implicitDefEqProofs only [ZZ, seval, h4, hh4, h1, h21, h22, h23, h5, hlt, k0, hw, hq, u0, u1, hneg, hy, hl1, hx, hl2]
                rfl
              case q18 => exact ⟨k + 1, _, _, (by simp only [EV, seval, h4]), (by simp only [EV, seval] <;> rfl), (by simp only [EV, seval, h1]), (by simp only [EV, seval, h21]), (by simp only [EV, seval, h22]), (by simp only [EV, seval]), by omega, by omega, (by simp only [EV, seval] <;> rfl), (by rw [hs]; (try simp only [List.nil_append]); exact .inr (.inr ⟨_, rfl, (by simp only [EV, seval] <;> omega), (by simp only [EV, seval] <;> rfl)⟩)), (by rw [hs]; (try simp only [List.nil_append]); exact .inr ⟨_, rfl, (by simp only [EV, seval] <;> omega), (by simp only [EV, seval] <;> rfl)⟩)⟩
            · rw [hx] at hs
              refine go_on (st' := ?s19) ?h19 ((ns.length - (k + 1))) (by omega) ?q19
              case h19 =>
                simp -implicitDefEqProofs only [ZZ, seval, h4, hh4, h1, h21, h22, h23, h5, hlt, k0, hw, hq, u0, u1, hneg, hy, hl1]
                rfl
              case q19 => exact ⟨k + 1, _, _, (by simp only [EV, seval, h4]), (by simp only [EV, seval] <;> rfl), (by simp only [EV, seval, h1]), (by simp only [EV, seval, h21]), (by simp only [EV, seval, h22]), (by simp only [EV, seval]), by omega, by omega, (by simp only [EV, seval] <;> rfl), (by rw [hs]; (try simp only [List.nil_append]); exact .inr (.inr ⟨_, rfl, (by simp only [EV, seval] <;> omega), (by simp only [EV, seval] <;> rfl)⟩)), (by rw [hs]; (try simp only [List.nil_append]); exact .inr ⟨_, rfl, (by simp only [EV, seval] <;> omega), (by simp only [EV, seval] <;> rfl)⟩)⟩
            · refine go_on (st' := ?s20) ?h20 ((ns.length - (k + 1))) (by omega) ?q20
              case h20 =>
                simp -implicitDefEqProofs only [ZZ, seval, h4, hh4, h1, h21, h22, h23, h5, hlt, k0, hw, hq, u0, u1, hneg, hy, hl1, hx, hl2]
                rfl
              case q20 => exact ⟨k + 1, _, _, (by simp only [EV, seval, h4]), (by simp only [EV, seval] <;> rfl), (by simp only [EV, seval, h1]), (by simp only [EV, seval, h21]), (by simp only [EV, seval, h22]), (by simp only [EV, seval]), by omega, by omega, (by simp only [EV, seval] <;> rfl), (by rw [hs]; (try simp only [List.nil_append]); exact .inr (.inr ⟨_, rfl, (by simp only [EV, seval] <;> omega), (by simp only [EV, seval] <;> rfl)⟩)), (by rw [hs]; (try simp only [List.nil_append]); exact .inr ⟨_, rfl, (by simp only [EV, seval] <;> omega), (by simp only [EV, seval] <;> rfl)⟩)⟩
    · have hkn : k = ns.length := by omega
      subst hkn
      refine go_out (e := .exit 0) (st' := ?s21) ?h21 (by simp) ?q21
      case h21 =>
        simp -implicitDefEqProofs only [ZZ, seval, h4, hh4, h1, h21, h22, h23, hlt, h5]
        rfl
      case q21 => exact ⟨rfl, x, y, (by simp only [EV, seval, h4]), (by simp only [EV, seval, hh4]), (by simp only [EV, seval, h5]), hy, hx⟩
  case start => exact ⟨0, _, _, (by simp only [EV, seval]), (by simp only [EV, seval] <;> rfl), (by simp only [EV, seval]), (by simp only [EV, seval]), (by simp only [EV, seval]), (by simp only [EV, seval]), by omega, by omega, (by simp only [EV, seval] <;> rfl), .inl ⟨rfl, rfl⟩, .inl ⟨rfl, rfl⟩⟩
  case rest =>
    rintro e st ⟨rfl, x, y, h4, hh4, h5, hy, hx⟩
    have hlen := prF_idx ns i ns.length
    have hne := prF_ne ns hu i0 i1
    rcases hy with ⟨rfl, hy⟩ | ⟨g, rfl, hg, hy⟩ | ⟨g, rfl, hg, hy⟩ <;> rcases hx with ⟨rfl, hx⟩ | ⟨g', rfl, hg', hx⟩
    · exact absurd hx hne
    · rw [hy] at hlen; simp at hlen; omega
    · exact absurd hx hne
    · simp -implicitDefEqProofs only [ZZ, seval, h4, hh4, h5]
      exact endL_three (keep_none (by decide)) (.inl rfl) rfl (by simp -implicitDefEqProofs only [resA, ZZ, seval, h4, hh4, h5]; rfl) (by simp only [resA, EV, seval] <;> rfl) (by simp only [resA, EV, seval] <;> rfl) (by simp only [EV, seval, hx, Option.map_some] <;> rfl) (by simp only [EV, seval, hy]) (by simp only [EV, seval])
    · exact absurd hx hne
    · simp -implicitDefEqProofs only [ZZ, seval, h4, hh4, h5]
      exact endL_three (keep_none (by decide)) (.inl rfl) rfl (by simp -implicitDefEqProofs only [resA, ZZ, seval, h4, hh4, h5]; rfl) (by simp only [resA, EV, seval] <;> rfl) (by simp only [resA, EV, seval] <;> rfl) (by simp only [EV, seval, hx, Option.map_some] <;> rfl) (by simp only [EV, seval, hy]) (by simp only [EV, seval])
/-- The zero tree, no index, an error. -/
def prErr : AV := .tup [.agg [.v (.slice none 0 0)], .v (.slice none 0 0), .v (.int .i64 10)]
theorem c31e (ns : List Node) (i : Int) (h : ¬ (0 ≤ i ∧ i < ns.length)) : callL Try.prog 31 [.agg (cTree ⟨ns⟩), .v (.int .i64 i)] = some prErr := by
  rw [callL_eq Try.prog Try.func31 rfl ok31 _ (ext_none _ (by decide)) rfl]
  by_cases h0 : i < 0
  · have hi0 : decide (i < 0) = true := by simp [h0]
    simp -implicitDefEqProofs only [ZZ, seval, hi0]
    exact endL_three (keep_none (by decide)) (.inl rfl) rfl (by simp -implicitDefEqProofs only [resA, ZZ, seval]; rfl) (by simp only [resA, EV, seval] <;> rfl) (by simp only [resA, EV, seval] <;> rfl) (by simp only [EV, seval]) (by simp only [EV, seval]) (by simp only [EV, seval])
  · have hi0 : decide (i < 0) = false := by simp [h0]
    have hi1 : decide ((ns.length : Int) ≤ i) = true := by simp; omega
    simp -implicitDefEqProofs only [ZZ, seval, hi0, hi1]
    exact endL_three (keep_none (by decide)) (.inl rfl) rfl (by simp -implicitDefEqProofs only [resA, ZZ, seval]; rfl) (by simp only [resA, EV, seval] <;> rfl) (by simp only [resA, EV, seval] <;> rfl) (by simp only [EV, seval]) (by simp only [EV, seval]) (by simp only [EV, seval])
theorem c32e (ns : List Node) (i : Int) (h : ¬ (0 ≤ i ∧ i < ns.length)) : callL Try.prog 32 [.agg (cTree ⟨ns⟩), .v (.int .i64 i)] = some prErr := by
  rw [callL_eq Try.prog Try.func32 rfl ok32 _ (ext_none _ (by decide)) rfl]
  have hd : (decide (0 ≤ i) && decide (i < ns.length)) = false := by
    rw [← Bool.not_eq_true]; simpa using h
  simp -implicitDefEqProofs only [ZZ, seval, k86, hd]
  exact endL_three (keep_none (by decide)) (.inl rfl) rfl (by simp -implicitDefEqProofs only [resA, ZZ, seval]; rfl) (by simp only [resA, EV, seval] <;> rfl) (by simp only [resA, EV, seval] <;> rfl) (by simp only [EV, seval]) (by simp only [EV, seval]) (by simp only [EV, seval])
def prOk (ns : List Node) (i : Int) : AV := .tup [.agg (cTree ⟨(prF ns i ns.length).1⟩), .sl (prF ns i ns.length).2.length (csInt (prF ns i ns.length).2), .v (.int .i64 0)]
theorem flat_prOk (ns : List Node) (i : Int) : Flat (prOk ns i) := .tup _ (flat3 (flatT _) (flatSl _) (.v _))
theorem flat_prErr : Flat prErr := .tup _ (flat3 flatNT (.v _) (.v _))
def isIn (ns : List Node) (i : Int) : Prop := 0 ≤ i ∧ i < ns.length
theorem k31 (ns : List Node) (hu : UpOk ns) (hr : (nd ns 0).up < 0) (hn : (ns.length : Int) < 1000000) (i : Int) (h : 0 ≤ i ∧ i < ns.length) (st : St) (d : Option Nat) : callFn (callL Try.prog) 31 [.agg (cTree ⟨ns⟩), .v (.int .i64 i)] st d = some { dst := d, val := prOk ns i } := call_flat (flat2 (flatT _) (.v _)) (c31 ns hu hr hn i h.1 h.2) (flat_prOk ns i)
theorem k32 (ns : List Node) (hu : UpOk ns) (hn : (ns.length : Int) < 1000000) (i : Int) (h : 0 ≤ i ∧ i < ns.length) (st : St) (d : Option Nat) : callFn (callL Try.prog) 32 [.agg (cTree ⟨ns⟩), .v (.int .i64 i)] st d = some { dst := d, val := prOk ns i } := call_flat (flat2 (flatT _) (.v _)) (c32 ns hu hn i h.1 h.2) (flat_prOk ns i)
theorem k31e (ns : List Node) (i : Int) (h : ¬ (0 ≤ i ∧ i < ns.length)) (st : St) (d : Option Nat) : callFn (callL Try.prog) 31 [.agg (cTree ⟨ns⟩), .v (.int .i64 i)] st d = some { dst := d, val := prErr } := call_flat (flat2 (flatT _) (.v _)) (c31e ns i h) flat_prErr
theorem k32e (ns : List Node) (i : Int) (h : ¬ (0 ≤ i ∧ i < ns.length)) (st : St) (d : Option Nat) : callFn (callL Try.prog) 32 [.agg (cTree ⟨ns⟩), .v (.int .i64 i)] st d = some { dst := d, val := prErr } := call_flat (flat2 (flatT _) (.v _)) (c32e ns i h) flat_prErr
end Go.Ab.Try
end
section
set_option linter.unusedSimpArgs false
set_option linter.unusedVariables false
set_option maxRecDepth 20000
namespace Go.Ab.Try
open Classical Go.Proofs Go.Ab
/-- What stands where in the pruned list. -/
theorem prF_at {ns : List Node} (hu : UpOk ns) {i : Int} : ∀ k : Nat, k ≤ ns.length → ∀ a : Int, 0 ≤ a → a < k → anc ns i a = true →
    0 ≤ it (prF ns i k).2 a ∧ it (prF ns i k).2 a < (prF ns i k).1.length ∧ nd (prF ns i k).1 (it (prF ns i k).2 a) = { nd ns a with up := if a = i then -1 else it (prF ns i k).2 (nd ns a).up }
  | 0, _, a, a0, a1, _ => by omega
  | k + 1, hk, a, a0, a1, ha => by
    have hl := prF_idx ns i k
    have hup : a ≠ i → 0 ≤ (nd ns a).up ∧ (nd ns a).up < a := fun h => by
      by_cases ha0 : a = 0
      · subst ha0; rw [anc_zero (by omega)] at ha; simp at ha; omega
      · exact hu a (by omega) (by omega)
    by_cases hak : a < k
    · obtain ⟨h1, h2, h3⟩ := prF_at hu k (by omega) a a0 hak ha
      simp only [prF]
      split
      · simp only
        rw [it_app_lt a0 (by omega), nd_app_lt h1 h2, h3]
        refine ⟨h1, by simp; omega, ?_⟩
        by_cases hai : a = i
        · rw [if_pos hai, if_pos hai]
        · obtain ⟨u0, u1⟩ := hup hai
          rw [if_neg hai, if_neg hai, it_app_lt u0 (by omega)]
      · simp only
        rw [it_app_lt a0 (by omega), h3]
        refine ⟨h1, h2, ?_⟩
        by_cases hai : a = i
        · rw [if_pos hai, if_pos hai]
        · obtain ⟨u0, u1⟩ := hup hai
          rw [if_neg hai, if_neg hai, it_app_lt u0 (by omega)]
    · have hak : a = k := by omega
      subst hak
      simp only [prF, ha, if_true]
      rw [it_app_eq (by omega), nd_app_eq rfl]
      refine ⟨by omega, by simp <;> omega, ?_⟩
      by_cases hai : (k : Int) = i
      · rw [if_pos hai, if_pos hai]
      · obtain ⟨u0, u1⟩ := hup hai
        rw [if_neg hai, if_neg hai, it_app_lt u0 (by omega)]
theorem prF_stable (ns : List Node) (i : Int) : ∀ (d k : Nat) (a : Int), 0 ≤ a → a < k → it (prF ns i (k + d)).2 a = it (prF ns i k).2 a
  | 0, k, a, _, _ => rfl
  | d + 1, k, a, a0, a1 => by
    have ih := prF_stable ns i d k a a0 a1
    have hl := prF_idx ns i (k + d)
    rw [← ih, ← Nat.add_assoc]
    simp only [prF]
    split
    · simp only; rw [it_app_lt a0 (by omega)]
    · simp only; rw [it_app_lt a0 (by omega)]
theorem prF_pos {ns : List Node} {i : Int} {n : Nat} {k : Nat} (hk : k < n) (ha : anc ns i k = true) : it (prF ns i n).2 k = (prF ns i k).1.length := by
  obtain ⟨d, rfl⟩ : ∃ d, n = k + 1 + d := ⟨n - (k + 1), by omega⟩
  rw [prF_stable ns i d (k + 1) k (by omega) (by omega)]
  have hl := prF_idx ns i k
  simp only [prF, ha, if_true]
  rw [it_app_eq (by omega)]
/-- The positions rise. -/
theorem prF_mono {ns : List Node} (hu : UpOk ns) {i : Int} {n : Nat} (hn : n ≤ ns.length) {a b : Int} (a0 : 0 ≤ a) (hab : a < b) (hb : b < n) (ha : anc ns i a = true) (hb' : anc ns i b = true) : it (prF ns i n).2 a < it (prF ns i n).2 b := by
  obtain ⟨k, rfl⟩ : ∃ k : Nat, b = k := ⟨b.toNat, by omega⟩
  rw [prF_pos (by omega) hb']
  obtain ⟨d, rfl⟩ : ∃ d, n = k + d := ⟨n - k, by omega⟩
  rw [prF_stable ns i d k a a0 hab]
  exact (prF_at hu k (by omega) a a0 hab ha).2.1
theorem prF_onto (ns : List Node) (i : Int) : ∀ (k : Nat) (m : Int), 0 ≤ m → m < (prF ns i k).1.length → ∃ a : Int, 0 ≤ a ∧ a < k ∧ anc ns i a = true ∧ it (prF ns i k).2 a = m
  | 0, m, m0, m1 => by simp [prF] at m1; omega
  | k + 1, m, m0, m1 => by
    have hl := prF_idx ns i k
    simp only [prF] at m1 ⊢
    split at m1
    · rename_i h
      rw [if_pos h]
      simp only at m1 ⊢
      by_cases hm : m < (prF ns i k).1.length
      · obtain ⟨a, a0, a1, ha, he⟩ := prF_onto ns i k m m0 hm
        exact ⟨a, a0, by omega, ha, by rw [it_app_lt a0 (by omega)]; exact he⟩
      · simp at m1
        exact ⟨k, by omega, by omega, h, by rw [it_app_eq (by omega)]; omega⟩
    · rename_i h
      rw [if_neg h]
      simp only at m1 ⊢
      obtain ⟨a, a0, a1, ha, he⟩ := prF_onto ns i k m m0 m1
      exact ⟨a, a0, by omega, ha, by rw [it_app_lt a0 (by omega)]; exact he⟩
end Go.Ab.Try
end
section
set_option linter.unusedSimpArgs false
set_option linter.unusedVariables false
set_option maxRecDepth 20000
namespace Go.Ab.Try
open Classical Go.Proofs Go.Ab
theorem anc_ne' {ns : List Node} (hu : UpOk ns) {i k : Int} (k0 : 0 < k) (k1 : k < ns.length) (h : k ≠ i) : anc ns i k = anc ns i (nd ns k).up := anc_step hu k0 k1 (Ne.symm h)
section
variable {ns : List Node} {i : Int}
theorem pr_at (hu : UpOk ns) {a : Int} (ha : anc ns i a = true) : 0 ≤ it (prF ns i ns.length).2 a ∧ it (prF ns i ns.length).2 a < (prF ns i ns.length).1.length ∧ nd (prF ns i ns.length).1 (it (prF ns i ns.length).2 a) = { nd ns a with up := if a = i then -1 else it (prF ns i ns.length).2 (nd ns a).up } := by
  have h := (anc_in hu ha).2
  exact prF_at hu ns.length (Nat.le_refl _) a h.1 h.2 ha
theorem pr_mono (hu : UpOk ns) {a b : Int} (hab : a < b) (ha : anc ns i a = true) (hb : anc ns i b = true) : it (prF ns i ns.length).2 a < it (prF ns i ns.length).2 b :=
  prF_mono hu (Nat.le_refl _) (anc_in hu ha).2.1 hab (anc_in hu hb).2.2 ha hb
theorem pr_inj (hu : UpOk ns) {a b : Int} (ha : anc ns i a = true) (hb : anc ns i b = true) (h : it (prF ns i ns.length).2 a = it (prF ns i ns.length).2 b) : a = b := by
  rcases Int.lt_trichotomy a b with h1 | h1 | h1
  · have := pr_mono hu h1 ha hb; omega
  · exact h1
  · have := pr_mono hu h1 hb ha; omega
theorem pr_zero (hu : UpOk ns) (hi : anc ns i i = true) : it (prF ns i ns.length).2 i = 0 := by
  obtain ⟨h1, h2, _⟩ := pr_at hu hi
  obtain ⟨a, a0, a1, ha, he⟩ := prF_onto ns i ns.length 0 (Int.le_refl 0) (by omega)
  have := anc_le hu ha
  by_cases h : i = a
  · rw [h] at he ⊢
    rw [← h] at he ⊢
    exact he
  · have := pr_mono hu (show i < a by omega) hi ha
    omega
/-- A descendant that is not the root has its parent among the descendants. -/
theorem pr_up (hu : UpOk ns) {a : Int} (ha : anc ns i a = true) (h : a ≠ i) : 0 < a ∧ (0 ≤ (nd ns a).up ∧ (nd ns a).up < a) ∧ anc ns i (nd ns a).up = true := by
  obtain ⟨⟨i0, _⟩, a0, a1⟩ := anc_in hu ha
  have := anc_le hu ha
  have hp : 0 < a := by omega
  refine ⟨hp, hu a hp a1, ?_⟩
  rw [← anc_up hu a1 (by omega) i0]; exact ha
theorem pr_upok (hu : UpOk ns) (hi : anc ns i i = true) : UpOk (prF ns i ns.length).1 := by
  intro m m0 m1
  obtain ⟨a, a0, a1, ha, rfl⟩ := prF_onto ns i ns.length m (by omega) m1
  have hai : a ≠ i := by rintro rfl; rw [pr_zero hu hi] at m0; omega
  obtain ⟨_, ⟨u0, u1⟩, hup⟩ := pr_up hu ha hai
  rw [(pr_at hu ha).2.2]
  simp only [if_neg hai]
  exact ⟨(pr_at hu hup).1, pr_mono hu u1 hup ha⟩
theorem pr_anc (hu : UpOk ns) (hi : anc ns i i = true) : ∀ (k : Nat) (a b : Int), b.toNat = k → anc ns i a = true → anc ns i b = true → anc (prF ns i ns.length).1 (it (prF ns i ns.length).2 a) (it (prF ns i ns.length).2 b) = anc ns a b := by
  intro k
  induction k using Nat.strongRecOn with
  | _ k ih =>
    intro a b hk ha hb
    have hU := pr_upok hu hi
    obtain ⟨p1, p2, p3⟩ := pr_at hu hb
    obtain ⟨q1, q2, q3⟩ := pr_at hu ha
    by_cases hab : a = b
    · subst hab
      have e1 : anc (prF ns i ns.length).1 (it (prF ns i ns.length).2 a) (it (prF ns i ns.length).2 a) = true := decide_eq_true (path_self hU p1 p2)
      have e2 : anc ns a a = true := decide_eq_true (path_self hu (anc_in hu ha).2.1 (anc_in hu ha).2.2)
      rw [e1, e2]
    · have hne : it (prF ns i ns.length).2 a ≠ it (prF ns i ns.length).2 b := fun h => hab (pr_inj hu ha hb h)
      by_cases hbi : b = i
      · subst hbi
        have e1 : anc ns a b = false := by
          rw [← Bool.not_eq_true]
          intro h
          exact hab (anc_anti hu h ha)
        rw [e1, pr_zero hu hi, anc_zero (by omega)]
        rw [pr_zero hu hi] at hne
        simpa using hne
      · obtain ⟨b0, ⟨u0, u1⟩, hup⟩ := pr_up hu hb hbi
        have hpos : 0 < it (prF ns i ns.length).2 b := by
          have h1 := pr_mono hu u1 hup hb
          have := (pr_at hu hup).1
          omega
        rw [anc_ne' hU hpos p2 hne.symm, p3]
        simp only [if_neg hbi]
        rw [ih (nd ns b).up.toNat (by omega) a _ rfl ha hup, ← anc_ne' hu b0 (anc_in hu hb).2.2 (Ne.symm hab)]
end
end Go.Ab.Try
end
section
set_option linter.unusedSimpArgs false
set_option linter.unusedVariables false
set_option maxRecDepth 20000
namespace Go.Ab.Try
open Classical Go.Proofs Go.Ab
theorem twice_main {ns N : List Node} {S : List Int} {i j : Int} (hu : UpOk ns) (hN : (prF ns i ns.length).1 = N) (hS : (prF ns i ns.length).2 = S) (hi : anc ns i i = true) (hj : anc ns i j = true) : ∀ k : Nat, k ≤ ns.length →
    (prF N (it S j) (prF ns i k).1.length).1 = (prF ns j k).1 ∧ ∀ a : Int, 0 ≤ a → a < k → anc ns i a = true → it (prF N (it S j) (prF ns i k).1.length).2 (it S a) = it (prF ns j k).2 a
  | 0, _ => ⟨rfl, fun a a0 a1 => by omega⟩
  | k + 1, hk => by
    obtain ⟨ih1, ih2⟩ := twice_main hu hN hS hi hj k (by omega)
    have hlD := prF_idx ns j k
    have hlR := prF_idx N (it S j) (prF ns i k).1.length
    have fat := fun (a : Int) (ha : anc ns i a = true) => pr_at hu ha
    have fmono := fun (a b : Int) (hab : a < b) (ha : anc ns i a = true) (hb : anc ns i b = true) => pr_mono hu hab ha hb
    have fanc := fun (a b : Int) (ha : anc ns i a = true) (hb : anc ns i b = true) => pr_anc hu hi _ a b rfl ha hb
    have finj := fun (a b : Int) (ha : anc ns i a = true) (hb : anc ns i b = true) => pr_inj hu ha hb
    rw [hN, hS] at fat
    rw [hS] at fmono finj
    rw [hN, hS] at fanc
    cases hk1 : anc ns i k
    · have hjk : anc ns j k = false := by
        rw [← Bool.not_eq_true]
        intro h
        rw [anc_trans hu _ i j k rfl hj h] at hk1
        cases hk1
      have eP : (prF ns i (k + 1)).1 = (prF ns i k).1 := by simp only [prF, hk1, Bool.false_eq_true, if_false]
      have eD : prF ns j (k + 1) = ((prF ns j k).1, (prF ns j k).2 ++ [-1]) := by simp only [prF, hjk, Bool.false_eq_true, if_false]
      rw [eP, eD]
      refine ⟨ih1, fun a a0 a1 ha => ?_⟩
      have hak : a ≠ k := by rintro rfl; rw [ha] at hk1; cases hk1
      rw [ih2 a a0 (by omega) ha]
      simp only
      rw [it_app_lt a0 (by omega)]
    · have hpos : it S k = (prF ns i k).1.length := by rw [← hS]; exact prF_pos (by omega) hk1
      have eP : (prF ns i (k + 1)).1.length = (prF ns i k).1.length + 1 := by simp only [prF, hk1, if_true, List.length_append, List.length_singleton]
      have hNk : nd N ((prF ns i k).1.length : Int) = { nd ns k with up := if (k : Int) = i then -1 else it S (nd ns k).up } := by rw [← hpos]; exact (fat k hk1).2.2
      have hak : anc N (it S j) ((prF ns i k).1.length : Int) = anc ns j k := by rw [← hpos]; exact fanc j k hj hk1
      rw [eP]
      cases hjk : anc ns j k
      · rw [hjk] at hak
        have eD : prF ns j (k + 1) = ((prF ns j k).1, (prF ns j k).2 ++ [-1]) := by simp only [prF, hjk, Bool.false_eq_true, if_false]
        have eR : prF N (it S j) ((prF ns i k).1.length + 1) = ((prF N (it S j) (prF ns i k).1.length).1, (prF N (it S j) (prF ns i k).1.length).2 ++ [-1]) := by simp only [prF, hak, Bool.false_eq_true, if_false]
        rw [eD, eR]
        refine ⟨ih1, fun a a0 a1 ha => ?_⟩
        simp only
        by_cases h : a = k
        · subst h
          rw [it_app_eq (by omega), it_app_eq (by omega)]
        · have hlt := fmono a k (by omega) ha hk1
          rw [it_app_lt (fat a ha).1 (by omega), it_app_lt a0 (by omega)]
          exact ih2 a a0 (by omega) ha
      · rw [hjk] at hak
        have eD : prF ns j (k + 1) = ((prF ns j k).1 ++ [{ nd ns k with up := if (k : Int) = j then -1 else it (prF ns j k).2 (nd ns k).up }], (prF ns j k).2 ++ [((prF ns j k).1.length : Int)]) := by simp only [prF, hjk, if_true]
        have eR : prF N (it S j) ((prF ns i k).1.length + 1) = ((prF N (it S j) (prF ns i k).1.length).1 ++ [{ nd N ((prF ns i k).1.length : Int) with up := if ((prF ns i k).1.length : Int) = it S j then -1 else it (prF N (it S j) (prF ns i k).1.length).2 (nd N ((prF ns i k).1.length : Int)).up }], (prF N (it S j) (prF ns i k).1.length).2 ++ [((prF N (it S j) (prF ns i k).1.length).1.length : Int)]) := by simp only [prF, hak, if_true]
        have hup : (if ((prF ns i k).1.length : Int) = it S j then (-1 : Int) else it (prF N (it S j) (prF ns i k).1.length).2 (nd N ((prF ns i k).1.length : Int)).up) = if (k : Int) = j then -1 else it (prF ns j k).2 (nd ns k).up := by
          by_cases hkj : (k : Int) = j
          · rw [if_pos hkj, if_pos (by rw [← hpos, hkj])]
          · have hki : (k : Int) ≠ i := by
              intro h
              have h2 := anc_le hu hjk
              have h3 := anc_le hu hj
              omega
            obtain ⟨_, ⟨u0, u1⟩, hupi⟩ := pr_up hu hk1 hki
            rw [if_neg hkj, if_neg (by rw [← hpos]; intro h; exact hkj (finj k j hk1 hj h)), hNk]
            simp only [if_neg hki]
            exact ih2 _ u0 (by omega) hupi
        rw [eD, eR, hup]
        refine ⟨by rw [ih1, hNk], fun a a0 a1 ha => ?_⟩
        simp only
        by_cases h : a = k
        · subst h
          rw [it_app_eq (by omega), it_app_eq (by omega), ih1]
        · have hlt := fmono a k (by omega) ha hk1
          rw [it_app_lt (fat a ha).1 (by omega), it_app_lt a0 (by omega)]
          exact ih2 a a0 (by omega) ha
/-- Pruning the pruned tree at a kept node is pruning at that node. -/
theorem prF_twice {ns : List Node} {i j : Int} (hu : UpOk ns) (hi : anc ns i i = true) (hj : anc ns i j = true) :
    (prF (prF ns i ns.length).1 (it (prF ns i ns.length).2 j) (prF ns i ns.length).1.length).1 = (prF ns j ns.length).1 :=
  (twice_main hu rfl rfl hi hj ns.length (Nat.le_refl _)).1
theorem anc_0 {ns : List Node} (hu : UpOk ns) : ∀ (k : Nat) (z : Int), z.toNat = k → 0 ≤ z → z < ns.length → anc ns 0 z = true := by
  intro k
  induction k using Nat.strongRecOn with
  | _ k ih =>
    intro z hk z0 z1
    by_cases h : z = 0
    · subst h; unfold anc; exact decide_eq_true (path_self hu z0 z1)
    · obtain ⟨u0, u1⟩ := hu z (by omega) z1
      rw [anc_up hu z1 (by omega) (by omega)]
      exact ih (nd ns z).up.toNat (by omega) _ rfl u0 (by omega)
theorem prF_root {ns : List Node} (hu : UpOk ns) (hr : (nd ns 0).up = -1) : ∀ k : Nat, k ≤ ns.length → (prF ns 0 k).1 = ns.take k ∧ ∀ a : Int, 0 ≤ a → a < k → it (prF ns 0 k).2 a = a
  | 0, _ => ⟨by simp [prF], fun a a0 a1 => by omega⟩
  | k + 1, hk => by
    obtain ⟨h1, h2⟩ := prF_root hu hr k (by omega)
    have hl := prF_idx ns 0 k
    have ha := anc_0 hu _ (k : Int) rfl (by omega) (by omega)
    have hkn : k < ns.length := by omega
    have hx : nd ns (k : Int) = ns[k] := by simp [nd, hkn]
    have hup : (if (k : Int) = 0 then (-1 : Int) else it (prF ns 0 k).2 (nd ns k).up) = (nd ns k).up := by
      by_cases h : (k : Int) = 0
      · rw [if_pos h, h, hr]
      · obtain ⟨u0, u1⟩ := hu k (by omega) (by omega)
        rw [if_neg h, h2 _ u0 u1]
    have e : prF ns 0 (k + 1) = ((prF ns 0 k).1 ++ [{ nd ns k with up := if (k : Int) = 0 then -1 else it (prF ns 0 k).2 (nd ns k).up }], (prF ns 0 k).2 ++ [((prF ns 0 k).1.length : Int)]) := by simp only [prF, ha, if_true]
    rw [e, hup]
    refine ⟨?_, fun a a0 a1 => ?_⟩
    · simp only
      rw [h1, List.take_succ_eq_append_getElem hkn, ← hx]
    · simp only
      by_cases h : a = k
      · subst h
        rw [it_app_eq (by omega), h1, List.length_take]
        omega
      · rw [it_app_lt a0 (by omega)]
        exact h2 a a0 (by omega)
theorem prF_whole {ns : List Node} (hu : UpOk ns) (hr : (nd ns 0).up = -1) : (prF ns 0 ns.length).1 = ns := by
  rw [(prF_root hu hr ns.length (Nat.le_refl _)).1, List.take_length]
end Go.Ab.Try
end
