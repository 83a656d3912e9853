/-
  Part G3 of the proof: what functions of this program compute.
-/
import Derived.Test.YtgpkmepalmdmeaaG2
set_option linter.all false
set_option linter.unusedSimpArgs false
set_option linter.unusedVariables false
set_option maxRecDepth 20000
set_option maxHeartbeats 4000000
namespace Go.Ab.Try
open Classical Go.Proofs Go.Ab
/-- ref11.Same -/
theorem c33 (a b : List Node) (hn : (a.length : Int) < 1000000) : callL Try.prog 33 [.agg (cTree ⟨a⟩), .agg (cTree ⟨b⟩)] = some (.v (.bool (decide (a = b)))) := by
  rw [callL_eq Try.prog Try.func33 rfl ok33 _ (ext_none _ (by decide)) rfl]
  by_cases hlen : a.length = b.length
  · have hq : ((a.length : Int) != (b.length : Int)) = false := by simp [hlen]
    simp -implicitDefEqProofs only [ZZ, seval, hq]
    refine use_loop (fun n st => ∃ i : Int, st.env 2 = .ptr 2 0 0 ∧ st.env 3 = .ptr 3 0 0 ∧ st.heap 2 0 = some (.cells (cTree ⟨a⟩)) ∧ st.heap 3 0 = some (.cells (cTree ⟨b⟩)) ∧ st.env 5 = .v (.int .i64 i) ∧ 0 ≤ i ∧ i ≤ a.length ∧ n = (a.length - i).toNat ∧ ∀ j, 0 ≤ j → j < i → nd a j = nd b j)
      (fun e st => (e = .ret ∧ st.env 4 = .v (.bool (decide (a = b)))) ∨ (e = .exit 0 ∧ decide (a = b) = true)) a.length ?step ?start ?rest
    case step =>
      rintro n st ⟨i, h2, h3, hh2, hh3, h5, i0, i1, hn', hb⟩
      by_cases hlt : i < a.length
      · have hw : IntKind.i64.wrap (i + 1) = i + 1 := w64 _ (by omega) (by omega)
        have hlt' : i < b.length := by omega
        by_cases hr : nd a i = nd b i
        · have hbq : decide (nd a i = nd b i) = true := by simp [hr]
          refine go_on (st' := ?s1) ?h1 ((a.length - (i + 1)).toNat) (by omega) ?q1
          case h1 =>
            simp -implicitDefEqProofs only [ZZ, seval, h2, h3, hh2, hh3, h5, hlt, hlt', i0, hbq, hw]
            rfl
          case q1 => exact ⟨i + 1, by simp only [EV, seval, h2], by simp only [EV, seval, h3], by simp only [EV, seval, hh2], by simp only [EV, seval, hh3], (by simp only [EV, seval]), by omega, by omega, rfl, fun j j0 j1 => by
            rcases Int.lt_or_eq_of_le (show j ≤ i by omega) with h | rfl
            · exact hb j j0 h
            · exact hr⟩
        · have hbq : decide (nd a i = nd b i) = false := by simp [hr]
          have hd : decide (a = b) = false := by rw [decide_eq_false_iff_not]; intro h; exact hr (by rw [h])
          refine go_out (e := .ret) (st' := ?s2) ?h2 (by simp) ?q2
          case h2 =>
            simp -implicitDefEqProofs only [ZZ, seval, h2, h3, hh2, hh3, h5, hlt, hlt', i0, hbq]
            rfl
          case q2 => exact .inl ⟨rfl, by simp only [EV, seval, hd]⟩
      · refine go_out (e := .exit 0) (st' := ?s3) ?h3 (by simp) ?q3
        case h3 =>
          simp -implicitDefEqProofs only [ZZ, seval, h2, h3, hh2, hh3, h5, hlt, i0]
          rfl
        case q3 => exact .inr ⟨rfl, by
          rw [decide_eq_true_eq]
          apply List.ext_getElem hlen
          intro j h1 h2
          have := hb j (by omega) (by omega)
          simpa [nd, h1, h2] using this⟩
    case start => exact ⟨0, (by simp only [EV, seval]), (by simp only [EV, seval]), (by simp only [EV, seval]), (by simp only [EV, seval]), (by simp only [EV, seval]), by omega, by omega, by omega, fun j _ _ => by omega⟩
    case rest =>
      rintro e st (⟨rfl, h⟩ | ⟨rfl, h⟩)
      · simp -implicitDefEqProofs only [ZZ, seval]
        exact endL_tmp (keep_none (by decide)) (.inl rfl) rfl h (.v _)
      · simp -implicitDefEqProofs only [ZZ, seval]
        exact endL_tmp (keep_none (by decide)) (.inl rfl) rfl (by simp only [EV, seval, h]) (.v _)
  · have hq : ((a.length : Int) != (b.length : Int)) = true := by simp; omega
    have hd : decide (a = b) = false := by rw [decide_eq_false_iff_not]; intro h; exact hlen (by rw [h])
    simp -implicitDefEqProofs only [ZZ, seval, hq]
    exact endL_tmp (keep_none (by decide)) (.inl rfl) rfl (by simp only [EV, seval, hd]) (.v _)
theorem flatNT : Flat (.agg [.v (.slice none 0 0)]) := .agg _ (by simp; exact .v _)
theorem c33n : callL Try.prog 33 [.agg [.v (.slice none 0 0)], .agg [.v (.slice none 0 0)]] = some (.v (.bool true)) := by
  rw [callL_eq Try.prog Try.func33 rfl ok33 _ (ext_none _ (by decide)) rfl]
  simp -implicitDefEqProofs only [ZZ, seval, evL_loop, Int.natCast_zero, Int.lt_irrefl, decide_false, bne_self_eq_false]
  exact endL_tmp (keep_none (by decide)) (.inl rfl) rfl (by simp only [EV, seval]) (.v _)
theorem k33 (a b : List Node) (hn : (a.length : Int) < 1000000) (st : St) (d : Option Nat) : callFn (callL Try.prog) 33 [.agg (cTree ⟨a⟩), .agg (cTree ⟨b⟩)] st d = some { dst := d, val := .v (.bool (decide (a = b))) } := call_flat (flat2 (flatT _) (flatT _)) (c33 a b hn) (.v _)
theorem k33n (st : St) (d : Option Nat) : callFn (callL Try.prog) 33 [.agg [.v (.slice none 0 0)], .agg [.v (.slice none 0 0)]] st d = some { dst := d, val := .v (.bool true) } := call_flat (flat2 flatNT flatNT) c33n (.v _)

/-- What pruning makes of the first k nodes: the nodes kept, and the index. -/
def prF (ns : List Node) (i : Int) : Nat → List Node × List Int
  | 0 => ([], [])
  | k + 1 =>
    let p := prF ns i k
    if anc ns i k = true then (p.1 ++ [{ nd ns k with up := if (k : Int) = i then -1 else it p.2 (nd ns k).up }], p.2 ++ [(p.1.length : Int)]) else (p.1, p.2 ++ [-1])
theorem prF_idx (ns : List Node) (i : Int) : ∀ k, (prF ns i k).2.length = k
  | 0 => rfl
  | k + 1 => by
    have := prF_idx ns i k
    simp only [prF]
    split <;> simp [this]
theorem prF_nodes (ns : List Node) (i : Int) : ∀ k, (prF ns i k).1.length ≤ k
  | 0 => Nat.le_refl _
  | k + 1 => by
    have := prF_nodes ns i k
    simp only [prF]
    split
    · simp; exact this
    · simp; omega
theorem it_app_lt {l m : List Int} {j : Int} (h0 : 0 ≤ j) (h1 : j < l.length) : it (l ++ m) j = it l j := by
  have : j.toNat < l.length := by omega
  simp [it, List.getElem?_append_left this]
theorem it_app_eq {l : List Int} {x : Int} {j : Int} (h : j = l.length) : it (l ++ [x]) j = x := by
  subst h
  simp [it]
theorem nd_app_lt {l m : List Node} {j : Int} (h0 : 0 ≤ j) (h1 : j < l.length) : nd (l ++ m) j = nd l j := by
  have : j.toNat < l.length := by omega
  simp [nd, List.getElem?_append_left this]
theorem nd_app_eq {l : List Node} {x : Node} {j : Int} (h : j = l.length) : nd (l ++ [x]) j = x := by
  subst h
  simp [nd]
/-- The index is not negative exactly at the descendants. -/
theorem prF_sign (ns : List Node) (i : Int) : ∀ (k : Nat) (j : Int), 0 ≤ j → j < k → (0 ≤ it (prF ns i k).2 j ↔ anc ns i j = true)
  | 0, j, _, h => by omega
  | k + 1, j, h0, h1 => by
    have hl := prF_idx ns i k
    by_cases hj : j < k
    · have ih := prF_sign ns i k j h0 hj
      simp only [prF]
      split
      · simp only; rw [it_app_lt h0 (by omega)]; exact ih
      · simp only; rw [it_app_lt h0 (by omega)]; exact ih
    · have hjk : j = k := by omega
      subst hjk
      simp only [prF]
      split
      · rename_i h
        simp only; rw [it_app_eq (by omega)]; simp [h]
      · rename_i h
        simp only; rw [it_app_eq (by omega)]; simp [h]
theorem anc_self {ns : List Node} (hu : UpOk ns) {i : Int} (i0 : 0 ≤ i) (i1 : i < ns.length) : anc ns i i = true := by
  unfold anc
  rw [decide_eq_true_eq]
  by_cases h : i = 0
  · subst h; rw [path_zero (by omega)]; simp
  · rw [path_step hu (by omega) i1]; simp
theorem anc_step {ns : List Node} (hu : UpOk ns) {a i : Int} (i0 : 0 < i) (i1 : i < ns.length) (h : a ≠ i) : anc ns a i = anc ns a (nd ns i).up := by
  unfold anc
  rw [path_step hu i0 i1]
  simp [h]
theorem anc_zero {ns : List Node} {a : Int} (h : 0 < ns.length) : anc ns a 0 = decide (a = 0) := by
  unfold anc
  rw [path_zero h]
  simp

theorem prF_ne (ns : List Node) (hu : UpOk ns) {i : Int} (i0 : 0 ≤ i) (i1 : i < ns.length) : (prF ns i ns.length).1 ≠ [] := by
  have main : ∀ k : Nat, i < k → k ≤ ns.length → (prF ns i k).1 ≠ [] := by
    intro k
    induction k with
    | zero => intro h; omega
    | succ k ih =>
      intro h1 h2
      by_cases hk : i < k
      · have := ih hk (by omega)
        simp only [prF]
        split
        · simp
        · exact this
      · have hki : i = k := by omega
        have : anc ns i k = true := by rw [← hki]; exact anc_self hu i0 i1
        simp [prF, this]
  exact main ns.length i1 (Nat.le_refl _)

/-- A variable of []int or []Node, nil or a row of the call's own. -/
def RowI (st : St) (s1 s2 : Nat) (y : AV) (l : List Int) : Prop :=
  (y = .v (.slice none 0 0) ∧ l = []) ∨ (∃ g, y = .own s1 g ∧ g < st.cnt s1 ∧ st.heap s1 g = some (.row 3 1 l.length (csInt l))) ∨ (∃ g, y = .own s2 g ∧ g < st.cnt s2 ∧ st.heap s2 g = some (.row 3 1 l.length (csInt l)))
def RowN (st : St) (s1 : Nat) (x : AV) (l : List Node) : Prop :=
  (x = .v (.slice none 0 0) ∧ l = []) ∨ (∃ g, x = .own s1 g ∧ g < st.cnt s1 ∧ st.heap s1 g = some (.row 54 240 l.length (csNode l)))
/-- ref11.Prune -/
theorem c32 (ns : List Node) (hu : UpOk ns) (hn : (ns.length : Int) < 1000000) (i : Int) (i0 : 0 ≤ i) (i1 : i < ns.length) : callL Try.prog 32 [.agg (cTree ⟨ns⟩), .v (.int .i64 i)] =
    some (.tup [.agg (cTree ⟨(prF ns i ns.length).1⟩), .sl (prF ns i ns.length).2.length (csInt (prF ns i ns.length).2), .v (.int .i64 0)]) := by
  have hd : (decide (0 ≤ i) && decide (i < ns.length)) = true := by simp [i0, i1]
  rw [callL_eq Try.prog Try.func32 rfl ok32 _ (ext_none _ (by decide)) rfl]
  simp -implicitDefEqProofs only [ZZ, seval, k86, hd]
  refine use_loop (fun n st => ∃ (k : Nat) (x y : AV), st.env 2 = .ptr 2 0 0 ∧ st.heap 2 0 = some (.cells (cTree ⟨ns⟩)) ∧ st.env 4 = .ptr 4 0 0 ∧ st.heap 4 0 = some (.cells [.v (.slice none 0 0)]) ∧ st.env 7 = .ptr 7 0 0 ∧ st.heap 7 0 = some (.cells [x]) ∧
      st.env 1 = .v (.int .i64 i) ∧ st.env 9 = .v (.int .i64 k) ∧ k ≤ ns.length ∧ n = ns.length - k ∧ st.env 8 = y ∧ RowI st 30 51 y (prF ns i k).2 ∧ RowN st 56 x (prF ns i k).1)
    (fun e st => e = .exit 0 ∧ ∃ (x y : AV), st.env 4 = .ptr 4 0 0 ∧ st.heap 4 0 = some (.cells [.v (.slice none 0 0)]) ∧ st.env 7 = .ptr 7 0 0 ∧ st.heap 7 0 = some (.cells [x]) ∧ st.env 8 = y ∧ RowI st 30 51 y (prF ns i ns.length).2 ∧ RowN st 56 x (prF ns i ns.length).1) ns.length ?step ?start ?rest
  case step =>
    rintro n st ⟨k, x, y, h2, hh2, h4, hh4, h7, hh7, h1, h9, hk, hn', h8, hy, hx⟩
    have hlen := prF_idx ns i k
    have hlen2 := prF_nodes ns i k
    have hl1 : ((prF ns i k).2.length : Int) < 1000000 := by omega
    have hl2 : ((prF ns i k).1.length : Int) < 1000000 := by omega
    by_cases hlt : (k : Int) < ns.length
    · have hw : IntKind.i64.wrap ((k : Int) + 1) = ((k + 1 : Nat) : Int) := by rw [w64 _ (by omega) (by omega)]; simp
      have k0 : (0 : Int) ≤ k := by omega
      by_cases hanc : anc ns i k = true
      · have hs : prF ns i (k + 1) = ((prF ns i k).1 ++ [{ nd ns k with up := if (k : Int) = i then -1 else it (prF ns i k).2 (nd ns k).up }], (prF ns i k).2 ++ [((prF ns i k).1.length : Int)]) := by simp only [prF, hanc, if_true]
        have upb : (k : Int) ≠ i → 0 ≤ (nd ns k).up ∧ (nd ns k).up < (prF ns i k).2.length := fun hne => by
          rcases Nat.eq_zero_or_pos k with h0 | h0
          · subst h0
            rw [show ((0 : Nat) : Int) = 0 from rfl, anc_zero (by omega)] at hanc
            simp at hanc
            omega
          · have := hu k (by omega) hlt
            rw [hlen]; omega
        by_cases hki : (k : Int) = i
        · have hq : ((k : Int) == i) = true := by simp [hki]
          rw [if_pos hki] at hs
          rcases hy with ⟨rfl, hy⟩ | ⟨g, rfl, hg, hy⟩ | ⟨g, rfl, hg, hy⟩ <;> rcases hx with ⟨rfl, hx⟩ | ⟨g', rfl, hg', hx⟩
          · rw [hy, hx] at hs
            refine go_on (st' := ?s4) ?h4 ((ns.length - (k + 1))) (by omega) ?q4
            case h4 =>
              simp -implicitDefEqProofs only [ZZ, seval, h2, hh2, h4, hh4, h7, hh7, h1, h9, h8, hlt, k0, k46 ns hu hn, hanc, hw, hq]
              rfl
            case q4 => exact ⟨k + 1, _, _, (by simp only [EV, seval, h2]), (by simp only [EV, seval, hh2]), (by simp only [EV, seval, h4]), (by simp only [EV, seval, hh4]), (by simp only [EV, seval, h7]), (by simp only [EV, seval]; rfl), (by simp only [EV, seval, h1]), (by simp only [EV, seval]), by omega, by omega, (by simp only [EV, seval]; rfl), (by rw [hs]; (try simp only [List.nil_append]); exact .inr (.inr ⟨_, rfl, (by simp only [EV, seval] <;> omega), (by simp only [EV, seval] <;> rfl)⟩)), (by rw [hs]; (try simp only [List.nil_append]); exact .inr ⟨_, rfl, (by simp only [EV, seval] <;> omega), (by simp only [EV, seval] <;> rfl)⟩)⟩
          · rw [hy] at hs
            refine go_on (st' := ?s5) ?h5 ((ns.length - (k + 1))) (by omega) ?q5
            case h5 =>
              simp -implicitDefEqProofs only [ZZ, seval, h2, hh2, h4, hh4, h7, hh7, h1, h9, h8, hlt, k0, k46 ns hu hn, hanc, hw, hq, hx, hl2]
              rfl
            case q5 => exact ⟨k + 1, _, _, (by simp only [EV, seval, h2]), (by simp only [EV, seval, hh2]), (by simp only [EV, seval, h4]), (by simp only [EV, seval, hh4]), (by simp only [EV, seval, h7]), (by simp only [EV, seval]; rfl), (by simp only [EV, seval, h1]), (by simp only [EV, seval]), by omega, by omega, (by simp only [EV, seval]; rfl), (by rw [hs]; (try simp only [List.nil_append]); exact .inr (.inr ⟨_, rfl, (by simp only [EV, seval] <;> omega), (by simp only [EV, seval] <;> rfl)⟩)), (by rw [hs]; (try simp only [List.nil_append]); exact .inr ⟨_, rfl, (by simp only [EV, seval] <;> omega), (by simp only [EV, seval] <;> rfl)⟩)⟩
          · rw [hx] at hs
            refine go_on (st' := ?s6) ?h6 ((ns.length - (k + 1))) (by omega) ?q6
            case h6 =>
              simp -implicitDefEqProofs only [ZZ, seval, h2, hh2, h4, hh4, h7, hh7, h1, h9, h8, hlt, k0, k46 ns hu hn, hanc, hw, hq, hy, hl1]
              rfl
            case q6 => exact ⟨k + 1, _, _, (by simp only [EV, seval, h2]), (by simp only [EV, seval, hh2]), (by simp only [EV, seval, h4]), (by simp only [EV, seval, hh4]), (by simp only [EV, seval, h7]), (by simp only [EV, seval]; rfl), (by simp only [EV, seval, h1]), (by simp only [EV, seval]), by omega, by omega, (by simp only [EV, seval]; rfl), (by rw [hs]; (try simp only [List.nil_append]); exact .inr (.inr ⟨_, rfl, (by simp only [EV, seval] <;> omega), (by simp only [EV, seval] <;> rfl)⟩)), (by rw [hs]; (try simp only [List.nil_append]); exact .inr ⟨_, rfl, (by simp only [EV, seval] <;> omega), (by simp only [EV, seval] <;> rfl)⟩)⟩
          · refine go_on (st' := ?s7) ?h7 ((ns.length - (k + 1))) (by omega) ?q7
            case h7 =>
              simp -implicitDefEqProofs only [ZZ, seval, h2, hh2, h4, hh4, h7, hh7, h1, h9, h8, hlt, k0, k46 ns hu hn, hanc, hw, hq, hy, hl1, hx, hl2]
              rfl
            case q7 => exact ⟨k + 1, _, _, (by simp only [EV, seval, h2]), (by simp only [EV, seval, hh2]), (by simp only [EV, seval, h4]), (by simp only [EV, seval, hh4]), (by simp only [EV, seval, h7]), (by simp only [EV, seval]; rfl), (by simp only [EV, seval, h1]), (by simp only [EV, seval]), by omega, by omega, (by simp only [EV, seval]; rfl), (by rw [hs]; (try simp only [List.nil_append]); exact .inr (.inr ⟨_, rfl, (by simp only [EV, seval] <;> omega), (by simp only [EV, seval] <;> rfl)⟩)), (by rw [hs]; (try simp only [List.nil_append]); exact .inr ⟨_, rfl, (by simp only [EV, seval] <;> omega), (by simp only [EV, seval] <;> rfl)⟩)⟩
          · rw [hx] at hs
            refine go_on (st' := ?s8) ?h8 ((ns.length - (k + 1))) (by omega) ?q8
            case h8 =>
              simp -implicitDefEqProofs only [ZZ, seval, h2, hh2, h4, hh4, h7, hh7, h1, h9, h8, hlt, k0, k46 ns hu hn, hanc, hw, hq, hy, hl1]
              rfl
            case q8 => exact ⟨k + 1, _, _, (by simp only [EV, seval, h2]), (by simp only [EV, seval, hh2]), (by simp only [EV, seval, h4]), (by simp only [EV, seval, hh4]), (by simp only [EV, seval, h7]), (by simp only [EV, seval]; rfl), (by simp only [EV, seval, h1]), (by simp only [EV, seval]), by omega, by omega, (by simp only [EV, seval]; rfl), (by rw [hs]; (try simp only [List.nil_append]); exact .inr (.inr ⟨_, rfl, (by simp only [EV, seval] <;> omega), (by simp only [EV, seval] <;> rfl)⟩)), (by rw [hs]; (try simp only [List.nil_append]); exact .inr ⟨_, rfl, (by simp only [EV, seval] <;> omega), (by simp only [EV, seval] <;> rfl)⟩)⟩
          · refine go_on (st' := ?s9) ?h9 ((ns.length - (k + 1))) (by omega) ?q9
            case h9 =>
              simp -implicitDefEqProofs only [ZZ, seval, h2, hh2, h4, hh4, h7, hh7, h1, h9, h8, hlt, k0, k46 ns hu hn, hanc, hw, hq, hy, hl1, hx, hl2]
              rfl
            case q9 => exact ⟨k + 1, _, _, (by simp only [EV, seval, h2]), (by simp only [EV, seval, hh2]), (by simp only [EV, seval, h4]), (by simp only [EV, seval, hh4]), (by simp only [EV, seval, h7]), (by simp only [EV, seval]; rfl), (by simp only [EV, seval, h1]), (by simp only [EV, seval]), by omega, by omega, (by simp only [EV, seval]; rfl), (by rw [hs]; (try simp only [List.nil_append]); exact .inr (.inr ⟨_, rfl, (by simp only [EV, seval] <;> omega), (by simp only [EV, seval] <;> rfl)⟩)), (by rw [hs]; (try simp only [List.nil_append]); exact .inr ⟨_, rfl, (by simp only [EV, seval] <;> omega), (by simp only [EV, seval] <;> rfl)⟩)⟩
        · have hq : ((k : Int) == i) = false := by simp [hki]
          obtain ⟨u0, u1⟩ := upb hki
          rw [if_neg hki] at hs
          rcases hy with ⟨rfl, hy⟩ | ⟨g, rfl, hg, hy⟩ | ⟨g, rfl, hg, hy⟩ <;> rcases hx with ⟨rfl, hx⟩ | ⟨g', rfl, hg', hx⟩
          · exfalso; rw [hy] at u1; simp at u1; omega
          · exfalso; rw [hy] at u1; simp at u1; omega
          · rw [hx] at hs
            refine go_on (st' := ?s10) ?h10 ((ns.length - (k + 1))) (by omega) ?q10
            case h10 =>
              simp -implicitDefEqProofs only [ZZ, seval, h2, hh2, h4, hh4, h7, hh7, h1, h9, h8, hlt, k0, k46 ns hu hn, hanc, hw, hq, u0, u1, hy, hl1]
              rfl
            case q10 => exact ⟨k + 1, _, _, (by simp only [EV, seval, h2]), (by simp only [EV, seval, hh2]), (by simp only [EV, seval, h4]), (by simp only [EV, seval, hh4]), (by simp only [EV, seval, h7]), (by simp only [EV, seval]; rfl), (by simp only [EV, seval, h1]), (by simp only [EV, seval]), by omega, by omega, (by simp only [EV, seval]; rfl), (by rw [hs]; (try simp only [List.nil_append]); exact .inr (.inr ⟨_, rfl, (by simp only [EV, seval] <;> omega), (by simp only [EV, seval] <;> rfl)⟩)), (by rw [hs]; (try simp only [List.nil_append]); exact .inr ⟨_, rfl, (by simp only [EV, seval] <;> omega), (by simp only [EV, seval] <;> rfl)⟩)⟩
          · refine go_on (st' := ?s11) ?h11 ((ns.length - (k + 1))) (by omega) ?q11
            case h11 =>
              simp -implicitDefEqProofs only [ZZ, seval, h2, hh2, h4, hh4, h7, hh7, h1, h9, h8, hlt, k0, k46 ns hu hn, hanc, hw, hq, u0, u1, hy, hl1, hx, hl2]
              rfl
            case q11 => exact ⟨k + 1, _, _, (by simp only [EV, seval, h2]), (by simp only [EV, seval, hh2]), (by simp only [EV, seval, h4]), (by simp only [EV, seval, hh4]), (by simp only [EV, seval, h7]), (by simp only [EV, seval]; rfl), (by simp only [EV, seval, h1]), (by simp only [EV, seval]), by omega, by omega, (by simp only [EV, seval]; rfl), (by rw [hs]; (try simp only [List.nil_append]); exact .inr (.inr ⟨_, rfl, (by simp only [EV, seval] <;> omega), (by simp only [EV, seval] <;> rfl)⟩)), (by rw [hs]; (try simp only [List.nil_append]); exact .inr ⟨_, rfl, (by simp only [EV, seval] <;> omega), (by simp only [EV, seval] <;> rfl)⟩)⟩
          · rw [hx] at hs
            refine go_on (st' := ?s12) ?h12 ((ns.length - (k + 1))) (by omega) ?q12
            case h12 =>
              simp -implicitDefEqProofs only [ZZ, seval, h2, hh2, h4, hh4, h7, hh7, h1, h9, h8, hlt, k0, k46 ns hu hn, hanc, hw, hq, u0, u1, hy, hl1]
              rfl
            case q12 => exact ⟨k + 1, _, _, (by simp only [EV, seval, h2]), (by simp only [EV, seval, hh2]), (by simp only [EV, seval, h4]), (by simp only [EV, seval, hh4]), (by simp only [EV, seval, h7]), (by simp only [EV, seval]; rfl), (by simp only [EV, seval, h1]), (by simp only [EV, seval]), by omega, by omega, (by simp only [EV, seval]; rfl), (by rw [hs]; (try simp only [List.nil_append]); exact .inr (.inr ⟨_, rfl, (by simp only [EV, seval] <;> omega), (by simp only [EV, seval] <;> rfl)⟩)), (by rw [hs]; (try simp only [List.nil_append]); exact .inr ⟨_, rfl, (by simp only [EV, seval] <;> omega), (by simp only [EV, seval] <;> rfl)⟩)⟩
          · refine go_on (st' := ?s13) ?h13 ((ns.length - (k + 1))) (by omega) ?q13
            case h13 =>
              simp -implicitDefEqProofs only [ZZ, seval, h2, hh2, h4, hh4, h7, hh7, h1, h9, h8, hlt, k0, k46 ns hu hn, hanc, hw, hq, u0, u1, hy, hl1, hx, hl2]
              rfl
            case q13 => exact ⟨k + 1, _, _, (by simp only [EV, seval, h2]), (by simp only [EV, seval, hh2]), (by simp only [EV, seval, h4]), (by simp only [EV, seval, hh4]), (by simp only [EV, seval, h7]), (by simp only [EV, seval]; rfl), (by simp only [EV, seval, h1]), (by simp only [EV, seval]), by omega, by omega, (by simp only [EV, seval]; rfl), (by rw [hs]; (try simp only [List.nil_append]); exact .inr (.inr ⟨_, rfl, (by simp only [EV, seval] <;> omega), (by simp only [EV, seval] <;> rfl)⟩)), (by rw [hs]; (try simp only [List.nil_append]); exact .inr ⟨_, rfl, (by simp only [EV, seval] <;> omega), (by simp only [EV, seval] <;> rfl)⟩)⟩
      · have hanc' : anc ns i k = false := by simpa using hanc
        have hs : prF ns i (k + 1) = ((prF ns i k).1, (prF ns i k).2 ++ [-1]) := by simp [prF, hanc']
        rcases hy with ⟨rfl, hy⟩ | ⟨g, rfl, hg, hy⟩ | ⟨g, rfl, hg, hy⟩ <;> rcases hx with ⟨rfl, hx⟩ | ⟨g', rfl, hg', hx⟩
        · rw [hy, hx] at hs
          refine go_on (st' := ?s14) ?h14 ((ns.length - (k + 1))) (by omega) ?q14
          case h14 =>
            simp -implicitDefEqProofs only [ZZ, seval, h2, hh2, h4, hh4, h7, hh7, h1, h9, h8, hlt, k0, k46 ns hu hn, hanc', hw]
            rfl
          case q14 => exact ⟨k + 1, _, _, (by simp only [EV, seval, h2]), (by simp only [EV, seval, hh2]), (by simp only [EV, seval, h4]), (by simp only [EV, seval, hh4]), (by simp only [EV, seval, h7]), (by simp only [EV, seval, hh7]; rfl), (by simp only [EV, seval, h1]), (by simp only [EV, seval]), by omega, by omega, (by simp only [EV, seval]; rfl), (by rw [hs]; (try simp only [List.nil_append]); exact .inr (.inl ⟨_, rfl, (by simp only [EV, seval] <;> omega), (by simp only [EV, seval] <;> rfl)⟩)), (by rw [hs]; exact .inl ⟨rfl, rfl⟩)⟩
        · rw [hy] at hs
          refine go_on (st' := ?s15) ?h15 ((ns.length - (k + 1))) (by omega) ?q15
          case h15 =>
            simp -implicitDefEqProofs only [ZZ, seval, h2, hh2, h4, hh4, h7, hh7, h1, h9, h8, hlt, k0, k46 ns hu hn, hanc', hw, hx, hl2]
            rfl
          case q15 => exact ⟨k + 1, _, _, (by simp only [EV, seval, h2]), (by simp only [EV, seval, hh2]), (by simp only [EV, seval, h4]), (by simp only [EV, seval, hh4]), (by simp only [EV, seval, h7]), (by simp only [EV, seval, hh7]; rfl), (by simp only [EV, seval, h1]), (by simp only [EV, seval]), by omega, by omega, (by simp only [EV, seval]; rfl), (by rw [hs]; (try simp only [List.nil_append]); exact .inr (.inl ⟨_, rfl, (by simp only [EV, seval] <;> omega), (by simp only [EV, seval] <;> rfl)⟩)), (by rw [hs]; exact .inr ⟨_, rfl, (by simp only [EV, seval] <;> omega), (by simp only [EV, seval, hx])⟩)⟩
        · rw [hx] at hs
          refine go_on (st' := ?s16) ?h16 ((ns.length - (k + 1))) (by omega) ?q16
          case h16 =>
            simp -implicitDefEqProofs only [ZZ, seval, h2, hh2, h4, hh4, h7, hh7, h1, h9, h8, hlt, k0, k46 ns hu hn, hanc', hw, hy, hl1]
            rfl
          case q16 => exact ⟨k + 1, _, _, (by simp only [EV, seval, h2]), (by simp only [EV, seval, hh2]), (by simp only [EV, seval, h4]), (by simp only [EV, seval, hh4]), (by simp only [EV, seval, h7]), (by simp only [EV, seval, hh7]; rfl), (by simp only [EV, seval, h1]), (by simp only [EV, seval]), by omega, by omega, (by simp only [EV, seval]; rfl), (by rw [hs]; (try simp only [List.nil_append]); exact .inr (.inl ⟨_, rfl, (by simp only [EV, seval] <;> omega), (by simp only [EV, seval] <;> rfl)⟩)), (by rw [hs]; exact .inl ⟨rfl, rfl⟩)⟩
        · refine go_on (st' := ?s17) ?h17 ((ns.length - (k + 1))) (by omega) ?q17
          case h17 =>
            simp -implicitDefEqProofs only [ZZ, seval, h2, hh2, h4, hh4, h7, hh7, h1, h9, h8, hlt, k0, k46 ns hu hn, hanc', hw, hy, hl1, hx, hl2]
            rfl
          case q17 => exact ⟨k + 1, _, _, (by simp only [EV, seval, h2]), (by simp only [EV, seval, hh2]), (by simp only [EV, seval, h4]), (by simp only [EV, seval, hh4]), (by simp only [EV, seval, h7]), (by simp only [EV, seval, hh7]; rfl), (by simp only [EV, seval, h1]), (by simp only [EV, seval]), by omega, by omega, (by simp only [EV, seval]; rfl), (by rw [hs]; (try simp only [List.nil_append]); exact .inr (.inl ⟨_, rfl, (by simp only [EV, seval] <;> omega), (by simp only [EV, seval] <;> rfl)⟩)), (by rw [hs]; exact .inr ⟨_, rfl, (by simp only [EV, seval] <;> omega), (by simp only [EV, seval, hx])⟩)⟩
        · rw [hx] at hs
          refine go_on (st' := ?s18) ?h18 ((ns.length - (k + 1))) (by omega) ?q18
          case h18 =>
            simp -implicitDefEqProofs only [ZZ, seval, h2, hh2, h4, hh4, h7, hh7, h1, h9, h8, hlt, k0, k46 ns hu hn, hanc', hw, hy, hl1]
            rfl
          case q18 => exact ⟨k + 1, _, _, (by simp only [EV, seval, h2]), (by simp only [EV, seval, hh2]), (by simp only [EV, seval, h4]), (by simp only [EV, seval, hh4]), (by simp only [EV, seval, h7]), (by simp only [EV, seval, hh7]; rfl), (by simp only [EV, seval, h1]), (by simp only [EV, seval]), by omega, by omega, (by simp only [EV, seval]; rfl), (by rw [hs]; (try simp only [List.nil_append]); exact .inr (.inl ⟨_, rfl, (by simp only [EV, seval] <;> omega), (by simp only [EV, seval] <;> rfl)⟩)), (by rw [hs]; exact .inl ⟨rfl, rfl⟩)⟩
        · refine go_on (st' := ?s19) ?h19 ((ns.length - (k + 1))) (by omega) ?q19
          case h19 =>
            simp -implicitDefEqProofs only [ZZ, seval, h2, hh2, h4, hh4, h7, hh7, h1, h9, h8, hlt, k0, k46 ns hu hn, hanc', hw, hy, hl1, hx, hl2]
            rfl
          case q19 => exact ⟨k + 1, _, _, (by simp only [EV, seval, h2]), (by simp only [EV, seval, hh2]), (by simp only [EV, seval, h4]), (by simp only [EV, seval, hh4]), (by simp only [EV, seval, h7]), (by simp only [EV, seval, hh7]; rfl), (by simp only [EV, seval, h1]), (by simp only [EV, seval]), by omega, by omega, (by simp only [EV, seval]; rfl), (by rw [hs]; (try simp only [List.nil_append]); exact .inr (.inl ⟨_, rfl, (by simp only [EV, seval] <;> omega), (by simp only [EV, seval] <;> rfl)⟩)), (by rw [hs]; exact .inr ⟨_, rfl, (by simp only [EV, seval] <;> omega), (by simp only [EV, seval, hx])⟩)⟩
    · have hkn : k = ns.length := by omega
      subst hkn
      refine go_out (e := .exit 0) (st' := ?s20) ?h20 (by simp) ?q20
      case h20 =>
        simp -implicitDefEqProofs only [ZZ, seval, h2, hh2, h4, hh4, h7, hh7, h1, h9, h8, hlt]
        rfl
      case q20 => exact ⟨rfl, x, y, (by simp only [EV, seval, h4]), (by simp only [EV, seval, hh4]), (by simp only [EV, seval, h7]), (by simp only [EV, seval, hh7]), (by simp only [EV, seval, h8]), hy, hx⟩
  case start => exact ⟨0, _, _, (by simp only [EV, seval]), (by simp only [EV, seval]), (by simp only [EV, seval]), (by simp only [EV, seval]), (by simp only [EV, seval]), (by simp only [EV, seval] <;> rfl), (by simp only [EV, seval]), (by simp only [EV, seval] <;> rfl), by omega, by omega, (by simp only [EV, seval] <;> rfl), .inl ⟨rfl, rfl⟩, .inl ⟨rfl, rfl⟩⟩
  case rest =>
    rintro e st ⟨rfl, x, y, h4, hh4, h7, hh7, h8, hy, hx⟩
    have hlen := prF_idx ns i ns.length
    have hne := prF_ne ns hu i0 i1
    rcases hy with ⟨rfl, hy⟩ | ⟨g, rfl, hg, hy⟩ | ⟨g, rfl, hg, hy⟩ <;> rcases hx with ⟨rfl, hx⟩ | ⟨g', rfl, hg', hx⟩
    · exact absurd hx hne
    · rw [hy] at hlen; simp at hlen; omega
    · exact absurd hx hne
    · simp -implicitDefEqProofs only [ZZ, seval, h4, hh4, h7, hh7, h8]
      exact endL_three (keep_none (by decide)) (.inl rfl) rfl (by simp -implicitDefEqProofs only [resA, ZZ, seval, h4, hh4, h7, hh7, h8]; rfl) (by simp only [resA, EV, seval] <;> rfl) (by simp only [resA, EV, seval] <;> rfl) (by simp only [EV, seval, hx, Option.map_some] <;> rfl) (by simp only [EV, seval, hy]) (by simp only [EV, seval])
    · exact absurd hx hne
    · simp -implicitDefEqProofs only [ZZ, seval, h4, hh4, h7, hh7, h8]
      exact endL_three (keep_none (by decide)) (.inl rfl) rfl (by simp -implicitDefEqProofs only [resA, ZZ, seval, h4, hh4, h7, hh7, h8]; rfl) (by simp only [resA, EV, seval] <;> rfl) (by simp only [resA, EV, seval] <;> rfl) (by simp only [EV, seval, hx, Option.map_some] <;> rfl) (by simp only [EV, seval, hy]) (by simp only [EV, seval])
end Go.Ab.Try
