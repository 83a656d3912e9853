/-
  Part A4 of the proof: what the functions of the ancestry compute.
-/
import Derived.Test.YtgpkmepalmdmeaaA2
set_option linter.all false
set_option linter.unusedSimpArgs false
set_option linter.unusedVariables false
set_option maxRecDepth 20000
namespace Go.Ab.Try
open Classical Go.Proofs Go.Ab
theorem mv_89 : Ext.mv 89 = true := rfl
theorem ev_call89 {call : Nat → List AV → Option AV} {ops : Array Oper} {st : St} {d : Option Nat} {T : Nat} {pos : String} {aft : Array Edge} (x : Operand) (ats : Array Nat) :
    evOp Try.prog call ops ⟨d, .call ⟨.value (.func 89), #[x], ats⟩, T, pos, aft, none⟩ st = bnd (callMv call 89 [st.ev x] st d) fun e => some (e.apply st) := ev_callM 89 #[x] ats mv_89
theorem ext89 (l : List Int) : callL Try.prog 89 [.uniq 3 1 l.length (csInt l)] = some (.tup [.uniq 3 1 l.length (csInt l.reverse)]) := by
  have h : (csInt l).reverse = csInt l.reverse := by rw [csInt_eq, csInt_eq, List.map_reverse]
  refine callL_ext Try.prog ?_
  show ext2 89 _ = _
  unfold ext2
  rw [if_pos rfl]
  dsimp only
  rw [if_pos ⟨rfl, rfl, l, rfl, rfl⟩, h]
theorem mv89 {st : St} {s k : Nat} {d : Option Nat} (l : List Int) (h : st.heap s k = some (.row 3 1 l.length (csInt l))) : callMv (callL Try.prog) 89 [.own s k] st d = some { dst := d, val := .tup [], upd := some (s, k, some (.row 3 1 l.length (csInt l.reverse))) } := by
  simp only [callMv, h]
  rw [if_pos ⟨flat_csInt l, by simp⟩, ext89]
/-- ancestry.Path -/
theorem c44 (ns : List Node) (hu : UpOk ns) (hr : (nd ns 0).up = -1) (hn : (ns.length : Int) < 1000000) (i : Int) (i0 : 0 ≤ i) (i1 : i < ns.length) : callL Try.prog 44 [.agg (cTree ⟨ns⟩), .v (.int .i64 i)] = some (.uniq 3 1 (path ns i).length (csInt (path ns i))) := by
  rw [callL_eq Try.prog Try.func44 rfl ok44 _ (ext_none _ (by decide)) rfl]
  simp -implicitDefEqProofs only [ZZ, seval]
  refine use_loop (fun n st => ∃ (c : Int) (l : List Int), st.env 1 = .v (.int .i64 c) ∧ st.env 2 = .ptr 2 0 0 ∧ st.heap 2 0 = some (.cells (cTree ⟨ns⟩)) ∧ path ns i = path ns c ++ l.reverse ∧ ((l = [] ∧ st.env 5 = .v (.slice none 0 0) ∧ c = i) ∨ ∃ g, st.env 5 = .own 12 g ∧ g < st.cnt 12 ∧ st.heap 12 g = some (.row 3 1 l.length (csInt l))) ∧ n = (c + 1).toNat ∧ -1 ≤ c ∧ c < ns.length)
    (fun e st => e = .exit 0 ∧ ∃ g, st.env 5 = .own 12 g ∧ st.heap 12 g = some (.row 3 1 (path ns i).reverse.length (csInt (path ns i).reverse))) (i + 1).toNat ?step ?start ?rest
  case step =>
    rintro n st ⟨c, l, h1, h2, hh2, hb, h5, hn', c0, c1⟩
    have hll : (l.length : Int) < 1000000 := by have := path_lt hu i; rw [hb] at this; simp at this; omega
    by_cases hv : 0 ≤ c
    · have hd : (decide (0 ≤ c) && decide (c < ns.length)) = true := by simp [hv, c1]
      have hup : (nd ns c).up < c ∧ -1 ≤ (nd ns c).up := by
        by_cases h0 : c = 0
        · subst h0; rw [hr]; omega
        · have := hu c (by omega) c1; omega
      have hp : path ns c = path ns (nd ns c).up ++ [c] := by
        by_cases h0 : c = 0
        · subst h0; rw [hr, path_none (i := -1) (by omega), path_zero (by omega)]; rfl
        · exact path_step hu (by omega) c1
      have hb' : path ns i = path ns (nd ns c).up ++ (l ++ [c]).reverse := by rw [hb, hp]; simp
      rcases h5 with ⟨rfl, h5, rfl⟩ | ⟨g, h5, hg, hh5⟩
      · refine go_on (st' := ?s1) ?h1 (((nd ns c).up + 1).toNat) (by omega) ?q1
        case h1 =>
          simp -implicitDefEqProofs only [ZZ, seval, h1, h2, hh2, h5, k88, hd, hv, c1]
          rfl
        case q1 => exact ⟨(nd ns c).up, [c], (by simp only [EV, seval]), by simp only [EV, seval, h2], by simp only [EV, seval, hh2], hb', .inr ⟨_, by simp only [EV, seval] <;> rfl, (by simp only [EV, seval] <;> omega), (by simp only [EV, seval] <;> rfl)⟩, rfl, by omega, by omega⟩
      · refine go_on (st' := ?s2) ?h2 (((nd ns c).up + 1).toNat) (by omega) ?q2
        case h2 =>
          simp -implicitDefEqProofs only [ZZ, seval, h1, h2, hh2, h5, hh5, hll, k88, hd, hv, c1]
          rfl
        case q2 => exact ⟨(nd ns c).up, l ++ [c], (by simp only [EV, seval]), by simp only [EV, seval, h2], by simp only [EV, seval, hh2], hb', .inr ⟨_, by simp only [EV, seval] <;> rfl, (by simp only [EV, seval] <;> omega), (by simp only [EV, seval] <;> rfl)⟩, rfl, by omega, by omega⟩
    · have hd : (decide (0 ≤ c) && decide (c < ns.length)) = false := by simp; intro h; omega
      have hp : path ns c = [] := path_none (by omega)
      rw [hp, List.nil_append] at hb
      rcases h5 with ⟨rfl, h5, rfl⟩ | ⟨g, h5, hg, hh5⟩
      · omega
      · have hl : (path ns i).reverse = l := by rw [hb, List.reverse_reverse]
        refine go_out (e := .exit 0) (st' := ?s3) ?h3 (by simp) ?q3
        case h3 =>
          simp -implicitDefEqProofs only [ZZ, seval, h1, h2, hh2, h5, hh5, k88, hd]
          rfl
        case q3 => exact ⟨rfl, g, by simp only [EV, seval, h5], by rw [hl]; simp only [EV, seval, hh5]⟩
  case start => exact ⟨i, [], (by simp only [EV, seval]), (by simp only [EV, seval]), (by simp only [EV, seval]), by simp, .inl ⟨rfl, (by simp only [EV, seval]), rfl⟩, rfl, by omega, i1⟩
  case rest =>
    rintro e st ⟨rfl, g, h5, hh5⟩
    simp -implicitDefEqProofs only [ZZ, seval, h5, hh5, ev_call89, mv89 (path ns i).reverse, List.reverse_reverse, List.length_reverse]
    exact endL_row (keep_none (by decide)) (.inl rfl) rfl (by simp only [EV, seval]; rfl) (by simp only [EV, seval]) (flat_csInt _)
theorem k44 (ns : List Node) (hu : UpOk ns) (hr : (nd ns 0).up = -1) (hn : (ns.length : Int) < 1000000) (i : Int) (i0 : 0 ≤ i) (i1 : i < ns.length) (st : St) (d : Nat) : callFn (callL Try.prog) 44 [.agg (cTree ⟨ns⟩), .v (.int .i64 i)] st (some d) = some { dst := some d, val := .own d (st.cnt d), new := some (d, [.row 3 1 (path ns i).length (csInt (path ns i))]) } := call_uniq (flat2 (flatT _) (.v _)) (c44 ns hu hr hn i i0 i1)
theorem ext89n : callL Try.prog 89 [.v (.slice none 0 0)] = some (.tup []) := by
  refine callL_ext Try.prog ?_
  show ext2 89 _ = _
  unfold ext2
  rw [if_pos rfl]
  rfl
theorem mv89n {st : St} {d : Option Nat} : callMv (callL Try.prog) 89 [.v (.slice none 0 0)] st d = some { dst := d, val := .tup [] } :=
  call_flat (flat1 (.v _)) ext89n (.tup _ (by simp))
theorem c44n (ns : List Node) (i : Int) (h : ¬ (0 ≤ i ∧ i < ns.length)) : callL Try.prog 44 [.agg (cTree ⟨ns⟩), .v (.int .i64 i)] = some (.v (.slice none 0 0)) := by
  rw [callL_eq Try.prog Try.func44 rfl ok44 _ (ext_none _ (by decide)) rfl]
  have hd : (decide (0 ≤ i) && decide (i < ns.length)) = false := by
    rw [← Bool.not_eq_true]; simpa using h
  simp -implicitDefEqProofs only [ZZ, seval, evL_loop, k88, hd, ev_call89, mv89n]
  exact endL_tmp (keep_none (by decide)) (.inl rfl) rfl (by simp only [EV, seval]) (.v _)
theorem k44n (ns : List Node) (i : Int) (h : ¬ (0 ≤ i ∧ i < ns.length)) (st : St) (d : Option Nat) : callFn (callL Try.prog) 44 [.agg (cTree ⟨ns⟩), .v (.int .i64 i)] st d = some { dst := d, val := .v (.slice none 0 0) } := call_flat (flat2 (flatT _) (.v _)) (c44n ns i h) (.v _)
end Go.Ab.Try
