/-
  Part A1 of the proof: what the functions of the ancestry compute.
-/
import Derived.Test.YtgpkmepalmdmeaaX5
import Derived.Test.YtgpkmepalmdmeaaG2
set_option linter.all false
set_option linter.unusedSimpArgs false
set_option linter.unusedVariables false
set_option maxRecDepth 20000
namespace Go.Ab.Try
open Classical Go.Proofs Go.Ab
/-- ancestry.has -/
theorem c88 (ns : List Node) (i : Int) : callL Try.prog 88 [.agg (cTree ⟨ns⟩), .v (.int .i64 i)] = some (.v (.bool (decide (0 ≤ i) && decide (i < ns.length)))) := by
  rw [callL_eq Try.prog Try.func88 rfl ok88 _ (ext_none _ (by decide)) rfl]
  by_cases h : 0 ≤ i
  all_goals
    simp -implicitDefEqProofs only [ZZ, seval, h, decide_true, decide_false, Bool.false_eq_true, Bool.true_and, Bool.false_and]
    exact endL_tmp (keep_none (by decide)) (.inl rfl) rfl (by simp only [EV, seval]) (.v _)
theorem k88 (ns : List Node) (i : Int) (st : St) (d : Option Nat) : callFn (callL Try.prog) 88 [.agg (cTree ⟨ns⟩), .v (.int .i64 i)] st d = some { dst := d, val := .v (.bool (decide (0 ≤ i) && decide (i < ns.length))) } := call_flat (flat2 (flatT _) (.v _)) (c88 ns i) (.v _)
theorem path_self {ns : List Node} (h : UpOk ns) {i : Int} (i0 : 0 ≤ i) (i1 : i < ns.length) : i ∈ path ns i := by
  by_cases hi : i = 0
  · subst hi; rw [path_zero (by omega)]; simp
  · rw [path_step h (by omega) i1]; simp
theorem path_mem {ns : List Node} (h : UpOk ns) : ∀ (k : Nat) (i : Int), i.toNat = k → 0 ≤ i → i < ns.length → ∀ x ∈ path ns i, 0 ≤ x ∧ x ≤ i := by
  intro k
  induction k using Nat.strongRecOn with
  | _ k ih =>
    intro i hk i0 i1 x hx
    by_cases hi : i = 0
    · subst hi; rw [path_zero (by omega)] at hx; simp at hx; omega
    · obtain ⟨u0, u1⟩ := h i (by omega) i1
      rw [path_step h (by omega) i1] at hx
      rcases List.mem_append.1 hx with hx | hx
      · have := ih (nd ns i).up.toNat (by omega) _ rfl u0 (by omega) x hx
        omega
      · simp at hx; omega
theorem path_range {ns : List Node} (h : UpOk ns) {i x : Int} (hx : x ∈ path ns i) : 0 ≤ x ∧ x < ns.length := by
  by_cases hi : 0 ≤ i ∧ i < ns.length
  · have := path_mem h _ i rfl hi.1 hi.2 x hx; omega
  · rw [path_none hi] at hx; simp at hx
/-- The last of a list whose slot is at most s, or -1. -/
def lastLe (ns : List Node) (s : Int) (l : List Int) : Int := l.foldl (fun r x => if (nd ns x).block.slot ≤ s then x else r) (-1)
def atV (ns : List Node) (i s : Int) : Int := lastLe ns s (path ns i)
theorem lastLe_app (ns : List Node) (s : Int) (l : List Int) (x : Int) : lastLe ns s (l ++ [x]) = if (nd ns x).block.slot ≤ s then x else lastLe ns s l := by simp [lastLe]
theorem atV_none {ns : List Node} {i : Int} (s : Int) (h : ¬ (0 ≤ i ∧ i < ns.length)) : atV ns i s = -1 := by unfold atV; rw [path_none h]; rfl
theorem atV_hit {ns : List Node} (h : UpOk ns) {i s : Int} (hi : 0 ≤ i ∧ i < ns.length) (hs : (nd ns i).block.slot ≤ s) : atV ns i s = i := by
  unfold atV
  by_cases h0 : i = 0
  · subst h0; rw [path_zero (by omega)]; simp [lastLe, hs]
  · rw [path_step h (by omega) hi.2, lastLe_app, if_pos hs]
theorem atV_up {ns : List Node} (h : UpOk ns) (hr : (nd ns 0).up = -1) {i s : Int} (hi : 0 ≤ i ∧ i < ns.length) (hs : ¬ (nd ns i).block.slot ≤ s) : atV ns i s = atV ns (nd ns i).up s := by
  by_cases h0 : i = 0
  · subst h0; rw [hr, atV_none s (i := -1) (by omega)]; unfold atV; rw [path_zero (by omega)]; simp [lastLe, hs]
  · unfold atV; rw [path_step h (by omega) hi.2, lastLe_app, if_neg hs]

/-- ancestry.At -/
theorem c39 (ns : List Node) (hu : UpOk ns) (hr : (nd ns 0).up = -1) (i s : Int) : callL Try.prog 39 [.agg (cTree ⟨ns⟩), .v (.int .i64 i), .v (.int .u64 s)] = some (.v (.int .i64 (atV ns i s))) := by
  rw [callL_eq Try.prog Try.func39 rfl ok39 _ (ext_none _ (by decide)) rfl]
  simp -implicitDefEqProofs only [ZZ, seval]
  refine use_loop (fun n st => ∃ c : Int, st.env 1 = .v (.int .i64 c) ∧ st.env 2 = .v (.int .u64 s) ∧ st.env 3 = .ptr 3 0 0 ∧ st.heap 3 0 = some (.cells (cTree ⟨ns⟩)) ∧ atV ns i s = atV ns c s ∧ n = (c + 1).toNat)
    (fun e st => (e = .ret ∧ st.env 6 = .v (.int .i64 (atV ns i s))) ∨ (e = .exit 0 ∧ atV ns i s = -1)) (i + 1).toNat ?step ?start ?rest
  case step =>
    rintro n st ⟨c, h1, h2, h3, hh3, hb, hn'⟩
    by_cases hv : 0 ≤ c ∧ c < ns.length
    · have hd : (decide (0 ≤ c) && decide (c < ns.length)) = true := by simp [hv.1, hv.2]
      obtain ⟨i0, hlt⟩ := hv
      by_cases hs : (nd ns c).block.slot ≤ s
      · have hm : atV ns c s = c := atV_hit hu ⟨i0, hlt⟩ hs
        refine go_out (e := .ret) (st' := ?s1) ?h1 (by simp) ?q1
        case h1 =>
          simp -implicitDefEqProofs only [ZZ, seval, h1, h2, h3, hh3, k88, hd, hlt, i0, hs]
          rfl
        case q1 => exact .inl ⟨rfl, by simp only [EV, seval, hb, hm]⟩
      · have hm : atV ns c s = atV ns (nd ns c).up s := atV_up hu hr ⟨i0, hlt⟩ hs
        have hup : (nd ns c).up < c ∧ -1 ≤ (nd ns c).up := by
          by_cases h0 : c = 0
          · subst h0; rw [hr]; omega
          · have := hu c (by omega) hlt; omega
        refine go_on (st' := ?s2) ?h2 (((nd ns c).up + 1).toNat) (by omega) ?q2
        case h2 =>
          simp -implicitDefEqProofs only [ZZ, seval, h1, h2, h3, hh3, k88, hd, hlt, i0, hs]
          rfl
        case q2 => exact ⟨(nd ns c).up, (by simp only [EV, seval]), by simp only [EV, seval, h2], by simp only [EV, seval, h3], by simp only [EV, seval, hh3], hb.trans hm, rfl⟩
    · have hd : (decide (0 ≤ c) && decide (c < ns.length)) = false := by rw [← Bool.not_eq_true]; simpa using hv
      refine go_out (e := .exit 0) (st' := ?s3) ?h3 (by simp) ?q3
      case h3 =>
        simp -implicitDefEqProofs only [ZZ, seval, h1, h2, h3, hh3, k88, hd]
        rfl
      case q3 => exact .inr ⟨rfl, hb.trans (atV_none s hv)⟩
  case start => exact ⟨i, (by simp only [EV, seval]), (by simp only [EV, seval]), (by simp only [EV, seval]), (by simp only [EV, seval]), rfl, rfl⟩
  case rest =>
    rintro e st (⟨rfl, h⟩ | ⟨rfl, h⟩)
    · simp -implicitDefEqProofs only [ZZ, seval]
      exact endL_tmp (keep_none (by decide)) (.inl rfl) rfl h (.v _)
    · simp -implicitDefEqProofs only [ZZ, seval]
      exact endL_tmp (keep_none (by decide)) (.inl rfl) rfl (by simp only [EV, seval, h]) (.v _)
theorem k39 (ns : List Node) (hu : UpOk ns) (hr : (nd ns 0).up = -1) (i s : Int) (st : St) (d : Option Nat) : callFn (callL Try.prog) 39 [.agg (cTree ⟨ns⟩), .v (.int .i64 i), .v (.int .u64 s)] st d = some { dst := d, val := .v (.int .i64 (atV ns i s)) } := call_flat (flat3 (flatT _) (.v _) (.v _)) (c39 ns hu hr i s) (.v _)
end Go.Ab.Try
