/-
  Part K9 of the proof: several texts of the evaluator and of what functions of this program compute.
-/
import Derived.Test.YtgpkmepalmdmeaaK7
import Derived.Test.YtgpkmepalmdmeaaG5
import Derived.Test.YtgpkmepalmdmeaaK8
set_option linter.all false
section
set_option linter.unusedSimpArgs false
set_option linter.unusedVariables false
set_option maxRecDepth 20000
set_option maxHeartbeats 4000000
namespace Go.Ab.Try
open Classical Go.Proofs Go.Ab
/-- ref11.Descendants -/
theorem c36 (ns : List Node) (hu : UpOk ns) (hn : (ns.length : Int) < 1000000) (i : Int) : callL Try.prog 36 [.agg (cTree ⟨ns⟩), .v (.int .i64 i)] = some (if dsc ns i ns.length = [] then .v (.slice none 0 0) else .uniq 3 1 (dsc ns i ns.length).length (csInt (dsc ns i ns.length))) := by
  rw [callL_eq Try.prog Try.func36 rfl ok36 _ (ext_none _ (by decide)) rfl]
  have h41 := k46 ns hu hn
  simp -implicitDefEqProofs only [ZZ, seval]
  refine use_loop (fun n st => ∃ k : Nat, st.env 1 = .v (.int .i64 i) ∧ st.env 2 = .ptr 2 0 0 ∧ st.heap 2 0 = some (.cells (cTree ⟨ns⟩)) ∧ st.env 6 = .v (.int .i64 k) ∧
      ((dsc ns i k = [] ∧ st.env 5 = .v (.slice none 0 0)) ∨ (dsc ns i k ≠ [] ∧ ∃ g, st.env 5 = .own 21 g ∧ g < st.cnt 21 ∧ st.heap 21 g = some (.row 3 1 (dsc ns i k).length (csInt (dsc ns i k))))) ∧ k ≤ ns.length ∧ n = ns.length - k)
    (fun e st => e = .exit 0 ∧ ((dsc ns i ns.length = [] ∧ st.env 5 = .v (.slice none 0 0)) ∨ (dsc ns i ns.length ≠ [] ∧ ∃ g, st.env 5 = .own 21 g ∧ g < st.cnt 21 ∧ st.heap 21 g = some (.row 3 1 (dsc ns i ns.length).length (csInt (dsc ns i ns.length)))))) ns.length ?step ?start ?rest
  case step =>
    rintro n st ⟨k, h1, h2, hh2, h6, h5, hk, hn'⟩
    have hdl := dsc_len ns i k
    have hdl' : ((dsc ns i k).length : Int) < 1000000 := by omega
    by_cases hlt : (k : Int) < ns.length
    · have hw : IntKind.i64.wrap ((k : Int) + 1) = ((k + 1 : Nat) : Int) := by rw [w64 _ (by omega) (by omega)]; omega
      cases ha : anc ns i k
      · have hs : dsc ns i (k + 1) = dsc ns i k := by simp only [dsc, ha, Bool.false_eq_true, if_false]
        rcases h5 with ⟨hy, h5⟩ | ⟨hy, g, h5, hg, hh5⟩
        · refine go_on (st' := ?s1) ?h1 (ns.length - (k + 1)) (by omega) ?q1
          case h1 =>
            simp -implicitDefEqProofs only [ZZ, seval, h1, h2, hh2, h6, h5, hlt, hw, h41, ha]
            rfl
          case q1 => exact ⟨k + 1, by simp only [EV, seval, h1], by simp only [EV, seval, h2], by simp only [EV, seval, hh2], (by simp only [EV, seval]), .inl ⟨by rw [hs]; exact hy, by simp only [EV, seval, h5]⟩, by omega, rfl⟩
        · refine go_on (st' := ?s2) ?h2 (ns.length - (k + 1)) (by omega) ?q2
          case h2 =>
            simp -implicitDefEqProofs only [ZZ, seval, h1, h2, hh2, h6, h5, hh5, hlt, hw, h41, ha]
            rfl
          case q2 => exact ⟨k + 1, by simp only [EV, seval, h1], by simp only [EV, seval, h2], by simp only [EV, seval, hh2], (by simp only [EV, seval]), .inr ⟨by rw [hs]; exact hy, g, by simp only [EV, seval, h5], (by simp only [EV, seval] <;> omega), (by rw [hs]; simp only [EV, seval, hh5])⟩, by omega, rfl⟩
      · have hs : dsc ns i (k + 1) = dsc ns i k ++ [(k : Int)] := by simp only [dsc, ha, if_true]
        rcases h5 with ⟨hy, h5⟩ | ⟨hy, g, h5, hg, hh5⟩
        · rw [hy] at hs
          refine go_on (st' := ?s3) ?h3 (ns.length - (k + 1)) (by omega) ?q3
          case h3 =>
            simp -implicitDefEqProofs only [ZZ, seval, h1, h2, hh2, h6, h5, hlt, hw, h41, ha]
            rfl
          case q3 => exact ⟨k + 1, by simp only [EV, seval, h1], by simp only [EV, seval, h2], by simp only [EV, seval, hh2], (by simp only [EV, seval]), .inr ⟨by rw [hs]; simp, _, by simp only [EV, seval] <;> rfl, (by simp only [EV, seval] <;> omega), (by rw [hs]; simp only [EV, seval] <;> rfl)⟩, by omega, rfl⟩
        · refine go_on (st' := ?s4) ?h4 (ns.length - (k + 1)) (by omega) ?q4
          case h4 =>
            simp -implicitDefEqProofs only [ZZ, seval, h1, h2, hh2, h6, h5, hh5, hdl', hlt, hw, h41, ha]
            rfl
          case q4 => exact ⟨k + 1, by simp only [EV, seval, h1], by simp only [EV, seval, h2], by simp only [EV, seval, hh2], (by simp only [EV, seval]), .inr ⟨by rw [hs]; simp, _, by simp only [EV, seval] <;> rfl, (by simp only [EV, seval] <;> omega), (by rw [hs]; simp only [EV, seval] <;> rfl)⟩, by omega, rfl⟩
    · obtain rfl : k = ns.length := by omega
      refine go_out (e := .exit 0) (st' := ?s5) ?h5 (by simp) ?q5
      case h5 =>
        simp -implicitDefEqProofs only [ZZ, seval, h2, hh2, h6, hlt]
        rfl
      case q5 => exact ⟨rfl, by simpa only [EV, seval] using h5⟩
  case start => exact ⟨0, (by simp only [EV, seval]), (by simp only [EV, seval]), (by simp only [EV, seval]), (by simp only [EV, seval]), .inl ⟨rfl, (by simp only [EV, seval])⟩, by omega, rfl⟩
  case rest =>
    rintro e st ⟨rfl, ⟨hy, h5⟩ | ⟨hy, g, h5, hg, hh5⟩⟩
    · rw [if_pos hy]
      simp -implicitDefEqProofs only [ZZ, seval, h5]
      exact endL_tmp (keep_none (by decide)) (.inl rfl) rfl (by simp only [EV, seval]) (.v _)
    · rw [if_neg hy]
      simp -implicitDefEqProofs only [ZZ, seval, h5, hh5]
      exact endL_row (keep_none (by decide)) (.inl rfl) rfl (by simp only [EV, seval]; rfl) (by simp only [EV, seval, hh5]) (flat_csInt _)
end Go.Ab.Try
end
section
set_option linter.unusedSimpArgs false
set_option linter.unusedVariables false
set_option maxRecDepth 20000
set_option maxHeartbeats 4000000
namespace Go.Ab.Try
open Classical Go.Proofs Go.Ab
theorem mk12 : (mkRoot 1 = mkRoot 2) = False := by simp only [eq_iff_iff, iff_false]; decide
theorem mk13 : (mkRoot 1 = mkRoot 3) = False := by simp only [eq_iff_iff, iff_false]; decide
theorem mk23 : (mkRoot 2 = mkRoot 3) = False := by simp only [eq_iff_iff, iff_false]; decide
def bk (s : Int) (r p : Root) : Block := ⟨zBlock.pulled, s, r, p, zBlock.payload, zBlock.diff, zBlock.pdiff, zBlock.just, zBlock.fin, zBlock.timely⟩
def aN1 : Node := ⟨bk zBlock.slot (mkRoot 1) zBlock.parent, -1, 1⟩
def aN2 : Node := ⟨bk 1 (mkRoot 2) (mkRoot 1), 0, 1⟩
def aN3 : Node := ⟨bk 2 (mkRoot 3) (mkRoot 1), 0, 1⟩
theorem zslot : zBlock.slot = 0 := rfl
theorem aI2 : insA [aN1] (bk 1 (mkRoot 2) (mkRoot 1)) 1 = .tup [.agg (cTree ⟨[aN1, aN2]⟩), .v (.int .i64 0)] := by
  have h1 : findR [aN1] (mkRoot 2) = -1 := by simp [findR, List.findIdx?_cons, aN1, bk, mk12]
  have h2 : findR [aN1] (mkRoot 1) = 0 := by simp [findR, List.findIdx?_cons, aN1, bk]
  have hE : insE [aN1] (bk 1 (mkRoot 2) (mkRoot 1)) 1 = 0 := by
    simp only [insE, bk, h1, h2]
    simp [isSt, nd, aN1, bk, zslot]
  unfold insA
  rw [if_pos hE]
  simp only [bk, h2]
  rfl
theorem aI3 : insA [aN1, aN2] (bk 2 (mkRoot 3) (mkRoot 1)) 1 = .tup [.agg (cTree ⟨[aN1, aN2, aN3]⟩), .v (.int .i64 0)] := by
  have h1 : findR [aN1, aN2] (mkRoot 3) = -1 := by simp [findR, List.findIdx?_cons, aN1, aN2, bk, mk13, mk23]
  have h2 : findR [aN1, aN2] (mkRoot 1) = 0 := by simp [findR, List.findIdx?_cons, aN1, bk]
  have hE : insE [aN1, aN2] (bk 2 (mkRoot 3) (mkRoot 1)) 1 = 0 := by
    simp only [insE, bk, h1, h2]
    simp [isSt, nd, aN1, bk, zslot]
  unfold insA
  rw [if_pos hE]
  simp only [bk, h2]
  rfl
theorem aUp : UpOk [aN1, aN2, aN3] := by
  intro i h0 h1
  have : i = 1 ∨ i = 2 := by simp at h1; omega
  rcases this with rfl | rfl <;> decide
theorem aPath0 : path [aN1, aN2, aN3] 0 = [0] := path_zero (by simp)
theorem aPath1 : path [aN1, aN2, aN3] 1 = [0, 1] := by rw [path_step aUp (by omega) (by simp)]; show path _ 0 ++ [1] = _; rw [aPath0]; rfl
theorem aPath2 : path [aN1, aN2, aN3] 2 = [0, 2] := by rw [path_step aUp (by omega) (by simp)]; show path _ 0 ++ [2] = _; rw [aPath0]; rfl
theorem aPr : prOk [aN1, aN2, aN3] 2 = .tup [.agg (cTree ⟨[{ aN3 with up := -1 }]⟩), .sl [-1, -1, 0].length (csInt [-1, -1, 0]), .v (.int .i64 0)] := by
  have h : prF [aN1, aN2, aN3] 2 3 = ([{ aN3 with up := -1 }], [-1, -1, 0]) := by
    have e0 : anc [aN1, aN2, aN3] 2 ((0 : Nat) : Int) = false := by unfold anc; rw [show ((0 : Nat) : Int) = 0 from rfl, aPath0]; rfl
    have e1 : anc [aN1, aN2, aN3] 2 ((1 : Nat) : Int) = false := by unfold anc; rw [show ((1 : Nat) : Int) = 1 from rfl, aPath1]; rfl
    have e2 : anc [aN1, aN2, aN3] 2 ((2 : Nat) : Int) = true := by unfold anc; rw [show ((2 : Nat) : Int) = 2 from rfl, aPath2]; rfl
    simp only [prF, e0, e1, e2]
    rfl
  unfold prOk
  rw [show ([aN1, aN2, aN3] : List Node).length = 3 from rfl, h]
theorem aRoot : ({ aN3 with up := -1 } : Node).block.root = mkRoot 3 := rfl
theorem idx23_1 (st : St) (x : Node) (k : IntKind) : indexAddrA Try.prog st 23 (.sl 1 (csNode [x])) (.v (.int k 0)) = some (.ip (cNode x) 0) := idx23 st (ns := [x]) (i := 0) (by omega) (by simp)
theorem k34L (l m : List Int) {n n' : Nat} (hl : l.length = n) (hm : m.length = n') (hn : (n : Int) < 1000000) (fl : Bool) (st : St) (d : Option Nat) : callQ (callL Try.prog) 34 (some [.sl n (csInt l), .sl n' (csInt m)]) fl st d = some { dst := d, val := .v (.bool (decide (l = m))) } := by
  subst hl; subst hm
  exact k34 l m hn fl st d
theorem c35 : callL Try.prog 35 [] = some (.v (.bool true)) := by
  rw [callL_eq Try.prog Try.func35 rfl ok35 _ (ext_none _ (by decide)) rfl]
  have h2 := aI2
  have h3 := aI3
  have hp := k31 [aN1, aN2, aN3] aUp (by decide) (by decide) 2 (by decide)
  rw [aPr] at hp
  simp only [aN1, aN2, aN3, bk] at h2 h3 hp
  simp -implicitDefEqProofs only [ZZ, seval, k53, k64, k66, h2, h3, hp, extA, idx23_1, q34, k34L, Int.reduceLT, decide_true, beq_self_eq_true]
  exact endL_tmp (keep_none (by decide)) (.inl rfl) rfl (by simp only [EV, seval] <;> rfl) (.v _)
theorem k35 (st : St) (d : Option Nat) : callFn (callL Try.prog) 35 [] st d = some { dst := d, val := .v (.bool true) } := call_flat (by simp) c35 (.v _)

/-- PruningExact -/
theorem c3 (l : List Int) (i : Int) (hl : (l.length : Int) ≤ 9223372036854775807) : callL Try.prog 3 [.sl l.length (csInt l), .v (.int .i64 i)] = some (.v (.bool true)) := by
  rw [callL_eq Try.prog Try.func3 rfl ok3 _ (ext_none _ (by decide)) rfl]
  have g := (c30 l hl).2
  have k0 := k30 l hl
  generalize treeOf l = ns at g k0
  have g9 := g.len9
  have g0 := g.len0
  have hn : (ns.length : Int) < 1000000 := by omega
  have hr : (nd ns 0).up < 0 := by rw [g.up0]; omega
  simp -implicitDefEqProofs only [ZZ, seval, k0]
  refine use_loop (fun n st => ∃ k : Int, st.env 1 = .v (.int .i64 i) ∧ st.env 5 = .ptr 5 0 0 ∧ st.heap 5 0 = some (.cells (cTree ⟨ns⟩)) ∧ st.env 6 = .v (.int .i64 k) ∧ -1 ≤ k ∧ k ≤ ns.length + 1 ∧ n = (ns.length + 1 - k).toNat)
    (fun e st => e = .exit 0 ∧ st.env 1 = .v (.int .i64 i) ∧ st.env 5 = .ptr 5 0 0 ∧ st.heap 5 0 = some (.cells (cTree ⟨ns⟩))) (ns.length + 2) ?step ?start ?rest
  case step =>
    rintro n st ⟨k, h1, h5, hh5, h6, k0', k1, hn'⟩
    by_cases hlt : k ≤ ns.length
    · have hw : IntKind.i64.wrap (k + 1) = k + 1 := w64 _ (by omega) (by omega)
      by_cases hin : 0 ≤ k ∧ k < ns.length
      · have ha := k31 ns g.up hr hn k hin
        have hb := k32 ns g.up hn k hin
        have hx : ((prF ns k ns.length).2.length : Int) < 1000000 := by rw [prF_idx]; exact hn
        have hy : ((prF ns k ns.length).1.length : Int) < 1000000 := by have := prF_nodes ns k ns.length; omega
        simp only [prOk] at ha hb
        refine go_on (st' := ?s1) ?h1 ((ns.length + 1 - (k + 1)).toNat) (by omega) ?q1
        case h1 =>
          simp -implicitDefEqProofs only [ZZ, seval, h1, h5, hh5, h6, hlt, hw, ha, hb, extA, k33, hy, q34, k34, hx, decide_true, bne_self_eq_false, beq_self_eq_true]
          rfl
        case q1 => exact ⟨k + 1, (by simp only [EV, seval, h1]), (by simp only [EV, seval, h5]), (by simp only [EV, seval, hh5]), (by simp only [EV, seval]), by omega, by omega, rfl⟩
      · have ha := k31e ns k hin
        have hb := k32e ns k hin
        simp only [prErr] at ha hb
        refine go_on (st' := ?s2) ?h2 ((ns.length + 1 - (k + 1)).toNat) (by omega) ?q2
        case h2 =>
          simp -implicitDefEqProofs only [ZZ, seval, h1, h5, hh5, h6, hlt, hw, ha, hb, extA, k33n, q34, k34n, decide_true, bne_self_eq_false, beq_self_eq_true]
          rfl
        case q2 => exact ⟨k + 1, (by simp only [EV, seval, h1]), (by simp only [EV, seval, h5]), (by simp only [EV, seval, hh5]), (by simp only [EV, seval]), by omega, by omega, rfl⟩
    · refine go_out (e := .exit 0) (st' := ?s3) ?h3 (by simp) ?q3
      case h3 =>
        simp -implicitDefEqProofs only [ZZ, seval, h1, h5, hh5, h6, hlt]
        rfl
      case q3 => exact ⟨rfl, (by simp only [EV, seval, h1]), (by simp only [EV, seval, h5]), (by simp only [EV, seval, hh5])⟩
  case start => exact ⟨-1, (by simp only [EV, seval]), (by simp only [EV, seval]), (by simp only [EV, seval]), (by simp only [EV, seval]), by omega, by omega, by omega⟩
  case rest =>
    rintro e st ⟨rfl, h1, h5, hh5⟩
    by_cases hin : 0 ≤ i ∧ i < ns.length
    · have ha := k31 ns g.up hr hn i hin
      have hb := k32 ns g.up hn i hin
      have hx : ((prF ns i ns.length).2.length : Int) < 1000000 := by rw [prF_idx]; exact hn
      simp only [prOk] at ha hb
      simp -implicitDefEqProofs only [ZZ, seval, h1, h5, hh5, ha, hb, extA, q34, k34, hx, k35, decide_true, bne_self_eq_false, beq_self_eq_true]
      exact endL_tmp (keep_none (by decide)) (.inl rfl) rfl (by simp only [EV, seval] <;> rfl) (.v _)
    · have ha := k31e ns i hin
      have hb := k32e ns i hin
      simp only [prErr] at ha hb
      simp -implicitDefEqProofs only [ZZ, seval, h1, h5, hh5, ha, hb, extA, q34, k34n, k35, decide_true, bne_self_eq_false, beq_self_eq_true]
      exact endL_tmp (keep_none (by decide)) (.inl rfl) rfl (by simp only [EV, seval] <;> rfl) (.v _)
end Go.Ab.Try
end
section
set_option linter.unusedSimpArgs false
set_option linter.unusedVariables false
set_option maxRecDepth 20000
set_option maxHeartbeats 4000000
namespace Go.Ab.Try
open Classical Go.Proofs Go.Ab
theorem dsc_in (ns : List Node) (i x : Int) : ∀ k : Nat, x ∈ dsc ns i k → anc ns i x = true
  | 0, h => by simp [dsc] at h
  | k + 1, h => by
    simp only [dsc] at h
    split at h
    · rename_i ha
      rcases List.mem_append.1 h with h | h
      · exact dsc_in ns i x k h
      · simp at h; subst h; exact ha
    · exact dsc_in ns i x k h
theorem k36 (ns : List Node) (hu : UpOk ns) (hn : (ns.length : Int) < 1000000) (i : Int) (h : dsc ns i ns.length ≠ []) (st : St) (d : Nat) : callFn (callL Try.prog) 36 [.agg (cTree ⟨ns⟩), .v (.int .i64 i)] st (some d) = some { dst := some d, val := .own d (st.cnt d), new := some (d, [.row 3 1 (dsc ns i ns.length).length (csInt (dsc ns i ns.length))]) } := by
  have hc := c36 ns hu hn i
  rw [if_neg h] at hc
  exact call_uniq (flat2 (flatT _) (.v _)) hc
/-- PruningTwice -/
theorem c4 (l : List Int) (i j : Int) (hl : (l.length : Int) ≤ 9223372036854775807) : callL Try.prog 4 [.sl l.length (csInt l), .v (.int .i64 i), .v (.int .i64 j)] = some (.v (.bool true)) := by
  rw [callL_eq Try.prog Try.func4 rfl ok4 _ (ext_none _ (by decide)) rfl]
  have g := (c30 l hl).2
  have k0 := k30 l hl
  generalize treeOf l = ns at g k0
  have g9 := g.len9
  have g0 := g.len0
  have hn : (ns.length : Int) < 1000000 := by omega
  have hr : (nd ns 0).up < 0 := by rw [g.up0]; omega
  have hne : ((ns.length : Int) = 0) = False := eq_false (by omega)
  obtain ⟨b1, b2⟩ := and_bound i 65535 (by decide)
  have hm := tmod_bound (n := (ns.length : Int)) b1 (by omega)
  obtain ⟨x, hx, x0, x1⟩ : ∃ x, (IntKind.i64.wrap ↑(BitVec.ofInt IntKind.i64.bits i &&& BitVec.ofInt IntKind.i64.bits 65535).toNat).tmod (ns.length : Int) = x ∧ 0 ≤ x ∧ x < ns.length := ⟨_, rfl, hm.1, hm.2⟩
  have hxx : anc ns x x = true := decide_eq_true (path_self g.up x0 x1)
  have hdne := dsc_ne g.up x0 x1 ns.length x1
  have hK := k36 ns g.up hn x hdne
  have hdl := dsc_len ns x ns.length
  have hdi := fun y => dsc_in ns x y ns.length
  generalize dsc ns x ns.length = D at hdne hK hdl hdi
  have hD0 : 0 < D.length := List.length_pos_iff.2 hdne
  have hneD : ((D.length : Int) = 0) = False := eq_false (by omega)
  obtain ⟨c1, c2⟩ := and_bound j 65535 (by decide)
  have hm' := tmod_bound (n := (D.length : Int)) c1 (by omega)
  obtain ⟨m, hmm, m0, m1⟩ : ∃ m, (IntKind.i64.wrap ↑(BitVec.ofInt IntKind.i64.bits j &&& BitVec.ofInt IntKind.i64.bits 65535).toNat).tmod (D.length : Int) = m ∧ 0 ≤ m ∧ m < D.length := ⟨_, rfl, hm'.1, hm'.2⟩
  have hj := hdi _ (it_mem m0 m1)
  obtain ⟨y, hy⟩ : ∃ y, it D m = y := ⟨_, rfl⟩
  rw [hy] at hj
  obtain ⟨_, y0, y1⟩ := anc_in g.up hj
  have hA := k31 ns g.up hr hn x ⟨x0, x1⟩
  have hB := k31 ns g.up hr hn y ⟨y0, y1⟩
  have hC := k31 ns g.up hr hn 0 ⟨by omega, by omega⟩
  have hNn := prF_nodes ns x ns.length
  have hSn := prF_idx ns x ns.length
  have hUN := pr_upok g.up hxx
  obtain ⟨p1, p2, _⟩ := pr_at g.up hj
  have hN0 : (nd (prF ns x ns.length).1 0).up < 0 := by
    have h := (pr_at g.up hxx).2.2
    rw [pr_zero g.up hxx] at h
    rw [h]
    simp
  have hT := k31 (prF ns x ns.length).1 hUN hN0 (by omega) (it (prF ns x ns.length).2 y) ⟨p1, p2⟩
  have h2 := prF_twice g.up hxx hj
  have h3 := prF_whole g.up g.up0
  have hDn := prF_nodes ns y ns.length
  simp only [prOk] at hA hB hC hT
  rw [h3] at hC
  rw [h2] at hT
  generalize (prF ns y ns.length).1 = M at hB hT hDn
  generalize (prF ns y ns.length).2 = My at hB
  generalize (prF ns 0 ns.length).2 = M0 at hC
  generalize (prF (prF ns x ns.length).1 (it (prF ns x ns.length).2 y) (prF ns x ns.length).1.length).2 = Mt at hT
  generalize (prF ns x ns.length).1 = N at hA hT
  generalize (prF ns x ns.length).2 = S at hA hT hSn
  have hq : ((S.length : Int) != (ns.length : Int)) = false := by rw [hSn]; exact bne_self_eq_false _
  have yS : y < S.length := by omega
  have hM : (M.length : Int) < 1000000 := by omega
  simp -implicitDefEqProofs only [ZZ, seval, k0, hne, hx, hK, hneD, hmm, m0, m1, hy, hA, hB, hC, hT, hq, y0, y1, yS, extA, k33, hM, hn, k35, decide_true, bne_self_eq_false, beq_self_eq_true]
  exact endL_tmp (keep_none (by decide)) (.inl rfl) rfl (by simp only [EV, seval] <;> rfl) (.v _)
end Go.Ab.Try
end
