/-
  Part J6 of the proof: what functions of this program compute.
-/
import Derived.Test.YtgpkmepalmdmeaaJ5
import Derived.Test.YtgpkmepalmdmeaaL8
set_option linter.all false
set_option linter.unusedSimpArgs false
set_option linter.unusedVariables false
set_option maxRecDepth 20000
set_option maxHeartbeats 4000000
namespace Go.Ab.Try
open Classical Go.Proofs Go.Ab
/-- Blocks that follow one another. -/
def Chn (ns : List Node) : Prop := ∀ j : Int, 0 ≤ j → j < ns.length → (nd ns j).block.root = mkRoot (j + 1) ∧ (nd ns j).block.slot = j
theorem chn_app {ns : List Node} (h : Chn ns) {n : Node} (hr : n.block.root = mkRoot (ns.length + 1)) (hs : n.block.slot = ns.length) : Chn (ns ++ [n]) := fun j j0 j1 => by
  by_cases hj : j < ns.length
  · rw [nd_app_lt j0 hj]; exact h j j0 hj
  · obtain rfl : j = ns.length := by simp at j1; omega
    rw [nd_app_eq rfl]; exact ⟨hr, hs⟩
theorem ins_chain {ns : List Node} {k : Int} (hl : (ns.length : Int) = k) (k0 : 1 ≤ k) (k1 : k ≤ 4096) (H : Chn ns) {b : Block} {m s : Int} (m0 : k + 1 ≤ m) (m1 : m < 65536) (hb : b.root = mkRoot m) (hp : b.parent = mkRoot k) (hs : b.slot = k) (hst : isSt s = true) :
    findR ns b.parent = k - 1 ∧ insE ns b s = if 4096 ≤ k then 11 else 0 := by
  have e1 : findR ns b.parent = k - 1 := by
    refine findR_at (by omega) (by omega) ?_ fun j j0 j1 h => ?_
    · rw [(H (k - 1) (by omega) (by omega)).1, hp]
      congr 1; omega
    · rw [(H j j0 (by omega)).1, hp] at h
      have := mkRoot_inj (by omega) (by omega) (by omega) (by omega) h
      omega
  have e2 : findR ns b.root = -1 := by
    refine findR_none fun j j0 j1 h => ?_
    rw [(H j j0 j1).1, hb] at h
    have := mkRoot_inj (by omega) (by omega) (by omega) (by omega) h
    omega
  refine ⟨e1, ?_⟩
  unfold insE
  rw [e1, e2, if_neg (by simp [hst]), if_neg (by omega), if_neg (by omega), if_neg, hl]
  rw [hs, (H (k - 1) (by omega) (by omega)).2]
  omega
def bc (k : Int) : Block := ⟨zBlock.pulled, k, mkRoot (1 + k), mkRoot k, mkRoot (100 + k), zBlock.diff, zBlock.pdiff, zBlock.just, zBlock.fin, zBlock.timely⟩
def chn : Nat → List Node
  | 0 => [aN1]
  | k + 1 => chn k ++ [⟨bc ((k + 1 : Nat) : Int), k, 0⟩]
theorem chn_len : ∀ k, (chn k).length = k + 1
  | 0 => rfl
  | k + 1 => by simp only [chn, List.length_append, chn_len k, List.length_singleton]
theorem chn_chn : ∀ k, Chn (chn k)
  | 0 => fun j j0 j1 => by
    obtain rfl : j = 0 := by simp [chn] at j1; omega
    exact ⟨rfl, rfl⟩
  | k + 1 => by
    refine chn_app (chn_chn k) ?_ ?_
    · rw [chn_len]; simp only [bc]; congr 1; omega
    · rw [chn_len]; rfl
theorem chn_ins (k : Nat) (hk : k < 4000) : insA (chn k) (bc ((k + 1 : Nat) : Int)) 0 = .tup [.agg (cTree ⟨chn (k + 1)⟩), .v (.int .i64 0)] := by
  obtain ⟨h1, h2⟩ := ins_chain (ns := chn k) (k := ((k + 1 : Nat) : Int)) (by rw [chn_len]) (by omega) (by omega) (chn_chn k) (b := bc ((k + 1 : Nat) : Int)) (m := 1 + ((k + 1 : Nat) : Int)) (s := 0) (by omega) (by omega) rfl rfl rfl rfl
  rw [if_neg (by omega)] at h2
  unfold insA
  rw [if_pos h2, h1]
  simp only [chn]
  rw [show ((k + 1 : Nat) : Int) - 1 = (k : Int) by omega]
/-- chain -/
theorem c100 : callL Try.prog 100 [] = some (.agg (cTree ⟨chn 3⟩)) := by
  rw [callL_eq Try.prog Try.func100 rfl ok100 _ (ext_none _ (by decide)) rfl]
  simp -implicitDefEqProofs only [ZZ, seval, k53, k64]
  refine use_loop (fun n st => ∃ k : Nat, (st.env 0 = .ptr 0 0 0 ∧ st.heap 0 0 = some (.cells [.v (.slice none 0 0)]) ∧ st.env 1 = .ptr 1 0 0 ∧ st.heap 1 0 = some (.cells (cTree ⟨chn k⟩)) ∧ st.env 2 = .v (.int .i64 ((k + 1 : Nat) : Int))) ∧ k ≤ 3 ∧ n = 3 - k)
    (fun e st => e = .exit 0 ∧ st.env 0 = .ptr 0 0 0 ∧ st.heap 0 0 = some (.cells [.v (.slice none 0 0)]) ∧ st.env 1 = .ptr 1 0 0 ∧ st.heap 1 0 = some (.cells (cTree ⟨chn 3⟩))) 3 ?step ?start ?rest
  case step =>
    rintro n st ⟨k, hI, hk, hn'⟩
    have hl := chn_len k
    by_cases hlt : k < 3
    · have h4 : ((k + 1 : Nat) : Int) < 4 := by omega
      have hw : IntKind.i64.wrap (((k + 1 : Nat) : Int) + 1) = ((k + 1 + 1 : Nat) : Int) := by rw [w64 _ (by omega) (by omega)]; omega
      have hw1 : IntKind.i64.wrap (1 + ((k + 1 : Nat) : Int)) = 1 + ((k + 1 : Nat) : Int) := w64 _ (by omega) (by omega)
      have hw2 : IntKind.i64.wrap (100 + ((k + 1 : Nat) : Int)) = 100 + ((k + 1 : Nat) : Int) := w64 _ (by omega) (by omega)
      have hw3 : IntKind.u64.wrap ((k + 1 : Nat) : Int) = ((k + 1 : Nat) : Int) := by simp [IntKind.wrap, IntKind.bits, IntKind.signed]; omega
      have hk66 := k66 (chn k) (by omega) (bc ((k + 1 : Nat) : Int)) 0
      rw [chn_ins k (by omega)] at hk66
      simp only [bc] at hk66
      have e2 : (chn (k + 1)).length = k + 1 + 1 := chn_len _
      generalize ((k + 1 : Nat) : Int) = y at *
      obtain ⟨q, hq⟩ : ∃ q, chn (k + 1) = q := ⟨_, rfl⟩
      rw [hq] at hk66 e2
      refine go_on (st' := ?s1) ?h1 (3 - (k + 1)) (by omega) ?q1
      case h1 =>
        simp -implicitDefEqProofs only [ZZ, seval, hI, h4, hw, hw1, hw2, hw3, hk66, k53, extA]
        rfl
      case q1 => exact ⟨k + 1, by simp only [EV, seval, hI, hq], by omega, rfl⟩
    · obtain rfl : k = 3 := by omega
      refine go_out (e := .exit 0) (st' := ?s2) ?h2 (by simp) ?q2
      case h2 =>
        simp -implicitDefEqProofs only [ZZ, seval, hI]
        rfl
      case q2 => exact ⟨rfl, by simp only [EV, seval, hI]⟩
  case start => exact ⟨0, by simp only [EV, seval] <;> rfl, by omega, by omega⟩
  case rest =>
    rintro e st ⟨rfl, hI⟩
    simp -implicitDefEqProofs only [ZZ, seval, hI]
    exact endL_cell (keep_none (by decide)) (.inl rfl) rfl (by simp only [EV, seval, hI] <;> rfl) (by simp -implicitDefEqProofs only [ZZ, seval, hI] <;> rfl) (flatT _)
theorem k100 (st : St) (d : Option Nat) : callFn (callL Try.prog) 100 [] st d = some { dst := d, val := .agg (cTree ⟨chn 3⟩) } := call_flat (by simp) c100 (flatT _)
theorem chUp : UpOk (chn 3) := by
  intro i h0 h1
  have : i = 1 ∨ i = 2 ∨ i = 3 := by rw [chn_len] at h1; omega
  rcases this with rfl | rfl | rfl <;> decide
theorem chP0 : path (chn 3) 0 = [0] := path_zero (by rw [chn_len]; omega)
theorem chP1 : path (chn 3) 1 = [0, 1] := by rw [path_step chUp (by omega) (by rw [chn_len]; omega)]; show path _ 0 ++ [1] = _; rw [chP0]; rfl
theorem chP2 : path (chn 3) 2 = [0, 1, 2] := by rw [path_step chUp (by omega) (by rw [chn_len]; omega)]; show path _ 1 ++ [2] = _; rw [chP1]; rfl
theorem chP3 : path (chn 3) 3 = [0, 1, 2, 3] := by rw [path_step chUp (by omega) (by rw [chn_len]; omega)]; show path _ 2 ++ [3] = _; rw [chP2]; rfl
theorem mkz : mkRoot 101 ≠ zRoot := by decide
theorem mk012 : mkRoot 102 ≠ mkRoot 101 := by decide
theorem chReach : reachV (chn 3) 3 (mkRoot 101) = (1, 2) := by
  unfold reachV
  rw [chP3, if_neg (by simp), if_neg mkz]
  have e2 : pay (chn 3) 2 = mkRoot 102 := rfl
  have e1 : pay (chn 3) 1 = mkRoot 101 := rfl
  have h : lastF (chn 3) [0, 1, 2, 3] (mkRoot 101) ([0, 1, 2, 3] : List Int).length.pred = some 1 := by
    show lastF (chn 3) [0, 1, 2, 3] (mkRoot 101) (2 + 1) = _
    simp only [lastF]
    rw [show it [0, 1, 2, 3] ((2 : Nat) : Int) = 2 from rfl, show it [0, 1, 2, 3] ((1 : Nat) : Int) = 1 from rfl, e2, e1, if_neg mk012, if_pos rfl]
  rw [show ([0, 1, 2, 3] : List Int).length - 1 = ([0, 1, 2, 3] : List Int).length.pred from rfl, h]
  rfl
theorem chJud : ∃ r : List Node, judV (chn 3) 3 ⟨zVerdict.tagged, 2, mkRoot 101⟩ [0] = .tup [.agg (cTree ⟨r⟩), .v (.int .i64 0)] ∧ r.length = 4 ∧ (nd r 1).status = 1 ∧ (nd r 2).status = 2 ∧ (nd r 3).status = 2 := by
  unfold judV
  rw [if_neg (by rw [chn_len]; simp), if_neg (by decide), if_pos rfl]
  unfold cndV
  rw [chReach, if_neg]
  · rw [if_pos (by decide)]
    have h1 : raO (chn 3) 1 = some [withSt (nd (chn 3) 0) 1, withSt (nd (chn 3) 1) 1, nd (chn 3) 2, nd (chn 3) 3] := by
      unfold raO
      rw [chP1]
      rfl
    simp only [h1]
    have hR := raised_of chUp h1
    have hl4 : (chn 3).length = 4 := rfl
    have hd : dsc [withSt (nd (chn 3) 0) 1, withSt (nd (chn 3) 1) 1, nd (chn 3) 2, nd (chn 3) 3] 2 4 = [2, 3] := by
      rw [← hR.c.su.dscE chUp 2 4]
      have a0 : anc (chn 3) 2 ((0 : Nat) : Int) = false := by unfold anc; rw [show ((0 : Nat) : Int) = 0 from rfl, chP0]; rfl
      have a1 : anc (chn 3) 2 ((1 : Nat) : Int) = false := by unfold anc; rw [show ((1 : Nat) : Int) = 1 from rfl, chP1]; rfl
      have a2 : anc (chn 3) 2 ((2 : Nat) : Int) = true := by unfold anc; rw [show ((2 : Nat) : Int) = 2 from rfl, chP2]; rfl
      have a3 : anc (chn 3) 2 ((3 : Nat) : Int) = true := by unfold anc; rw [show ((3 : Nat) : Int) = 3 from rfl, chP3]; rfl
      simp only [dsc, a0, a1, a2, a3]
      rfl
    refine ⟨[withSt (nd (chn 3) 0) 1, withSt (nd (chn 3) 1) 1, withSt (nd (chn 3) 2) 2, withSt (nd (chn 3) 3) 2], ?_, rfl, rfl, rfl, rfl⟩
    unfold coV
    rw [if_pos (by decide)]
    unfold coO
    rw [show [withSt (nd (chn 3) 0) 1, withSt (nd (chn 3) 1) 1, nd (chn 3) 2, nd (chn 3) 3].length = 4 from rfl, hd]
    rfl
  · rintro ⟨k, hk, h⟩
    rw [List.mem_singleton] at hk
    subst hk
    unfold anc at h
    rw [chP0] at h
    revert h
    decide
theorem e78 (s k : Nat) (t : Tree) (i : Int) (v : Verdict) (st : St) (d : Option Nat) : callEat (callL Try.prog) 78 [.agg (cTree t), .v (.int .i64 i), .agg (cVerdict v), .own s k] st d = callEQ (callL Try.prog) 78 (optAll ([.agg (cTree t), .v (.int .i64 i), .agg (cVerdict v), .own s k].map (expo st))) s k d := by
  refine eat_one ?_ ?_
  · simp only [List.flatMap_cons, List.flatMap_nil, flat_keys (flatT t), flat_keys (.v (.int .i64 i)), flat_keys (.agg _ (flat_cVerdict v)), List.append_nil, List.nil_append]
    rfl
  · intro y hy
    rcases List.mem_cons.1 hy with rfl | hy
    · exact .inl (flatT t)
    · rcases List.mem_cons.1 hy with rfl | hy
      · exact .inl (.v _)
      · rcases List.mem_cons.1 hy with rfl | hy
        · exact .inl (.agg _ (flat_cVerdict v))
        · simp at hy; subst hy; exact .inr (.inl ⟨s, k, rfl⟩)
end Go.Ab.Try
