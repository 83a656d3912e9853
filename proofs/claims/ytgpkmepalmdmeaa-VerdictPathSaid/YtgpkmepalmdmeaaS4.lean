/-
  Part S4 of the proof: what functions of this program compute.
-/
import Derived.Test.YtgpkmepalmdmeaaK13
import Derived.Test.YtgpkmepalmdmeaaK12
set_option linter.all false
set_option linter.unusedSimpArgs false
set_option linter.unusedVariables false
set_option maxRecDepth 20000
set_option maxHeartbeats 4000000
namespace Go.Ab.Try
open Classical Go.Proofs Go.Ab
/-- ref11.Closed -/
theorem c67 (ns : List Node) (hn : (ns.length : Int) < 1000000) : callL Try.prog 67 [.agg (cTree ⟨ns⟩)] = some (.v (.int .i64 (clsV ns))) := by
  rw [callL_eq Try.prog Try.func67 rfl ok67 _ (ext_none _ (by decide)) rfl]
  have hK := k65 ns hn
  by_cases hv : valV ns = 0
  · have v := valV_zero hv
    have h0 := v.len0
    have hq : (valV ns != 0) = false := by simp [hv]
    have hc : clsV ns = if ∃ i : Int, 0 < i ∧ i < ns.length ∧ stE ns i then 15 else 0 := if_pos hv
    simp -implicitDefEqProofs only [ZZ, seval, hK, hq]
    refine use_loop (fun n st => ∃ k : Nat, (st.env 1 = .ptr 1 0 0 ∧ st.heap 1 0 = some (.cells (cTree ⟨ns⟩)) ∧ st.env 4 = .v (.int .i64 k)) ∧ (∀ i : Int, 0 < i → i < k → ¬ stE ns i) ∧ 1 ≤ k ∧ k ≤ ns.length ∧ n = ns.length - k)
      (fun e st => (e = .ret ∧ st.env 2 = .v (.int .i64 (clsV ns))) ∨ (e = .exit 0 ∧ clsV ns = 0)) (ns.length - 1) ?step ?start ?rest
    case step =>
      rintro n st ⟨k, hI, hj, hk1, hk, hn'⟩
      by_cases hlt : (k : Int) < ns.length
      · have hw : IntKind.i64.wrap ((k : Int) + 1) = ((k + 1 : Nat) : Int) := by rw [w64 _ (by omega) (by omega)]; omega
        have q0 : (0 : Int) ≤ k := by omega
        obtain ⟨u0, u1⟩ := v.up (k : Int) (by omega) (by omega)
        have u2 : (nd ns (k : Int)).up < ns.length := by omega
        have hnext : ¬ stE ns (k : Int) → ∀ i : Int, 0 < i → i < ((k + 1 : Nat) : Int) → ¬ stE ns i := fun h i i0 i1 => by
          by_cases hi : i < k
          · exact hj i i0 hi
          · rw [show i = (k : Int) by omega]; exact h
        have hbad : stE ns (k : Int) → clsV ns = 15 := fun h => by rw [hc, if_pos ⟨_, by omega, by omega, h⟩]
        by_cases hA : (nd ns (k : Int)).status = 1 ∧ (nd ns (nd ns (k : Int)).up).status ≠ 1
        · have h1 : ((nd ns (k : Int)).status == 1) = true := by simp [hA.1]
          have h2 : ((nd ns (nd ns (k : Int)).up).status != 1) = true := by simp [hA.2]
          refine go_out (e := .ret) (st' := ?s1) ?h1 (by simp) ?q1
          case h1 =>
            simp -implicitDefEqProofs only [ZZ, seval, hI, hlt, q0, u0, u2, h1, h2]
            rfl
          case q1 => exact .inl ⟨rfl, by rw [hbad (.inl hA)]; simp only [EV, seval]⟩
        · by_cases hB : (nd ns (nd ns (k : Int)).up).status = 2 ∧ (nd ns (k : Int)).status ≠ 2
          · have h1 : ((nd ns (k : Int)).status == 1) = false := by
              rw [beq_eq_false_iff_ne]; intro h; exact hA ⟨h, by omega⟩
            have h3 : ((nd ns (nd ns (k : Int)).up).status == 2) = true := by simp [hB.1]
            have h4 : ((nd ns (k : Int)).status != 2) = true := by simp [hB.2]
            refine go_out (e := .ret) (st' := ?s2) ?h2 (by simp) ?q2
            case h2 =>
              simp -implicitDefEqProofs only [ZZ, seval, hI, hlt, q0, u0, u2, h1, h3, h4]
              rfl
            case q2 => exact .inl ⟨rfl, by rw [hbad (.inr hB)]; simp only [EV, seval]⟩
          · have hno : ¬ stE ns (k : Int) := by rintro (h | h); exact hA h; exact hB h
            by_cases hs : (nd ns (k : Int)).status = 1
            · have hu : (nd ns (nd ns (k : Int)).up).status = 1 := Decidable.of_not_not fun h => hA ⟨hs, h⟩
              have h1 : ((nd ns (k : Int)).status == 1) = true := by simp [hs]
              have h2 : ((nd ns (nd ns (k : Int)).up).status != 1) = false := by simp [hu]
              have h3 : ((nd ns (nd ns (k : Int)).up).status == 2) = false := by simp [hu]
              refine go_on (st' := ?s3) ?h3 (ns.length - (k + 1)) (by omega) ?q3
              case h3 =>
                simp -implicitDefEqProofs only [ZZ, seval, hI, hlt, q0, u0, u2, h1, h2, h3, hw]
                rfl
              case q3 => exact ⟨k + 1, by simp only [EV, seval, hI], hnext hno, by omega, by omega, rfl⟩
            · have h1 : ((nd ns (k : Int)).status == 1) = false := by simp [hs]
              by_cases hu : (nd ns (nd ns (k : Int)).up).status = 2
              · have h3 : ((nd ns (nd ns (k : Int)).up).status == 2) = true := by simp [hu]
                have h4 : ((nd ns (k : Int)).status != 2) = false := by
                  have : (nd ns (k : Int)).status = 2 := Decidable.of_not_not fun h => hB ⟨hu, h⟩
                  simp [this]
                refine go_on (st' := ?s4) ?h4 (ns.length - (k + 1)) (by omega) ?q4
                case h4 =>
                  simp -implicitDefEqProofs only [ZZ, seval, hI, hlt, q0, u0, u2, h1, h3, h4, hw]
                  rfl
                case q4 => exact ⟨k + 1, by simp only [EV, seval, hI], hnext hno, by omega, by omega, rfl⟩
              · have h3 : ((nd ns (nd ns (k : Int)).up).status == 2) = false := by simp [hu]
                refine go_on (st' := ?s5) ?h5 (ns.length - (k + 1)) (by omega) ?q5
                case h5 =>
                  simp -implicitDefEqProofs only [ZZ, seval, hI, hlt, q0, u0, u2, h1, h3, hw]
                  rfl
                case q5 => exact ⟨k + 1, by simp only [EV, seval, hI], hnext hno, by omega, by omega, rfl⟩
      · have hend : clsV ns = 0 := by
          rw [hc, if_neg]
          rintro ⟨i, i0, i1, h⟩
          exact hj i i0 (by omega) h
        refine go_out (e := .exit 0) (st' := ?s6) ?h6 (by simp) ?q6
        case h6 =>
          simp -implicitDefEqProofs only [ZZ, seval, hI, hlt]
          rfl
        case q6 => exact .inr ⟨rfl, hend⟩
    case start => exact ⟨1, by simp only [EV, seval] <;> rfl, fun i i0 i1 => by omega, by omega, by omega, by omega⟩
    case rest =>
      rintro e st (⟨rfl, h⟩ | ⟨rfl, h⟩)
      · simp -implicitDefEqProofs only [ZZ, seval]
        exact endL_tmp (keep_none (by decide)) (.inl rfl) rfl h (.v _)
      · simp -implicitDefEqProofs only [ZZ, seval]
        exact endL_tmp (keep_none (by decide)) (.inl rfl) rfl (by simp only [EV, seval, h]) (.v _)
  · have hq : (valV ns != 0) = true := by simp [hv]
    have hc : clsV ns = valV ns := if_neg hv
    simp -implicitDefEqProofs only [ZZ, seval, hK, hq]
    exact endL_tmp (keep_none (by decide)) (.inl rfl) rfl (by simp only [EV, seval, hc]) (.v _)
theorem k67 (ns : List Node) (hn : (ns.length : Int) < 1000000) (st : St) (d : Option Nat) : callFn (callL Try.prog) 67 [.agg (cTree ⟨ns⟩)] st d = some { dst := d, val := .v (.int .i64 (clsV ns)) } := call_flat (flat1 (flatT _)) (c67 ns hn) (.v _)
/-- The chain of the sanity check. -/
def wN2 : Node := ⟨bk 1 (mkRoot 2) (mkRoot 1), zNode.up, zNode.status⟩
def wN3 : Node := ⟨bk 2 (mkRoot 3) (mkRoot 2), 1, zNode.status⟩
theorem wUp : UpOk [aN1, wN2, wN3] := by
  intro i h0 h1
  have : i = 1 ∨ i = 2 := by simp at h1; omega
  rcases this with rfl | rfl <;> decide
theorem c95 : callL Try.prog 95 [] = some (.agg (cTree ⟨[aN1, wN2, wN3]⟩)) := by
  rw [callL_eq Try.prog Try.func95 rfl ok95 _ (ext_none _ (by decide)) rfl]
  simp -implicitDefEqProofs only [ZZ, seval, k53, ev_bs23_3E]
  exact endL_cellx (keep_none (by decide)) (.inl rfl) rfl (by simp only [EV, seval]; rfl) (by simp -implicitDefEqProofs only [ZZ, seval]; rfl) (by simp only [EV, seval, expoF_node3, Option.map_some] <;> rfl)
theorem k95 (st : St) (d : Option Nat) : callFn (callL Try.prog) 95 [] st d = some { dst := d, val := .agg (cTree ⟨[aN1, wN2, wN3]⟩) } := call_flat (by simp) c95 (flatT _)
theorem wPath1 : path [aN1, wN2, wN3] 1 = [0, 1] := by rw [path_step wUp (by omega) (by simp)]; show path _ 0 ++ [1] = _; rw [path_zero (by simp)]; rfl
theorem wPath2 : path [aN1, wN2, wN3] 2 = [0, 1, 2] := by rw [path_step wUp (by omega) (by simp)]; show path _ 1 ++ [2] = _; rw [wPath1]; rfl
theorem wRa : raV [aN1, wN2, wN3] 1 = stA (some [withSt aN1 1, withSt wN2 1, wN3]) := by
  unfold raV raO
  rw [if_pos (by simp), wPath1]
  congr 1
theorem wDsc : dsc [aN1, wN2, wN3] 0 3 = [0, 1, 2] := by
  have e0 : anc [aN1, wN2, wN3] 0 ((0 : Nat) : Int) = true := by unfold anc; rw [show ((0 : Nat) : Int) = 0 from rfl, path_zero (by simp)]; rfl
  have e1 : anc [aN1, wN2, wN3] 0 ((1 : Nat) : Int) = true := by unfold anc; rw [show ((1 : Nat) : Int) = 1 from rfl, wPath1]; rfl
  have e2 : anc [aN1, wN2, wN3] 0 ((2 : Nat) : Int) = true := by unfold anc; rw [show ((2 : Nat) : Int) = 2 from rfl, wPath2]; rfl
  simp only [dsc, e0, e1, e2]
  rfl
theorem wCo : coV [aN1, wN2, wN3] 0 = err2 21 := by
  unfold coV coO
  rw [if_pos (by simp), show [aN1, wN2, wN3].length = 3 from rfl, wDsc]
  rfl
theorem wVld : Vld [aN1, wN2, wN3] where
  len0 := by simp
  lenM := by simp
  up0 := rfl
  up := wUp
  par := fun i h0 h1 => by
    have : i = 1 ∨ i = 2 := by simp at h1; omega
    rcases this with rfl | rfl <;> rfl
  slot := fun i h0 h1 => by
    have : i = 1 ∨ i = 2 := by simp at h1; omega
    rcases this with rfl | rfl
    · show zBlock.slot < 1; decide
    · show (1 : Int) < 2; decide
  roots := fun i j h0 h1 h2 => by
    have : (i = 0 ∧ j = 1) ∨ (i = 0 ∧ j = 2) ∨ (i = 1 ∧ j = 2) := by simp at h2; omega
    rcases this with ⟨rfl, rfl⟩ | ⟨rfl, rfl⟩ | ⟨rfl, rfl⟩
    · show mkRoot 1 ≠ mkRoot 2; intro h; exact mk12.mp h
    · show mkRoot 1 ≠ mkRoot 3; intro h; exact mk13.mp h
    · show mkRoot 2 ≠ mkRoot 3; intro h; exact mk23.mp h
  st := fun i h0 h1 => by
    have : i = 0 ∨ i = 1 ∨ i = 2 := by simp at h1; omega
    rcases this with rfl | rfl | rfl <;> decide
theorem wCld : Cld [aN1, wN2, wN3] := fun i h0 h1 => by
  have : i = 1 ∨ i = 2 := by simp at h1; omega
  rcases this with rfl | rfl
  · show (zNode.status = 1 → (1 : Int) = 1) ∧ ((1 : Int) = 2 → zNode.status = 2)
    exact ⟨fun _ => rfl, by decide⟩
  · show (zNode.status = 1 → zNode.status = 1) ∧ (zNode.status = 2 → zNode.status = 2)
    exact ⟨id, id⟩
/-- The sanity check of the statuses. -/
theorem c68 : callL Try.prog 68 [] = some (.v (.bool true)) := by
  rw [callL_eq Try.prog Try.func68 rfl ok68 _ (ext_none _ (by decide)) rfl]
  have hl : ([aN1, wN2, wN3].length : Int) < 1000000 := by decide
  have h70 := k70 [aN1, wN2, wN3] wUp rfl hl 1
  have h71 := k71 [aN1, wN2, wN3] wUp rfl hl 0
  have h50 := k50 [aN1, wN2, wN3] hl
  rw [wRa] at h70
  rw [wCo] at h71
  rw [clsV_ok wVld wCld] at h50
  have h95 := k95
  have r1 : (nd [withSt aN1 1, withSt wN2 1, wN3] 1).status = 1 := rfl
  have r2 : (nd [withSt aN1 1, withSt wN2 1, wN3] 2).status = 0 := rfl
  have r3 : [withSt aN1 1, withSt wN2 1, wN3].length = 3 := rfl
  generalize [withSt aN1 1, withSt wN2 1, wN3] = r at h70 r1 r2 r3
  generalize [aN1, wN2, wN3] = w at h70 h71 h50 h95
  have l1 : (1 : Int) < r.length := by omega
  have l2 : (2 : Int) < r.length := by omega
  have l3 : ((r.length : Int) == 3) = true := by simp [r3]
  simp only [stA, err2] at h70 h71
  simp -implicitDefEqProofs only [ZZ, seval, h95, h70, h71, h50, extA, l1, l2, l3, r1, r2, Int.zero_le_ofNat, beq_self_eq_true]
  exact endL_tmp (keep_none (by decide)) (.inl rfl) rfl (by simp only [EV, seval] <;> rfl) (.v _)
theorem k68 (st : St) (d : Option Nat) : callFn (callL Try.prog) 68 [] st d = some { dst := d, val := .v (.bool true) } := call_flat (by simp) c68 (.v _)
/-- StatusAny -/
theorem c20 (ns : List Node) (hn : (ns.length : Int) ≤ 9223372036854775807) : callL Try.prog 20 [.agg (cTree ⟨ns⟩)] = some (.v (.bool true)) := by
  rw [callL_eq Try.prog Try.func20 rfl ok20 _ (ext_none _ (by decide)) rfl]
  by_cases h : (60 : Int) < ns.length
  · simp -implicitDefEqProofs only [ZZ, seval, h, k68]
    exact endL_tmp (keep_none (by decide)) (.inl rfl) rfl (by simp only [EV, seval] <;> rfl) (.v _)
  · have h50 := k50 ns (by omega)
    have h67 := k67 ns (by omega)
    simp -implicitDefEqProofs only [ZZ, seval, h, k68, h50, h67, beq_self_eq_true]
    exact endL_tmp (keep_none (by decide)) (.inl rfl) rfl (by simp only [EV, seval] <;> rfl) (.v _)
end Go.Ab.Try
