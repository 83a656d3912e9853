/-
  Part L11 of the proof: what functions of this program compute.
-/
import Derived.Test.YtgpkmepalmdmeaaL10
set_option linter.all false
set_option linter.unusedSimpArgs false
set_option linter.unusedVariables false
set_option maxRecDepth 20000
set_option maxHeartbeats 4000000
namespace Go.Ab.Try
open Classical Go.Proofs Go.Ab
def fb (k : Nat) : Block := ⟨zBlock.pulled, k, mkRoot ((k : Int) + 1), if k = 0 then zBlock.parent else mkRoot k, zBlock.payload, zBlock.diff, zBlock.pdiff, zBlock.just, zBlock.fin, zBlock.timely⟩
def fl : Nat → List Node
  | 0 => []
  | k + 1 => fl k ++ [⟨fb k, (k : Int) - 1, zNode.status⟩]
theorem fl_len : ∀ k, (fl k).length = k
  | 0 => rfl
  | k + 1 => by simp only [fl, List.length_append, fl_len k, List.length_singleton]
theorem fl_chn : ∀ k, Chn (fl k)
  | 0 => fun j j0 j1 => by simp [fl] at j1; omega
  | k + 1 => by
    refine chn_app (fl_chn k) ?_ ?_
    · rw [fl_len]; rfl
    · rw [fl_len]; rfl
theorem flat_cs (l : List Node) : ∀ c ∈ csNode l, Flat c := flat_csNode l
/-- BlocktreeFull -/
theorem c13 (n : Int) : callL Try.prog 13 [.v (.int .i64 n)] = some (.v (.bool true)) := by
  rw [callL_eq Try.prog Try.func13 rfl ok13 _ (ext_none _ (by decide)) rfl]
  obtain ⟨b1, b2⟩ := and_bound n 1 (by decide)
  obtain ⟨m, hm, m0, m1⟩ : ∃ m, IntKind.i64.wrap ↑(BitVec.ofInt IntKind.i64.bits n &&& BitVec.ofInt IntKind.i64.bits 1).toNat = m ∧ 0 ≤ m ∧ m ≤ 1 := ⟨_, rfl, b1, b2⟩
  have hw0 : IntKind.i64.wrap (4096 - m) = 4096 - m := w64 _ (by omega) (by omega)
  obtain ⟨M, hM⟩ : ∃ M : Nat, 4096 - m = M := ⟨(4096 - m).toNat, by omega⟩
  rw [hM] at hw0
  simp -implicitDefEqProofs only [ZZ, seval, hm]
  refine use_loop (fun n st => ∃ k : Nat, (st.env 2 = .v (.bool false) ∧ st.env 3 = .v (.int .i64 m) ∧ st.env 4 = .ptr 4 0 0 ∧ st.env 5 = .v (.int .i64 k)) ∧
      ((k = 0 ∧ st.heap 4 0 = some (.cells [.v (.slice none 0 0)])) ∨ (0 < k ∧ ∃ g, st.heap 4 0 = some (.cells [.own 36 g]) ∧ g < st.cnt 36 ∧ st.heap 36 g = some (.row 54 240 (fl k).length (csNode (fl k))))) ∧ k ≤ M ∧ n = M - k)
    (fun e st => e = .exit 0 ∧ (st.env 2 = .v (.bool false) ∧ st.env 3 = .v (.int .i64 m) ∧ st.env 4 = .ptr 4 0 0) ∧ ∃ g, st.heap 4 0 = some (.cells [.own 36 g]) ∧ g < st.cnt 36 ∧ st.heap 36 g = some (.row 54 240 (fl M).length (csNode (fl M)))) M ?step ?start ?rest
  case step =>
    rintro n st ⟨k, hI, hh, hk, hn'⟩
    have hl := fl_len k
    have hl' : ((fl k).length : Int) < 1000000 := by omega
    by_cases hlt : (k : Int) < M
    · have hw : IntKind.i64.wrap ((k : Int) + 1) = ((k + 1 : Nat) : Int) := by rw [w64 _ (by omega) (by omega)]; omega
      have hw1 : IntKind.i64.wrap ((k : Int) - 1) = (k : Int) - 1 := w64 _ (by omega) (by omega)
      have hw3 : IntKind.u64.wrap (k : Int) = k := by simp [IntKind.wrap, IntKind.bits, IntKind.signed]; omega
      rcases hh with ⟨rfl, hh⟩ | ⟨k0, g, hh, hg, hrow⟩
      · have w1 : IntKind.i64.wrap 1 = 1 := by decide
        have hs : fl (0 + 1) = [⟨fb 0, ((0 : Nat) : Int) - 1, zNode.status⟩] := rfl
        have hlt0 : decide ((0 : Int) < M) = true := decide_eq_true (by omega)
        refine go_on (st' := ?s1) ?h1 (M - (0 + 1)) (by omega) ?q1
        case h1 =>
          simp -implicitDefEqProofs only [ZZ, seval, hI, hh, hw0, hlt0, hM, hw, hw1, hw3, k53]
          rfl
        case q1 => exact ⟨0 + 1, by simp only [EV, seval, hI, w1] <;> rfl, .inr ⟨by omega, _, (by simp only [EV, seval] <;> rfl), (by simp only [EV, seval] <;> omega), (by rw [hs]; simp only [EV, seval] <;> rfl)⟩, by omega, rfl⟩
      · have hpos : (0 : Int) < k := by omega
        have hs : fl (k + 1) = fl k ++ [⟨fb k, (k : Int) - 1, zNode.status⟩] := rfl
        simp only [fb, if_neg (show k ≠ 0 by omega)] at hs
        refine go_on (st' := ?s2) ?h2 (M - (k + 1)) (by omega) ?q2
        case h2 =>
          simp -implicitDefEqProofs only [ZZ, seval, hI, hh, hrow, hw0, hlt, hM, hw, hw1, hw3, hpos, hl', k53]
          rfl
        case q2 => exact ⟨k + 1, by simp only [EV, seval, hI], .inr ⟨by omega, _, (by simp only [EV, seval] <;> rfl), (by simp only [EV, seval] <;> omega), (by rw [hs]; simp only [EV, seval] <;> rfl)⟩, by omega, rfl⟩
    · obtain rfl : k = M := by omega
      rcases hh with ⟨rfl, hh⟩ | ⟨k0, hh⟩
      · omega
      · refine go_out (e := .exit 0) (st' := ?s3) ?h3 (by simp) ?q3
        case h3 =>
          simp -implicitDefEqProofs only [ZZ, seval, hI, hw0, hM, hlt]
          rfl
        case q3 => exact ⟨rfl, by simp only [EV, seval, hI], by simpa only [EV, seval] using hh⟩
  case start => exact ⟨0, (by simp only [EV, seval]), .inl ⟨rfl, (by simp only [EV, seval])⟩, by omega, rfl⟩
  case rest =>
    rintro e st ⟨rfl, hI, g, hh, hg, hrow⟩
    have hl := fl_len M
    have hw1 : IntKind.i64.wrap ((M : Int) - 1) = (M : Int) - 1 := w64 _ (by omega) (by omega)
    have hw3 : IntKind.u64.wrap (M : Int) = M := by simp [IntKind.wrap, IntKind.bits, IntKind.signed]; omega
    obtain ⟨b, hb⟩ : ∃ b : Block, b = ⟨zBlock.pulled, (M : Int), mkRoot 5000, mkRoot M, zBlock.payload, zBlock.diff, zBlock.pdiff, zBlock.just, zBlock.fin, zBlock.timely⟩ := ⟨_, rfl⟩
    obtain ⟨f1, f2⟩ := ins_chain (ns := fl M) (k := (M : Int)) (b := b) (m := 5000) (s := 1) (by rw [hl]) (by omega) (by omega) (fl_chn M) (by omega) (by omega) (by rw [hb]) (by rw [hb]) (by rw [hb]) rfl
    have hc : callL Try.prog 54 [.agg [.sl (fl M).length (csNode (fl M))], .agg (cBlock b), .v (.int .i64 1)] = some (insA (fl M) b 1) := c54 (fl M) (by omega) b 1
    have hq := fun s k d => EQ_of (s := s) (k := k) (d := d) hc (flat_insA (fl M) b 1)
    have hA : insA (fl M) b 1 = if 4096 ≤ (M : Int) then .tup [.agg [.v (.slice none 0 0)], .v (.int .i64 11)] else .tup [.agg (cTree ⟨fl M ++ [⟨b, (M : Int) - 1, 1⟩]⟩), .v (.int .i64 0)] := by
      unfold insA
      rw [f2, f1]
      by_cases h : 4096 ≤ (M : Int)
      · rw [if_pos h, if_pos h, if_neg (by decide)]
      · rw [if_neg h, if_neg h, if_pos rfl]
    rw [hA] at hq
    have hx : expoF (some (.row 54 240 (fl M).length (csNode (fl M)))) = some (.sl (fl M).length (csNode (fl M))) := expoF_node _ _ _ _
    by_cases h : 4096 ≤ (M : Int)
    · rw [if_pos h] at hq
      have hm0 : m = 0 := by omega
      have bm : (m == 0) = true := by simp [hm0]
      subst hb
      simp -implicitDefEqProofs only [ZZ, seval, hI, hh, hrow, hw0, hM, hw3, k53, e54, hq, extA, bm, k55, beq_self_eq_true]
      exact endL_tmp (keep_none (by decide)) (.inl rfl) rfl (by simp only [EV, seval] <;> rfl) (.v _)
    · rw [if_neg h] at hq
      have hm1 : m = 1 := by omega
      have bm : (m == 0) = false := by simp [hm1]
      obtain ⟨u, hu⟩ : ∃ u, u = fl M ++ [⟨b, (M : Int) - 1, 1⟩] := ⟨_, rfl⟩
      rw [← hu] at hq
      have hul : (u.length : Int) = 4096 := by rw [hu, List.length_append, List.length_singleton, hl]; omega
      have hub : ((u.length : Int) == 4096) = true := by simp [hul]
      have hu1 : (4095 : Int) < u.length := by omega
      have hup : (nd u 4095).up = (M : Int) - 1 := by rw [hu, nd_app_eq (by rw [hl]; omega)]
      subst hb
      simp -implicitDefEqProofs only [ZZ, seval, hI, hh, hrow, hw0, hM, hw1, hw3, k53, e54, hq, extA, bm, k55, hub, hu1, hup, beq_self_eq_true, Int.zero_le_ofNat]
      exact endL_tmp (keep_none (by decide)) (.inl rfl) rfl (by simp only [EV, seval] <;> rfl) (.v _)
end Go.Ab.Try
