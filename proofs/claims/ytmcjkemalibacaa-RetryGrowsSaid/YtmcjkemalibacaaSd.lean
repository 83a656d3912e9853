/-
  Part Sd of the proof: what functions of this program compute.
-/
import Derived.Test.YtmcjkemalibacaaSx3
import Derived.Test.YtmcjkemalibacaaAb26
set_option linter.all false
set_option linter.all false
set_option maxRecDepth 20000
namespace Go.Ab.Try
open Classical Go.Proofs Go.Ab
/-- The delay, by the rule. -/
def dly (n b : Int) : Int := min (2 ^ ((max n 1 - 1).toNat)) b
theorem ok5 : fnOkN Try.f5 = true := by kernel_rfl
theorem ok6 : fnOkN Try.f6 = true := by kernel_rfl
theorem ok3 : fnOkN Try.f3 = true := by kernel_rfl
theorem ok4 : fnOkN Try.f4 = true := by kernel_rfl
theorem ev_callS {call : Nat → List AV → Option AV} {ops : Array Oper} {st : St} {d : Option Nat} {T : Nat} {pos : String} {aft : Array Edge} (g : Nat) (args : Array Operand) (ats : Array Nat) (h : (g == 21 || g == 13 || g == 15) = false) :
    evOp Try.prog call ops ⟨d, .call ⟨.value (.func g), args, ats⟩, T, pos, aft, none⟩ st = bnd (callFn call g (args.toList.map st.ev) st d) fun e => some (e.apply st) := by
  simp only [Bool.or_eq_false_iff] at h
  exact ev_call g args ats h.1.1 (by show (g == 13 || g == 15) = false; simp only [h, Bool.or_self])
theorem wu64 (x : Int) (h1 : 0 ≤ x) (h2 : x < 18446744073709551616) : IntKind.u64.wrap x = x := by
  unfold IntKind.wrap
  simp [IntKind.signed, IntKind.bits]
  omega
theorem wi64 (x : Int) (h1 : -9223372036854775808 ≤ x) (h2 : x < 9223372036854775808) : IntKind.i64.wrap x = x := wrap_i64 x h1 (by omega)
theorem flat2 {x y : AV} (h : Flat x) (h' : Flat y) : ∀ z ∈ [x, y], Flat z := by simp [h, h']
theorem pow_lt {m : Nat} (h : m ≤ 63) : (0 : Int) < 2 ^ m ∧ (2 : Int) ^ m ≤ 9223372036854775808 := by
  constructor
  · exact Int.pow_pos (by decide)
  · have h1 : (2 : Nat) ^ m ≤ 2 ^ 63 := Nat.pow_le_pow_right (by decide) h
    have h2 : ((2 ^ m : Nat) : Int) = 2 ^ m := by simp
    rw [← h2]
    have : (2 : Nat) ^ 63 = 9223372036854775808 := by decide
    omega
theorem pow_ge {m : Nat} (h : 64 ≤ m) : (18446744073709551616 : Int) ≤ 2 ^ m := by
  have h1 : (2 : Nat) ^ 64 ≤ 2 ^ m := Nat.pow_le_pow_right (by decide) h
  have h2 : ((2 ^ m : Nat) : Int) = 2 ^ m := by simp
  rw [← h2]
  have : (2 : Nat) ^ 64 = 18446744073709551616 := by decide
  omega
theorem xtmp {f : Nat} {fn : Func} {st : St} {x : AV} {t : Nat} (hr : fn.results.toList = [.tmp t]) (hx : st.env t = x) (hf : Flat x := by exact .v _) (hk : Ext.keep f = false := by rfl) : endL Try.prog f fn (.ret, st) = some x := endL_tmp hk (.inl rfl) hr hx hf
/-- retry.Delay -/
theorem c5 (n b : Int) (hb : 0 ≤ b ∧ b < 18446744073709551616) : callL Try.prog 5 [.v (.int .i64 n), .v (.int .u64 b)] = some (.v (.int .u64 (dly n b))) := by
  rw [callL_eq Try.prog Try.func5 rfl ok5 _ rfl rfl]
  by_cases h : 64 < n
  · have e : dly n b = b := by
      have := pow_ge (m := (max n 1 - 1).toNat) (by omega)
      unfold dly
      omega
    rw [e]
    simp -implicitDefEqProofs only [Try.f5, bnd_some, bnd_none, bnd_assoc, evOps_nil, evOps_cons, ev_guardS, ev_move, ev_assign, ev_pick, ev_binOp, ev_convert, bin_add, bin_sub, bin_mul, bin_and, bin_eql, bin_neq, bin_lss, bin_leq, bin_gtr, bin_geq, convA, onS_some, onGd_true, onGd_false, onGd_undef, onB_bool, gslot, ev_const, ev_tmp, env_put, env_put_none, put_none, env_init, apply_plain, evL_seq, evL_region, evL_block, evL_skip, evL_exit, evL_ret, evL_condB, thenL_normal, thenL_ret, thenL_exit, ev_field, ev_min, ev_max, minA_int, maxA_int, Ex.inBlock, ev_callS, ge_iff_le, gt_iff_lt, Bool.or_false, Bool.false_or, Bool.false_and, Bool.or_true, Bool.not_true, Bool.not_false, Bool.false_eq_true, Bool.true_eq_false, List.getElem?_toArray, List.toList_toArray, Option.bind_some, Option.map_some, Option.getD_some, Option.getD_none, List.map_cons, List.map_nil, List.getElem?_cons_zero, List.getElem?_cons_succ, List.getElem?_nil, and_true, true_and, and_self, false_and, and_false, ↓reduceIte, reduceCtorEq, if_true, if_false, decide_true, decide_false, not_false_eq_true, ne_eq, Nat.reduceEqDiff, Nat.reduceBEq, Nat.succ_ne_zero, Nat.add_zero, Nat.zero_add, seval, h]
    exact xtmp rfl (by simp only [bnd_some, bnd_none, bnd_assoc, evOps_nil, evOps_cons, ev_guardS, ev_move, ev_assign, ev_pick, ev_binOp, ev_convert, bin_add, bin_sub, bin_mul, bin_and, bin_eql, bin_neq, bin_lss, bin_leq, bin_gtr, bin_geq, convA, onS_some, onGd_true, onGd_false, onGd_undef, onB_bool, gslot, ev_const, ev_tmp, env_put, env_put_none, put_none, env_init, apply_plain, evL_seq, evL_region, evL_block, evL_skip, evL_exit, evL_ret, evL_condB, thenL_normal, thenL_ret, thenL_exit, ev_field, ev_min, ev_max, minA_int, maxA_int, Ex.inBlock, ev_callS, ge_iff_le, gt_iff_lt, Bool.or_false, Bool.false_or, Bool.false_and, Bool.or_true, Bool.not_true, Bool.not_false, Bool.false_eq_true, Bool.true_eq_false, List.getElem?_toArray, List.toList_toArray, Option.bind_some, Option.map_some, Option.getD_some, Option.getD_none, List.map_cons, List.map_nil, List.getElem?_cons_zero, List.getElem?_cons_succ, List.getElem?_nil, and_true, true_and, and_self, false_and, and_false, ↓reduceIte, reduceCtorEq, if_true, if_false, decide_true, decide_false, not_false_eq_true, ne_eq, Nat.reduceEqDiff, Nat.reduceBEq, Nat.succ_ne_zero, Nat.add_zero, Nat.zero_add, seval])
  · obtain ⟨m, hm⟩ : ∃ m, (if n < 1 then 1 else n) = m := ⟨_, rfl⟩
    have h1 : 1 ≤ m ∧ m ≤ 64 ∧ (m - 1).toNat = (max n 1 - 1).toNat := by split at hm <;> omega
    obtain ⟨h2, h3⟩ := pow_lt (m := (m - 1).toNat) (by omega)
    have w1 : IntKind.i64.wrap (m - 1) = m - 1 := wi64 _ (by omega) (by omega)
    have n0 : ¬ m - 1 < 0 := by omega
    have e2 : binA Try.prog .shl 22 (.v (.int .u64 1)) (.v (.int .i64 (m - 1))) = some (.v (.int .u64 (2 ^ (m - 1).toNat))) := by
      rw [bin_shl n0]
      have : min (m - 1).toNat IntKind.u64.bits = (m - 1).toNat := by show min _ 64 = _; omega
      rw [this, Int.one_mul, wu64 _ (by omega) (by omega)]
    obtain ⟨p, hp⟩ : ∃ p : Int, 2 ^ (m - 1).toNat = p := ⟨_, rfl⟩
    have e : dly n b = if b < p then b else p := by
      unfold dly
      rw [← h1.2.2, hp]
      split <;> omega
    rw [hp] at e2
    simp -implicitDefEqProofs only [Try.f5, bnd_some, bnd_none, bnd_assoc, evOps_nil, evOps_cons, ev_guardS, ev_move, ev_assign, ev_pick, ev_binOp, ev_convert, bin_add, bin_sub, bin_mul, bin_and, bin_eql, bin_neq, bin_lss, bin_leq, bin_gtr, bin_geq, convA, onS_some, onGd_true, onGd_false, onGd_undef, onB_bool, gslot, ev_const, ev_tmp, env_put, env_put_none, put_none, env_init, apply_plain, evL_seq, evL_region, evL_block, evL_skip, evL_exit, evL_ret, evL_condB, thenL_normal, thenL_ret, thenL_exit, ev_field, ev_min, ev_max, minA_int, maxA_int, Ex.inBlock, ev_callS, ge_iff_le, gt_iff_lt, Bool.or_false, Bool.false_or, Bool.false_and, Bool.or_true, Bool.not_true, Bool.not_false, Bool.false_eq_true, Bool.true_eq_false, List.getElem?_toArray, List.toList_toArray, Option.bind_some, Option.map_some, Option.getD_some, Option.getD_none, List.map_cons, List.map_nil, List.getElem?_cons_zero, List.getElem?_cons_succ, List.getElem?_nil, and_true, true_and, and_self, false_and, and_false, ↓reduceIte, reduceCtorEq, if_true, if_false, decide_true, decide_false, not_false_eq_true, ne_eq, Nat.reduceEqDiff, Nat.reduceBEq, Nat.succ_ne_zero, Nat.add_zero, Nat.zero_add, seval, h, hm, w1, e2]
    rw [e]
    exact xtmp rfl (by simp only [bnd_some, bnd_none, bnd_assoc, evOps_nil, evOps_cons, ev_guardS, ev_move, ev_assign, ev_pick, ev_binOp, ev_convert, bin_add, bin_sub, bin_mul, bin_and, bin_eql, bin_neq, bin_lss, bin_leq, bin_gtr, bin_geq, convA, onS_some, onGd_true, onGd_false, onGd_undef, onB_bool, gslot, ev_const, ev_tmp, env_put, env_put_none, put_none, env_init, apply_plain, evL_seq, evL_region, evL_block, evL_skip, evL_exit, evL_ret, evL_condB, thenL_normal, thenL_ret, thenL_exit, ev_field, ev_min, ev_max, minA_int, maxA_int, Ex.inBlock, ev_callS, ge_iff_le, gt_iff_lt, Bool.or_false, Bool.false_or, Bool.false_and, Bool.or_true, Bool.not_true, Bool.not_false, Bool.false_eq_true, Bool.true_eq_false, List.getElem?_toArray, List.toList_toArray, Option.bind_some, Option.map_some, Option.getD_some, Option.getD_none, List.map_cons, List.map_nil, List.getElem?_cons_zero, List.getElem?_cons_succ, List.getElem?_nil, and_true, true_and, and_self, false_and, and_false, ↓reduceIte, reduceCtorEq, if_true, if_false, decide_true, decide_false, not_false_eq_true, ne_eq, Nat.reduceEqDiff, Nat.reduceBEq, Nat.succ_ne_zero, Nat.add_zero, Nat.zero_add, seval])
theorem k5 (n b : Int) (hb : 0 ≤ b ∧ b < 18446744073709551616) (st : St) (d : Option Nat) : callFn (callL Try.prog) 5 [.v (.int .i64 n), .v (.int .u64 b)] st d = some { dst := d, val := .v (.int .u64 (dly n b)) } := call_flat (flat2 (.v _) (.v _)) (c5 n b hb) (.v _)
/-- ref27.Delay -/
theorem c6 (n b : Int) (hb : 0 ≤ b ∧ b < 18446744073709551616) : callL Try.prog 6 [.v (.int .i64 n), .v (.int .u64 b)] = some (.v (.int .u64 (dly n b))) := by
  rw [callL_eq Try.prog Try.func6 rfl ok6 _ rfl rfl]
  by_cases h : b = 0
  · have e : dly n b = 0 := by
      have : (0 : Int) < 2 ^ ((max n 1 - 1).toNat) := Int.pow_pos (by decide)
      unfold dly
      omega
    have hd : (b == 0) = true := by simp [h]
    rw [e]
    simp -implicitDefEqProofs only [Try.f6, bnd_some, bnd_none, bnd_assoc, evOps_nil, evOps_cons, ev_guardS, ev_move, ev_assign, ev_pick, ev_binOp, ev_convert, bin_add, bin_sub, bin_mul, bin_and, bin_eql, bin_neq, bin_lss, bin_leq, bin_gtr, bin_geq, convA, onS_some, onGd_true, onGd_false, onGd_undef, onB_bool, gslot, ev_const, ev_tmp, env_put, env_put_none, put_none, env_init, apply_plain, evL_seq, evL_region, evL_block, evL_skip, evL_exit, evL_ret, evL_condB, thenL_normal, thenL_ret, thenL_exit, ev_field, ev_min, ev_max, minA_int, maxA_int, Ex.inBlock, ev_callS, ge_iff_le, gt_iff_lt, Bool.or_false, Bool.false_or, Bool.false_and, Bool.or_true, Bool.not_true, Bool.not_false, Bool.false_eq_true, Bool.true_eq_false, List.getElem?_toArray, List.toList_toArray, Option.bind_some, Option.map_some, Option.getD_some, Option.getD_none, List.map_cons, List.map_nil, List.getElem?_cons_zero, List.getElem?_cons_succ, List.getElem?_nil, and_true, true_and, and_self, false_and, and_false, ↓reduceIte, reduceCtorEq, if_true, if_false, decide_true, decide_false, not_false_eq_true, ne_eq, Nat.reduceEqDiff, Nat.reduceBEq, Nat.succ_ne_zero, Nat.add_zero, Nat.zero_add, seval, hd]
    exact xtmp rfl (by simp only [bnd_some, bnd_none, bnd_assoc, evOps_nil, evOps_cons, ev_guardS, ev_move, ev_assign, ev_pick, ev_binOp, ev_convert, bin_add, bin_sub, bin_mul, bin_and, bin_eql, bin_neq, bin_lss, bin_leq, bin_gtr, bin_geq, convA, onS_some, onGd_true, onGd_false, onGd_undef, onB_bool, gslot, ev_const, ev_tmp, env_put, env_put_none, put_none, env_init, apply_plain, evL_seq, evL_region, evL_block, evL_skip, evL_exit, evL_ret, evL_condB, thenL_normal, thenL_ret, thenL_exit, ev_field, ev_min, ev_max, minA_int, maxA_int, Ex.inBlock, ev_callS, ge_iff_le, gt_iff_lt, Bool.or_false, Bool.false_or, Bool.false_and, Bool.or_true, Bool.not_true, Bool.not_false, Bool.false_eq_true, Bool.true_eq_false, List.getElem?_toArray, List.toList_toArray, Option.bind_some, Option.map_some, Option.getD_some, Option.getD_none, List.map_cons, List.map_nil, List.getElem?_cons_zero, List.getElem?_cons_succ, List.getElem?_nil, and_true, true_and, and_self, false_and, and_false, ↓reduceIte, reduceCtorEq, if_true, if_false, decide_true, decide_false, not_false_eq_true, ne_eq, Nat.reduceEqDiff, Nat.reduceBEq, Nat.succ_ne_zero, Nat.add_zero, Nat.zero_add, seval])
  · have hd : (b == 0) = false := by simp [h]
    simp -implicitDefEqProofs only [Try.f6, bnd_some, bnd_none, bnd_assoc, evOps_nil, evOps_cons, ev_guardS, ev_move, ev_assign, ev_pick, ev_binOp, ev_convert, bin_add, bin_sub, bin_mul, bin_and, bin_eql, bin_neq, bin_lss, bin_leq, bin_gtr, bin_geq, convA, onS_some, onGd_true, onGd_false, onGd_undef, onB_bool, gslot, ev_const, ev_tmp, env_put, env_put_none, put_none, env_init, apply_plain, evL_seq, evL_region, evL_block, evL_skip, evL_exit, evL_ret, evL_condB, thenL_normal, thenL_ret, thenL_exit, ev_field, ev_min, ev_max, minA_int, maxA_int, Ex.inBlock, ev_callS, ge_iff_le, gt_iff_lt, Bool.or_false, Bool.false_or, Bool.false_and, Bool.or_true, Bool.not_true, Bool.not_false, Bool.false_eq_true, Bool.true_eq_false, List.getElem?_toArray, List.toList_toArray, Option.bind_some, Option.map_some, Option.getD_some, Option.getD_none, List.map_cons, List.map_nil, List.getElem?_cons_zero, List.getElem?_cons_succ, List.getElem?_nil, and_true, true_and, and_self, false_and, and_false, ↓reduceIte, reduceCtorEq, if_true, if_false, decide_true, decide_false, not_false_eq_true, ne_eq, Nat.reduceEqDiff, Nat.reduceBEq, Nat.succ_ne_zero, Nat.add_zero, Nat.zero_add, seval, hd]
    refine use_loop (fun m st => ∃ k : Nat, (st.env 0 = .v (.int .i64 n) ∧ st.env 1 = .v (.int .u64 b) ∧ st.env 5 = .v (.int .u64 (2 ^ k)) ∧ st.env 6 = .v (.int .i64 (k + 1))) ∧ (2 : Int) ^ k ≤ b ∧ (k = 0 ∨ (k : Int) + 1 ≤ n) ∧ k ≤ 63 ∧ m = 64 - k)
      (fun e st => (e = .ret ∧ st.env 4 = .v (.int .u64 b) ∧ dly n b = b) ∨ (e = .exit 0 ∧ ∃ k : Nat, st.env 5 = .v (.int .u64 (2 ^ k)) ∧ dly n b = 2 ^ k)) 64 ?step ?start ?rest
    case step =>
      rintro m st ⟨k, hI, hk, hn, h63, hm⟩
      obtain ⟨p1, p2⟩ := pow_lt h63
      obtain ⟨p, hp⟩ : ∃ p : Int, 2 ^ k = p := ⟨_, rfl⟩
      have hp2 : (2 : Int) ^ (k + 1) = 2 * p := by rw [Int.pow_succ, hp]; omega
      rw [hp] at hI hk p1 p2
      by_cases hlt : (k : Int) + 1 < n
      · have hmx : ∃ j : Nat, (max n 1 - 1).toNat = (k + 1) + j := ⟨(max n 1 - 1).toNat - (k + 1), by omega⟩
        obtain ⟨j, hj⟩ := hmx
        have w2 : IntKind.u64.wrap (b - p) = b - p := wu64 _ (by omega) (by omega)
        by_cases hc : b - p ≤ p
        · refine go_out (e := .ret) (st' := ?s1) ?h1 (by simp) ?q1
          case h1 =>
            simp only [bnd_some, bnd_none, bnd_assoc, evOps_nil, evOps_cons, ev_guardS, ev_move, ev_assign, ev_pick, ev_binOp, ev_convert, bin_add, bin_sub, bin_mul, bin_and, bin_eql, bin_neq, bin_lss, bin_leq, bin_gtr, bin_geq, convA, onS_some, onGd_true, onGd_false, onGd_undef, onB_bool, gslot, ev_const, ev_tmp, env_put, env_put_none, put_none, env_init, apply_plain, evL_seq, evL_region, evL_block, evL_skip, evL_exit, evL_ret, evL_condB, thenL_normal, thenL_ret, thenL_exit, ev_field, ev_min, ev_max, minA_int, maxA_int, Ex.inBlock, ev_callS, ge_iff_le, gt_iff_lt, Bool.or_false, Bool.false_or, Bool.false_and, Bool.or_true, Bool.not_true, Bool.not_false, Bool.false_eq_true, Bool.true_eq_false, List.getElem?_toArray, List.toList_toArray, Option.bind_some, Option.map_some, Option.getD_some, Option.getD_none, List.map_cons, List.map_nil, List.getElem?_cons_zero, List.getElem?_cons_succ, List.getElem?_nil, and_true, true_and, and_self, false_and, and_false, ↓reduceIte, reduceCtorEq, if_true, if_false, decide_true, decide_false, not_false_eq_true, ne_eq, Nat.reduceEqDiff, Nat.reduceBEq, Nat.succ_ne_zero, Nat.add_zero, Nat.zero_add, seval, hI, hlt, w2, hc]
            rfl
          case q1 =>
            refine .inl ⟨rfl, by simp only [bnd_some, bnd_none, bnd_assoc, evOps_nil, evOps_cons, ev_guardS, ev_move, ev_assign, ev_pick, ev_binOp, ev_convert, bin_add, bin_sub, bin_mul, bin_and, bin_eql, bin_neq, bin_lss, bin_leq, bin_gtr, bin_geq, convA, onS_some, onGd_true, onGd_false, onGd_undef, onB_bool, gslot, ev_const, ev_tmp, env_put, env_put_none, put_none, env_init, apply_plain, evL_seq, evL_region, evL_block, evL_skip, evL_exit, evL_ret, evL_condB, thenL_normal, thenL_ret, thenL_exit, ev_field, ev_min, ev_max, minA_int, maxA_int, Ex.inBlock, ev_callS, ge_iff_le, gt_iff_lt, Bool.or_false, Bool.false_or, Bool.false_and, Bool.or_true, Bool.not_true, Bool.not_false, Bool.false_eq_true, Bool.true_eq_false, List.getElem?_toArray, List.toList_toArray, Option.bind_some, Option.map_some, Option.getD_some, Option.getD_none, List.map_cons, List.map_nil, List.getElem?_cons_zero, List.getElem?_cons_succ, List.getElem?_nil, and_true, true_and, and_self, false_and, and_false, ↓reduceIte, reduceCtorEq, if_true, if_false, decide_true, decide_false, not_false_eq_true, ne_eq, Nat.reduceEqDiff, Nat.reduceBEq, Nat.succ_ne_zero, Nat.add_zero, Nat.zero_add, seval], ?_⟩
            unfold dly
            rw [hj, Int.pow_add, hp2]
            have : (1 : Int) ≤ 2 ^ j := Int.pow_pos (by decide)
            have h2 : 2 * p * 1 ≤ 2 * p * 2 ^ j := Int.mul_le_mul_of_nonneg_left this (by omega)
            omega
        · have w3 : IntKind.u64.wrap (2 * p) = 2 * p := wu64 _ (by omega) (by omega)
          have w4 : IntKind.i64.wrap ((k : Int) + 1 + 1) = (k : Int) + 1 + 1 := wi64 _ (by omega) (by omega)
          refine go_on (st' := ?s2) ?h2 (64 - (k + 1)) (by omega) ?q2
          case h2 =>
            simp only [bnd_some, bnd_none, bnd_assoc, evOps_nil, evOps_cons, ev_guardS, ev_move, ev_assign, ev_pick, ev_binOp, ev_convert, bin_add, bin_sub, bin_mul, bin_and, bin_eql, bin_neq, bin_lss, bin_leq, bin_gtr, bin_geq, convA, onS_some, onGd_true, onGd_false, onGd_undef, onB_bool, gslot, ev_const, ev_tmp, env_put, env_put_none, put_none, env_init, apply_plain, evL_seq, evL_region, evL_block, evL_skip, evL_exit, evL_ret, evL_condB, thenL_normal, thenL_ret, thenL_exit, ev_field, ev_min, ev_max, minA_int, maxA_int, Ex.inBlock, ev_callS, ge_iff_le, gt_iff_lt, Bool.or_false, Bool.false_or, Bool.false_and, Bool.or_true, Bool.not_true, Bool.not_false, Bool.false_eq_true, Bool.true_eq_false, List.getElem?_toArray, List.toList_toArray, Option.bind_some, Option.map_some, Option.getD_some, Option.getD_none, List.map_cons, List.map_nil, List.getElem?_cons_zero, List.getElem?_cons_succ, List.getElem?_nil, and_true, true_and, and_self, false_and, and_false, ↓reduceIte, reduceCtorEq, if_true, if_false, decide_true, decide_false, not_false_eq_true, ne_eq, Nat.reduceEqDiff, Nat.reduceBEq, Nat.succ_ne_zero, Nat.add_zero, Nat.zero_add, seval, hI, hlt, w2, hc, w3, w4]
            rfl
          case q2 =>
            have k62 : k + 1 ≤ 63 := by
              by_cases e : k = 63
              · subst e
                have : (2 : Int) ^ 63 = 9223372036854775808 := by decide
                omega
              · omega
            exact ⟨k + 1, by simp only [bnd_some, bnd_none, bnd_assoc, evOps_nil, evOps_cons, ev_guardS, ev_move, ev_assign, ev_pick, ev_binOp, ev_convert, bin_add, bin_sub, bin_mul, bin_and, bin_eql, bin_neq, bin_lss, bin_leq, bin_gtr, bin_geq, convA, onS_some, onGd_true, onGd_false, onGd_undef, onB_bool, gslot, ev_const, ev_tmp, env_put, env_put_none, put_none, env_init, apply_plain, evL_seq, evL_region, evL_block, evL_skip, evL_exit, evL_ret, evL_condB, thenL_normal, thenL_ret, thenL_exit, ev_field, ev_min, ev_max, minA_int, maxA_int, Ex.inBlock, ev_callS, ge_iff_le, gt_iff_lt, Bool.or_false, Bool.false_or, Bool.false_and, Bool.or_true, Bool.not_true, Bool.not_false, Bool.false_eq_true, Bool.true_eq_false, List.getElem?_toArray, List.toList_toArray, Option.bind_some, Option.map_some, Option.getD_some, Option.getD_none, List.map_cons, List.map_nil, List.getElem?_cons_zero, List.getElem?_cons_succ, List.getElem?_nil, and_true, true_and, and_self, false_and, and_false, ↓reduceIte, reduceCtorEq, if_true, if_false, decide_true, decide_false, not_false_eq_true, ne_eq, Nat.reduceEqDiff, Nat.reduceBEq, Nat.succ_ne_zero, Nat.add_zero, Nat.zero_add, seval, hI, hp2]; rw [show ((k + 1 : Nat) : Int) = (k : Int) + 1 from by omega], by rw [hp2]; omega, by omega, k62, rfl⟩
      · refine go_out (e := .exit 0) (st' := ?s3) ?h3 (by simp) ?q3
        case h3 =>
          simp only [bnd_some, bnd_none, bnd_assoc, evOps_nil, evOps_cons, ev_guardS, ev_move, ev_assign, ev_pick, ev_binOp, ev_convert, bin_add, bin_sub, bin_mul, bin_and, bin_eql, bin_neq, bin_lss, bin_leq, bin_gtr, bin_geq, convA, onS_some, onGd_true, onGd_false, onGd_undef, onB_bool, gslot, ev_const, ev_tmp, env_put, env_put_none, put_none, env_init, apply_plain, evL_seq, evL_region, evL_block, evL_skip, evL_exit, evL_ret, evL_condB, thenL_normal, thenL_ret, thenL_exit, ev_field, ev_min, ev_max, minA_int, maxA_int, Ex.inBlock, ev_callS, ge_iff_le, gt_iff_lt, Bool.or_false, Bool.false_or, Bool.false_and, Bool.or_true, Bool.not_true, Bool.not_false, Bool.false_eq_true, Bool.true_eq_false, List.getElem?_toArray, List.toList_toArray, Option.bind_some, Option.map_some, Option.getD_some, Option.getD_none, List.map_cons, List.map_nil, List.getElem?_cons_zero, List.getElem?_cons_succ, List.getElem?_nil, and_true, true_and, and_self, false_and, and_false, ↓reduceIte, reduceCtorEq, if_true, if_false, decide_true, decide_false, not_false_eq_true, ne_eq, Nat.reduceEqDiff, Nat.reduceBEq, Nat.succ_ne_zero, Nat.add_zero, Nat.zero_add, seval, hI, hlt]
          rfl
        case q3 =>
          refine .inr ⟨rfl, k, by simp only [bnd_some, bnd_none, bnd_assoc, evOps_nil, evOps_cons, ev_guardS, ev_move, ev_assign, ev_pick, ev_binOp, ev_convert, bin_add, bin_sub, bin_mul, bin_and, bin_eql, bin_neq, bin_lss, bin_leq, bin_gtr, bin_geq, convA, onS_some, onGd_true, onGd_false, onGd_undef, onB_bool, gslot, ev_const, ev_tmp, env_put, env_put_none, put_none, env_init, apply_plain, evL_seq, evL_region, evL_block, evL_skip, evL_exit, evL_ret, evL_condB, thenL_normal, thenL_ret, thenL_exit, ev_field, ev_min, ev_max, minA_int, maxA_int, Ex.inBlock, ev_callS, ge_iff_le, gt_iff_lt, Bool.or_false, Bool.false_or, Bool.false_and, Bool.or_true, Bool.not_true, Bool.not_false, Bool.false_eq_true, Bool.true_eq_false, List.getElem?_toArray, List.toList_toArray, Option.bind_some, Option.map_some, Option.getD_some, Option.getD_none, List.map_cons, List.map_nil, List.getElem?_cons_zero, List.getElem?_cons_succ, List.getElem?_nil, and_true, true_and, and_self, false_and, and_false, ↓reduceIte, reduceCtorEq, if_true, if_false, decide_true, decide_false, not_false_eq_true, ne_eq, Nat.reduceEqDiff, Nat.reduceBEq, Nat.succ_ne_zero, Nat.add_zero, Nat.zero_add, seval, hI, hp], ?_⟩
          have : (max n 1 - 1).toNat = k := by omega
          unfold dly
          rw [this, hp]
          omega
    case start =>
      exact ⟨0, by simp only [bnd_some, bnd_none, bnd_assoc, evOps_nil, evOps_cons, ev_guardS, ev_move, ev_assign, ev_pick, ev_binOp, ev_convert, bin_add, bin_sub, bin_mul, bin_and, bin_eql, bin_neq, bin_lss, bin_leq, bin_gtr, bin_geq, convA, onS_some, onGd_true, onGd_false, onGd_undef, onB_bool, gslot, ev_const, ev_tmp, env_put, env_put_none, put_none, env_init, apply_plain, evL_seq, evL_region, evL_block, evL_skip, evL_exit, evL_ret, evL_condB, thenL_normal, thenL_ret, thenL_exit, ev_field, ev_min, ev_max, minA_int, maxA_int, Ex.inBlock, ev_callS, ge_iff_le, gt_iff_lt, Bool.or_false, Bool.false_or, Bool.false_and, Bool.or_true, Bool.not_true, Bool.not_false, Bool.false_eq_true, Bool.true_eq_false, List.getElem?_toArray, List.toList_toArray, Option.bind_some, Option.map_some, Option.getD_some, Option.getD_none, List.map_cons, List.map_nil, List.getElem?_cons_zero, List.getElem?_cons_succ, List.getElem?_nil, and_true, true_and, and_self, false_and, and_false, ↓reduceIte, reduceCtorEq, if_true, if_false, decide_true, decide_false, not_false_eq_true, ne_eq, Nat.reduceEqDiff, Nat.reduceBEq, Nat.succ_ne_zero, Nat.add_zero, Nat.zero_add, seval] <;> rfl, by show (1 : Int) ≤ b; omega, .inl rfl, by omega, by omega⟩
    case rest =>
      rintro e st (⟨rfl, h4, hd⟩ | ⟨rfl, k, h5, hd⟩)
      · simp only [bnd_some, bnd_none, bnd_assoc, evOps_nil, evOps_cons, ev_guardS, ev_move, ev_assign, ev_pick, ev_binOp, ev_convert, bin_add, bin_sub, bin_mul, bin_and, bin_eql, bin_neq, bin_lss, bin_leq, bin_gtr, bin_geq, convA, onS_some, onGd_true, onGd_false, onGd_undef, onB_bool, gslot, ev_const, ev_tmp, env_put, env_put_none, put_none, env_init, apply_plain, evL_seq, evL_region, evL_block, evL_skip, evL_exit, evL_ret, evL_condB, thenL_normal, thenL_ret, thenL_exit, ev_field, ev_min, ev_max, minA_int, maxA_int, Ex.inBlock, ev_callS, ge_iff_le, gt_iff_lt, Bool.or_false, Bool.false_or, Bool.false_and, Bool.or_true, Bool.not_true, Bool.not_false, Bool.false_eq_true, Bool.true_eq_false, List.getElem?_toArray, List.toList_toArray, Option.bind_some, Option.map_some, Option.getD_some, Option.getD_none, List.map_cons, List.map_nil, List.getElem?_cons_zero, List.getElem?_cons_succ, List.getElem?_nil, and_true, true_and, and_self, false_and, and_false, ↓reduceIte, reduceCtorEq, if_true, if_false, decide_true, decide_false, not_false_eq_true, ne_eq, Nat.reduceEqDiff, Nat.reduceBEq, Nat.succ_ne_zero, Nat.add_zero, Nat.zero_add, seval]
        rw [hd]
        exact xtmp rfl (by simp only [bnd_some, bnd_none, bnd_assoc, evOps_nil, evOps_cons, ev_guardS, ev_move, ev_assign, ev_pick, ev_binOp, ev_convert, bin_add, bin_sub, bin_mul, bin_and, bin_eql, bin_neq, bin_lss, bin_leq, bin_gtr, bin_geq, convA, onS_some, onGd_true, onGd_false, onGd_undef, onB_bool, gslot, ev_const, ev_tmp, env_put, env_put_none, put_none, env_init, apply_plain, evL_seq, evL_region, evL_block, evL_skip, evL_exit, evL_ret, evL_condB, thenL_normal, thenL_ret, thenL_exit, ev_field, ev_min, ev_max, minA_int, maxA_int, Ex.inBlock, ev_callS, ge_iff_le, gt_iff_lt, Bool.or_false, Bool.false_or, Bool.false_and, Bool.or_true, Bool.not_true, Bool.not_false, Bool.false_eq_true, Bool.true_eq_false, List.getElem?_toArray, List.toList_toArray, Option.bind_some, Option.map_some, Option.getD_some, Option.getD_none, List.map_cons, List.map_nil, List.getElem?_cons_zero, List.getElem?_cons_succ, List.getElem?_nil, and_true, true_and, and_self, false_and, and_false, ↓reduceIte, reduceCtorEq, if_true, if_false, decide_true, decide_false, not_false_eq_true, ne_eq, Nat.reduceEqDiff, Nat.reduceBEq, Nat.succ_ne_zero, Nat.add_zero, Nat.zero_add, seval, h4])
      · simp only [bnd_some, bnd_none, bnd_assoc, evOps_nil, evOps_cons, ev_guardS, ev_move, ev_assign, ev_pick, ev_binOp, ev_convert, bin_add, bin_sub, bin_mul, bin_and, bin_eql, bin_neq, bin_lss, bin_leq, bin_gtr, bin_geq, convA, onS_some, onGd_true, onGd_false, onGd_undef, onB_bool, gslot, ev_const, ev_tmp, env_put, env_put_none, put_none, env_init, apply_plain, evL_seq, evL_region, evL_block, evL_skip, evL_exit, evL_ret, evL_condB, thenL_normal, thenL_ret, thenL_exit, ev_field, ev_min, ev_max, minA_int, maxA_int, Ex.inBlock, ev_callS, ge_iff_le, gt_iff_lt, Bool.or_false, Bool.false_or, Bool.false_and, Bool.or_true, Bool.not_true, Bool.not_false, Bool.false_eq_true, Bool.true_eq_false, List.getElem?_toArray, List.toList_toArray, Option.bind_some, Option.map_some, Option.getD_some, Option.getD_none, List.map_cons, List.map_nil, List.getElem?_cons_zero, List.getElem?_cons_succ, List.getElem?_nil, and_true, true_and, and_self, false_and, and_false, ↓reduceIte, reduceCtorEq, if_true, if_false, decide_true, decide_false, not_false_eq_true, ne_eq, Nat.reduceEqDiff, Nat.reduceBEq, Nat.succ_ne_zero, Nat.add_zero, Nat.zero_add, seval, h5]
        rw [hd]
        exact xtmp rfl (by simp only [bnd_some, bnd_none, bnd_assoc, evOps_nil, evOps_cons, ev_guardS, ev_move, ev_assign, ev_pick, ev_binOp, ev_convert, bin_add, bin_sub, bin_mul, bin_and, bin_eql, bin_neq, bin_lss, bin_leq, bin_gtr, bin_geq, convA, onS_some, onGd_true, onGd_false, onGd_undef, onB_bool, gslot, ev_const, ev_tmp, env_put, env_put_none, put_none, env_init, apply_plain, evL_seq, evL_region, evL_block, evL_skip, evL_exit, evL_ret, evL_condB, thenL_normal, thenL_ret, thenL_exit, ev_field, ev_min, ev_max, minA_int, maxA_int, Ex.inBlock, ev_callS, ge_iff_le, gt_iff_lt, Bool.or_false, Bool.false_or, Bool.false_and, Bool.or_true, Bool.not_true, Bool.not_false, Bool.false_eq_true, Bool.true_eq_false, List.getElem?_toArray, List.toList_toArray, Option.bind_some, Option.map_some, Option.getD_some, Option.getD_none, List.map_cons, List.map_nil, List.getElem?_cons_zero, List.getElem?_cons_succ, List.getElem?_nil, and_true, true_and, and_self, false_and, and_false, ↓reduceIte, reduceCtorEq, if_true, if_false, decide_true, decide_false, not_false_eq_true, ne_eq, Nat.reduceEqDiff, Nat.reduceBEq, Nat.succ_ne_zero, Nat.add_zero, Nat.zero_add, seval])
theorem k6 (n b : Int) (hb : 0 ≤ b ∧ b < 18446744073709551616) (st : St) (d : Option Nat) : callFn (callL Try.prog) 6 [.v (.int .i64 n), .v (.int .u64 b)] st d = some { dst := d, val := .v (.int .u64 (dly n b)) } := call_flat (flat2 (.v _) (.v _)) (c6 n b hb) (.v _)
theorem k7 (st : St) (d : Option Nat) : callFn (callL Try.prog) 7 [] st d = some { dst := d, val := .v (.bool true) } := call_flat (fun x h => by cases h) c7 (.v _)
/-- RetryDelays -/
theorem c3 (n b : Int) (hb : 0 ≤ b ∧ b < 18446744073709551616) : callL Try.prog 3 [.v (.int .i64 n), .v (.int .u64 b)] = some (.v (.bool true)) := by
  have h5 := fun n => k5 n b hb
  have h6 := fun n => k6 n b hb
  have h7 := k7
  have hr : ∀ x : Int, (x == x) = true := fun x => by simp
  rw [callL_eq Try.prog Try.func3 rfl ok3 _ rfl rfl]
  by_cases h : 100000 < n
  · simp only [Try.f3, bnd_some, bnd_none, bnd_assoc, evOps_nil, evOps_cons, ev_guardS, ev_move, ev_assign, ev_pick, ev_binOp, ev_convert, bin_add, bin_sub, bin_mul, bin_and, bin_eql, bin_neq, bin_lss, bin_leq, bin_gtr, bin_geq, convA, onS_some, onGd_true, onGd_false, onGd_undef, onB_bool, gslot, ev_const, ev_tmp, env_put, env_put_none, put_none, env_init, apply_plain, evL_seq, evL_region, evL_block, evL_skip, evL_exit, evL_ret, evL_condB, thenL_normal, thenL_ret, thenL_exit, ev_field, ev_min, ev_max, minA_int, maxA_int, Ex.inBlock, ev_callS, ge_iff_le, gt_iff_lt, Bool.or_false, Bool.false_or, Bool.false_and, Bool.or_true, Bool.not_true, Bool.not_false, Bool.false_eq_true, Bool.true_eq_false, List.getElem?_toArray, List.toList_toArray, Option.bind_some, Option.map_some, Option.getD_some, Option.getD_none, List.map_cons, List.map_nil, List.getElem?_cons_zero, List.getElem?_cons_succ, List.getElem?_nil, and_true, true_and, and_self, false_and, and_false, ↓reduceIte, reduceCtorEq, if_true, if_false, decide_true, decide_false, not_false_eq_true, ne_eq, Nat.reduceEqDiff, Nat.reduceBEq, Nat.succ_ne_zero, Nat.add_zero, Nat.zero_add, seval, h, h5, h6, h7, hr]
    exact xtmp rfl (by simp only [bnd_some, bnd_none, bnd_assoc, evOps_nil, evOps_cons, ev_guardS, ev_move, ev_assign, ev_pick, ev_binOp, ev_convert, bin_add, bin_sub, bin_mul, bin_and, bin_eql, bin_neq, bin_lss, bin_leq, bin_gtr, bin_geq, convA, onS_some, onGd_true, onGd_false, onGd_undef, onB_bool, gslot, ev_const, ev_tmp, env_put, env_put_none, put_none, env_init, apply_plain, evL_seq, evL_region, evL_block, evL_skip, evL_exit, evL_ret, evL_condB, thenL_normal, thenL_ret, thenL_exit, ev_field, ev_min, ev_max, minA_int, maxA_int, Ex.inBlock, ev_callS, ge_iff_le, gt_iff_lt, Bool.or_false, Bool.false_or, Bool.false_and, Bool.or_true, Bool.not_true, Bool.not_false, Bool.false_eq_true, Bool.true_eq_false, List.getElem?_toArray, List.toList_toArray, Option.bind_some, Option.map_some, Option.getD_some, Option.getD_none, List.map_cons, List.map_nil, List.getElem?_cons_zero, List.getElem?_cons_succ, List.getElem?_nil, and_true, true_and, and_self, false_and, and_false, ↓reduceIte, reduceCtorEq, if_true, if_false, decide_true, decide_false, not_false_eq_true, ne_eq, Nat.reduceEqDiff, Nat.reduceBEq, Nat.succ_ne_zero, Nat.add_zero, Nat.zero_add, seval])
  · simp only [Try.f3, bnd_some, bnd_none, bnd_assoc, evOps_nil, evOps_cons, ev_guardS, ev_move, ev_assign, ev_pick, ev_binOp, ev_convert, bin_add, bin_sub, bin_mul, bin_and, bin_eql, bin_neq, bin_lss, bin_leq, bin_gtr, bin_geq, convA, onS_some, onGd_true, onGd_false, onGd_undef, onB_bool, gslot, ev_const, ev_tmp, env_put, env_put_none, put_none, env_init, apply_plain, evL_seq, evL_region, evL_block, evL_skip, evL_exit, evL_ret, evL_condB, thenL_normal, thenL_ret, thenL_exit, ev_field, ev_min, ev_max, minA_int, maxA_int, Ex.inBlock, ev_callS, ge_iff_le, gt_iff_lt, Bool.or_false, Bool.false_or, Bool.false_and, Bool.or_true, Bool.not_true, Bool.not_false, Bool.false_eq_true, Bool.true_eq_false, List.getElem?_toArray, List.toList_toArray, Option.bind_some, Option.map_some, Option.getD_some, Option.getD_none, List.map_cons, List.map_nil, List.getElem?_cons_zero, List.getElem?_cons_succ, List.getElem?_nil, and_true, true_and, and_self, false_and, and_false, ↓reduceIte, reduceCtorEq, if_true, if_false, decide_true, decide_false, not_false_eq_true, ne_eq, Nat.reduceEqDiff, Nat.reduceBEq, Nat.succ_ne_zero, Nat.add_zero, Nat.zero_add, seval, h, h5, h6, h7, hr]
    exact xtmp rfl (by simp only [bnd_some, bnd_none, bnd_assoc, evOps_nil, evOps_cons, ev_guardS, ev_move, ev_assign, ev_pick, ev_binOp, ev_convert, bin_add, bin_sub, bin_mul, bin_and, bin_eql, bin_neq, bin_lss, bin_leq, bin_gtr, bin_geq, convA, onS_some, onGd_true, onGd_false, onGd_undef, onB_bool, gslot, ev_const, ev_tmp, env_put, env_put_none, put_none, env_init, apply_plain, evL_seq, evL_region, evL_block, evL_skip, evL_exit, evL_ret, evL_condB, thenL_normal, thenL_ret, thenL_exit, ev_field, ev_min, ev_max, minA_int, maxA_int, Ex.inBlock, ev_callS, ge_iff_le, gt_iff_lt, Bool.or_false, Bool.false_or, Bool.false_and, Bool.or_true, Bool.not_true, Bool.not_false, Bool.false_eq_true, Bool.true_eq_false, List.getElem?_toArray, List.toList_toArray, Option.bind_some, Option.map_some, Option.getD_some, Option.getD_none, List.map_cons, List.map_nil, List.getElem?_cons_zero, List.getElem?_cons_succ, List.getElem?_nil, and_true, true_and, and_self, false_and, and_false, ↓reduceIte, reduceCtorEq, if_true, if_false, decide_true, decide_false, not_false_eq_true, ne_eq, Nat.reduceEqDiff, Nat.reduceBEq, Nat.succ_ne_zero, Nat.add_zero, Nat.zero_add, seval])
theorem k5' (n b : Int) (hb : 0 ≤ b ∧ b < 18446744073709551616) (st : St) (d : Option Nat) : callFn (callL Try.prog) 5 [.v (.int .i64 n), .v (.int .u64 b)] st d = some { dst := d, val := .v (.int .u64 (dly n b)) } := k5 n b hb st d
theorem and_lt {k : IntKind} {a m : Int} {n : Nat} (hm : (BitVec.ofInt k.bits m).toNat = n) (hs : ∀ x : Int, 0 ≤ x → x ≤ n → k.wrap x = x) : ∃ x : Int, k.wrap ((BitVec.ofInt k.bits a &&& BitVec.ofInt k.bits m).toNat : Int) = x ∧ 0 ≤ x ∧ x ≤ n := by
  have h : (BitVec.ofInt k.bits a &&& BitVec.ofInt k.bits m).toNat ≤ n := by
    rw [BitVec.toNat_and, hm]
    exact Nat.and_le_right
  refine ⟨_, rfl, ?_⟩
  rw [hs _ (by omega) (by omega)]
  omega
/-- RetryGrows -/
theorem c4 (n0 b0 : Int) : callL Try.prog 4 [.v (.int .i64 n0), .v (.int .u64 b0)] = some (.v (.bool true)) := by
  obtain ⟨n1, hn1, hn⟩ := and_lt (k := .i64) (a := n0) (m := 63) (n := 63) (by decide) fun x h1 h2 => wi64 _ (by omega) (by omega)
  obtain ⟨b1, hb1, hb⟩ := and_lt (k := .u64) (a := b0) (m := 16777215) (n := 16777215) (by decide) fun x h1 h2 => wu64 _ (by omega) (by omega)
  have w1 : IntKind.i64.wrap (1 + n1) = 1 + n1 := wi64 _ (by omega) (by omega)
  have w2 : IntKind.u64.wrap (1 + b1) = 1 + b1 := wu64 _ (by omega) (by omega)
  obtain ⟨n, en⟩ : ∃ n, 1 + n1 = n := ⟨_, rfl⟩
  obtain ⟨b, eb⟩ : ∃ b, 1 + b1 = b := ⟨_, rfl⟩
  rw [en] at w1
  rw [eb] at w2
  have w3 : IntKind.i64.wrap (n + 1) = n + 1 := wi64 _ (by omega) (by omega)
  have h5 := fun n => k5 n b (by omega)
  have h7 := k7
  obtain ⟨p, hp⟩ : ∃ p : Int, 2 ^ (n - 1).toNat = p := ⟨_, rfl⟩
  have p0 : 0 < p := by rw [← hp]; exact Int.pow_pos (by decide)
  have d1 : dly n b = min p b := by
    unfold dly
    rw [show max n 1 - 1 = n - 1 by omega, hp]
  have d2 : dly (n + 1) b = min (2 * p) b := by
    unfold dly
    rw [show (max (n + 1) 1 - 1).toNat = (n - 1).toNat + 1 by omega, Int.pow_succ, hp, Int.mul_comm]
  have d3 : dly 1 b = 1 := by
    unfold dly
    show min (1 : Int) b = 1
    omega
  obtain ⟨x, hx⟩ : ∃ x, dly n b = x := ⟨_, rfl⟩
  obtain ⟨y, hy⟩ : ∃ y, dly (n + 1) b = y := ⟨_, rfl⟩
  have e1 := h5 n
  have e2 := h5 (n + 1)
  have e3 := h5 1
  rw [hx] at e1
  rw [hy] at e2
  rw [d3] at e3
  have x1 : 1 ≤ x := by omega
  have x2 : x ≤ b := by omega
  have w4 : IntKind.u64.wrap (2 * x) = 2 * x := wu64 _ (by omega) (by omega)
  have x3 : (y == if b < 2 * x then b else 2 * x) = true := by
    have : y = if b < 2 * x then b else 2 * x := by split <;> omega
    rw [this]; simp
  have o1 : ((1 : Int) == 1) = true := rfl
  rw [callL_eq Try.prog Try.func4 rfl ok4 _ rfl rfl]
  simp -implicitDefEqProofs only [Try.f4, bnd_some, bnd_none, bnd_assoc, evOps_nil, evOps_cons, ev_guardS, ev_move, ev_assign, ev_pick, ev_binOp, ev_convert, bin_add, bin_sub, bin_mul, bin_and, bin_eql, bin_neq, bin_lss, bin_leq, bin_gtr, bin_geq, convA, onS_some, onGd_true, onGd_false, onGd_undef, onB_bool, gslot, ev_const, ev_tmp, env_put, env_put_none, put_none, env_init, apply_plain, evL_seq, evL_region, evL_block, evL_skip, evL_exit, evL_ret, evL_condB, thenL_normal, thenL_ret, thenL_exit, ev_field, ev_min, ev_max, minA_int, maxA_int, Ex.inBlock, ev_callS, ge_iff_le, gt_iff_lt, Bool.or_false, Bool.false_or, Bool.false_and, Bool.or_true, Bool.not_true, Bool.not_false, Bool.false_eq_true, Bool.true_eq_false, List.getElem?_toArray, List.toList_toArray, Option.bind_some, Option.map_some, Option.getD_some, Option.getD_none, List.map_cons, List.map_nil, List.getElem?_cons_zero, List.getElem?_cons_succ, List.getElem?_nil, and_true, true_and, and_self, false_and, and_false, ↓reduceIte, reduceCtorEq, if_true, if_false, decide_true, decide_false, not_false_eq_true, ne_eq, Nat.reduceEqDiff, Nat.reduceBEq, Nat.succ_ne_zero, Nat.add_zero, Nat.zero_add, seval, hn1, hb1, en, eb, w1, w2, w3, w4, e1, e2, e3, h7, x1, x2, x3, o1]
  exact xtmp rfl (by simp only [bnd_some, bnd_none, bnd_assoc, evOps_nil, evOps_cons, ev_guardS, ev_move, ev_assign, ev_pick, ev_binOp, ev_convert, bin_add, bin_sub, bin_mul, bin_and, bin_eql, bin_neq, bin_lss, bin_leq, bin_gtr, bin_geq, convA, onS_some, onGd_true, onGd_false, onGd_undef, onB_bool, gslot, ev_const, ev_tmp, env_put, env_put_none, put_none, env_init, apply_plain, evL_seq, evL_region, evL_block, evL_skip, evL_exit, evL_ret, evL_condB, thenL_normal, thenL_ret, thenL_exit, ev_field, ev_min, ev_max, minA_int, maxA_int, Ex.inBlock, ev_callS, ge_iff_le, gt_iff_lt, Bool.or_false, Bool.false_or, Bool.false_and, Bool.or_true, Bool.not_true, Bool.not_false, Bool.false_eq_true, Bool.true_eq_false, List.getElem?_toArray, List.toList_toArray, Option.bind_some, Option.map_some, Option.getD_some, Option.getD_none, List.map_cons, List.map_nil, List.getElem?_cons_zero, List.getElem?_cons_succ, List.getElem?_nil, and_true, true_and, and_self, false_and, and_false, ↓reduceIte, reduceCtorEq, if_true, if_false, decide_true, decide_false, not_false_eq_true, ne_eq, Nat.reduceEqDiff, Nat.reduceBEq, Nat.succ_ne_zero, Nat.add_zero, Nat.zero_add, seval])
theorem has64 {n : Int} (h : IntKind.u64.has n) : 0 ≤ n ∧ n < 18446744073709551616 := by
  obtain ⟨h1, h2⟩ := h
  have e1 : IntKind.min .u64 = 0 := by decide
  have e2 : IntKind.max .u64 = 18446744073709551615 := by decide
  omega
end Go.Ab.Try
