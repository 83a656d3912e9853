/-
  Part A10 of the proof: what the functions of the ancestry compute.
-/
import Derived.Test.YtgpkmepalmdmeaaA9
set_option linter.all false
set_option linter.unusedSimpArgs false
set_option linter.unusedVariables false
set_option maxRecDepth 20000
set_option maxHeartbeats 4000000
namespace Go.Ab.Try
open Classical Go.Proofs Go.Ab
theorem ev_bs22_2 {call : Nat → List AV → Option AV} {ops : Array Oper} {st : St} {T : Nat} {pos : String} {aft : Array Edge} (d : Nat) (x y : Operand) {a b : Int} (h1 : st.ev x = .v (.int .i64 a)) (h2 : st.ev y = .v (.int .i64 b)) : evOp Try.prog call ops ⟨some d, .buildSlice 22 2 #[(0, x), (1, y)], T, pos, aft, none⟩ st =
    some ((st.new d (.row 3 1 2 (csInt [a, b]))).put (some d) (.own d (st.cnt d))) := by
  rw [ev_buildSlice]
  simp [sl22, ze3, bnd, h1, h2, AV.stor, Value.oneCell', fillA, AV.cells, List.range, List.range.loop, csInt, cInt]
theorem ev_bs22_2E {call : Nat → List AV → Option AV} {ops : Array Oper} {st : St} {T : Nat} {pos : String} {aft : Array Edge} (d : Nat) (x y : Operand) : evOp Try.prog call ops ⟨some d, .buildSlice 22 2 #[(0, x), (1, y)], T, pos, aft, none⟩ st =
    elI (st.ev x) (fun a => elI (st.ev y) (fun b => some ((st.new d (.row 3 1 2 (csInt [a, b]))).put (some d) (.own d (st.cnt d)))) (evOp Try.prog call ops ⟨some d, .buildSlice 22 2 #[(0, x), (1, y)], T, pos, aft, none⟩ st))
      (evOp Try.prog call ops ⟨some d, .buildSlice 22 2 #[(0, x), (1, y)], T, pos, aft, none⟩ st) := by
  unfold elI
  split
  · rename_i a h1
    try dsimp only
    split
    · rename_i b h2; exact ev_bs22_2 d x y h1 h2
    · rfl
  · rfl
theorem q51 (args : List AV) (st : St) (d : Option Nat) : callFn (callL Try.prog) 51 args st d = callQ (callL Try.prog) 51 (optAll (args.map (expo st))) (decide (∀ x ∈ args, Flat x)) st d := callFn_Q _ _ _ _ _
theorem expoF_one (e sz : Nat) (x : Int) : expoF (some (.row e sz 1 [.v (.int .i64 x)])) = some (.sl 1 (csInt [x])) := expoF_int e sz 1 [x]
theorem k51_2 (ns : List Node) (hu : UpOk ns) {x y : Int} (x0 : 0 ≤ x) (x1 : x < ns.length) (y0 : 0 ≤ y) (y1 : y < ns.length) (fl : Bool) (st : St) (d : Option Nat) : callQ (callL Try.prog) 51 (some [.agg (cTree ⟨ns⟩), .sl 2 (csInt [x, y])]) fl st d = some { dst := d, val := .v (.int .i64 (lca ns x y)) } :=
  Q_int (c51 ns hu [x, y] (by simp) (by simp) (by intro z hz; simp at hz; rcases hz with rfl | rfl <;> exact ⟨by assumption, by assumption⟩))
theorem k51_1 (ns : List Node) (hu : UpOk ns) {x : Int} (x0 : 0 ≤ x) (x1 : x < ns.length) (fl : Bool) (st : St) (d : Option Nat) : callQ (callL Try.prog) 51 (some [.agg (cTree ⟨ns⟩), .sl 1 (csInt [x])]) fl st d = some { dst := d, val := .v (.int .i64 x) } :=
  Q_int (c51 ns hu [x] (by simp) (by simp) (by intro z hz; simp at hz; subst hz; exact ⟨x0, x1⟩))
theorem anc_anti {ns : List Node} (hu : UpOk ns) {x y : Int} (h : anc ns x y = true) (h' : anc ns y x = true) : x = y := by
  have := anc_le hu h
  have := anc_le hu h'
  omega
theorem anc_trans {ns : List Node} (hu : UpOk ns) : ∀ (k : Nat) (x y z : Int), z.toNat = k → anc ns x y = true → anc ns y z = true → anc ns x z = true := by
  intro k
  induction k using Nat.strongRecOn with
  | _ k ih =>
    intro x y z hk hxy hyz
    obtain ⟨⟨y0, y1⟩, z0, z1⟩ := anc_in hu hyz
    have x0 := (anc_in hu hxy).1.1
    by_cases h : y = z
    · rw [← h]; exact hxy
    · have h1 := anc_le hu hxy
      have h2 := anc_le hu hyz
      obtain ⟨u0, u1⟩ := hu z (by omega) z1
      rw [anc_up hu z1 (by omega) x0]
      exact ih (nd ns z).up.toNat (by omega) x y _ rfl hxy (by rw [← anc_up hu z1 (by omega) y0]; exact hyz)
/-- AncestryMeets -/
theorem c12 (l : List Int) (i j : Int) (hl : (l.length : Int) ≤ 9223372036854775807) : callL Try.prog 12 [.sl l.length (csInt l), .v (.int .i64 i), .v (.int .i64 j)] = some (.v (.bool true)) := by
  rw [callL_eq Try.prog Try.func12 rfl ok12 _ (ext_none _ (by decide)) rfl]
  have g := (c30 l hl).2
  have k0 := k30 l hl
  generalize treeOf l = ns at g k0
  have g9 := g.len9
  have g0 := g.len0
  have hn : (ns.length : Int) < 1000000 := by omega
  have hne : ((ns.length : Int) = 0) = False := eq_false (by omega)
  have h45 := k42 ns g.up
  have h46 := k43 ns g.up
  obtain ⟨b1, b2⟩ := and_bound i 65535 (by decide)
  have hm := tmod_bound (n := (ns.length : Int)) b1 (by omega)
  obtain ⟨x, hx, x0, x1⟩ : ∃ x, (IntKind.i64.wrap ↑(BitVec.ofInt IntKind.i64.bits i &&& BitVec.ofInt IntKind.i64.bits 65535).toNat).tmod (ns.length : Int) = x ∧ 0 ≤ x ∧ x < ns.length := ⟨_, rfl, hm.1, hm.2⟩
  obtain ⟨c1, c2⟩ := and_bound j 65535 (by decide)
  have hm' := tmod_bound (n := (ns.length : Int)) c1 (by omega)
  obtain ⟨y, hy, y0, y1⟩ : ∃ y, (IntKind.i64.wrap ↑(BitVec.ofInt IntKind.i64.bits j &&& BitVec.ofInt IntKind.i64.bits 65535).toNat).tmod (ns.length : Int) = y ∧ 0 ≤ y ∧ y < ns.length := ⟨_, rfl, hm'.1, hm'.2⟩
  have hxy := k51_2 ns g.up x0 x1 y0 y1
  have hyx := k51_2 ns g.up y0 y1 x0 x1
  have hxx := k51_1 ns g.up x0 x1
  obtain ⟨f1, f2, f3⟩ := lca_fact g.up x0 x1 y0 y1
  obtain ⟨e1, e2, e3⟩ := lca_fact g.up y0 y1 x0 x1
  have hsym : lca ns y x = lca ns x y := anc_anti g.up (f3 _ e2 e1) (e3 _ f2 f1)
  rw [hsym] at hyx
  generalize lca ns x y = c at hxy hyx f1 f2 f3
  have nc : ¬ c < 0 := by have := (anc_in g.up f1).1.1; omega
  have n1 := heir_neg g f1
  have n2 := heir_neg g f2
  have hs1 : (c != c) = false := bne_self_eq_false c
  have hs2 : (x != x) = false := bne_self_eq_false x
  by_cases hcx : c = x
  · have m1 : heirV ns c x < 0 := n1.2 hcx
    have m1' : ¬ 0 ≤ heirV ns c x := by omega
    have q1 : (c == x) = true := by simp [hcx]
    by_cases hcy : c = y
    · have m2 : heirV ns c y < 0 := n2.2 hcy
      have q2 : (c == y) = true := by simp [hcy]
      simp -implicitDefEqProofs only [ZZ, seval, k0, hne, hx, hy, ev_bs22_2E, expoF_one, q51, hxy, hyx, hxx, nc, h45, h46, f1, f2, hs1, hs2, m1, m1', m2, q1, q2, k41, bne_self_eq_false, Bool.true_beq, Bool.false_beq, beq_self_eq_true]
      exact endL_tmp (keep_none (by decide)) (.inl rfl) rfl (by simp only [EV, seval] <;> rfl) (.v _)
    · have m2 : ¬ heirV ns c y < 0 := fun h => hcy (n2.1 h)
      have q2 : (c == y) = false := by simp [hcy]
      simp -implicitDefEqProofs only [ZZ, seval, k0, hne, hx, hy, ev_bs22_2E, expoF_one, q51, hxy, hyx, hxx, nc, h45, h46, f1, f2, hs1, hs2, m1, m1', m2, q1, q2, k41, bne_self_eq_false, Bool.true_beq, Bool.false_beq, beq_self_eq_true]
      exact endL_tmp (keep_none (by decide)) (.inl rfl) rfl (by simp only [EV, seval] <;> rfl) (.v _)
  · have m1 : ¬ heirV ns c x < 0 := fun h => hcx (n1.1 h)
    have m1' : 0 ≤ heirV ns c x := by omega
    have q1 : (c == x) = false := by simp [hcx]
    obtain ⟨p1, p2, p3⟩ := heir_pos g f1 hcx
    have hin := (anc_in g.up p2).1
    have v0 := hin.1
    have v1 : ¬ (ns.length : Int) ≤ heirV ns c x := by omega
    have v2 := hin.2
    have q3 : ((nd ns (heirV ns c x)).up != c) = false := by simp [p1]
    by_cases hcy : c = y
    · have m2 : heirV ns c y < 0 := n2.2 hcy
      have q2 : (c == y) = true := by simp [hcy]
      have q4 : (heirV ns c x == heirV ns c y) = false := by rw [beq_eq_false_iff_ne]; omega
      simp -implicitDefEqProofs only [ZZ, seval, k0, hne, hx, hy, ev_bs22_2E, expoF_one, q51, hxy, hyx, hxx, nc, h45, h46, f1, f2, hs1, hs2, m1, m1', m2, q1, q2, q3, q4, v0, v1, v2, p2, k41, bne_self_eq_false, Bool.true_beq, Bool.false_beq, beq_self_eq_true]
      exact endL_tmp (keep_none (by decide)) (.inl rfl) rfl (by simp only [EV, seval] <;> rfl) (.v _)
    · have m2 : ¬ heirV ns c y < 0 := fun h => hcy (n2.1 h)
      have q2 : (c == y) = false := by simp [hcy]
      have q4 : (heirV ns c x == heirV ns c y) = false := by
        rw [beq_eq_false_iff_ne]
        intro h
        obtain ⟨r1, r2, r3⟩ := heir_pos g f2 hcy
        rw [← h] at r2
        have := anc_le g.up (f3 _ p2 r2)
        omega
      simp -implicitDefEqProofs only [ZZ, seval, k0, hne, hx, hy, ev_bs22_2E, expoF_one, q51, hxy, hyx, hxx, nc, h45, h46, f1, f2, hs1, hs2, m1, m1', m2, q1, q2, q3, q4, v0, v1, v2, p2, k41, bne_self_eq_false, Bool.true_beq, Bool.false_beq, beq_self_eq_true]
      exact endL_tmp (keep_none (by decide)) (.inl rfl) rfl (by simp only [EV, seval] <;> rfl) (.v _)
end Go.Ab.Try
