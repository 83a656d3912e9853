/-
  Part G4 of the proof: what functions of this program compute.
-/
import Derived.Test.YtgpkmepalmdmeaaG2
set_option linter.all false
set_option linter.unusedSimpArgs false
set_option linter.unusedVariables false
set_option maxRecDepth 20000
set_option maxHeartbeats 4000000
namespace Go.Ab.Try
open Classical Go.Proofs Go.Ab
theorem flatNT4 : Flat (.agg [.v (.slice none 0 0)]) := .agg _ (by simp; exact .v _)
theorem and_bound (x m : Int) (hm : 0 ≤ m ∧ m < 9223372036854775808) : 0 ≤ IntKind.i64.wrap ↑(BitVec.ofInt IntKind.i64.bits x &&& BitVec.ofInt IntKind.i64.bits m).toNat ∧ IntKind.i64.wrap ↑(BitVec.ofInt IntKind.i64.bits x &&& BitVec.ofInt IntKind.i64.bits m).toNat ≤ m := by
  have h0 : (BitVec.ofInt IntKind.i64.bits x &&& BitVec.ofInt IntKind.i64.bits m).toNat ≤ (BitVec.ofInt IntKind.i64.bits m).toNat := by rw [BitVec.toNat_and]; exact Nat.and_le_right
  have hb : IntKind.i64.bits = 64 := rfl
  have h : (BitVec.ofInt IntKind.i64.bits (m : Int)).toNat = m.toNat := by
    rw [BitVec.toNat_ofInt, hb]
    omega
  rw [h] at h0
  rw [w64 _ (by omega) (by omega)]
  omega
theorem tdiv_bound {i n : Int} (h : 0 ≤ i) (hn : 0 < n) : 0 ≤ i.tdiv n ∧ i.tdiv n ≤ i := by
  rw [Int.tdiv_eq_ediv_of_nonneg h]
  exact ⟨Int.ediv_nonneg h (by omega), Int.ediv_le_self n h⟩
theorem tmod_bound {i n : Int} (h : 0 ≤ i) (hn : 0 < n) : 0 ≤ i.tmod n ∧ i.tmod n < n := by
  rw [Int.tmod_eq_emod_of_nonneg h]
  exact ⟨Int.emod_nonneg i (by omega), Int.emod_lt_of_pos i hn⟩
theorem fdiv_nn {i : Int} (h : 0 ≤ i) (s : Nat) : 0 ≤ i.fdiv (2 ^ s) := by
  have h2 : (0 : Int) ≤ 2 ^ s := Int.pow_nonneg (by decide)
  rw [Int.fdiv_eq_ediv_of_nonneg _ h2]
  exact Int.ediv_nonneg h h2

/-- forkheadbase.At -/
theorem x85 (l : List Int) (hl : (l.length : Int) ≤ 9223372036854775807) (i : Int) (i0 : 0 ≤ i) (i1 : i < 1000000) : ∃ k : Int, callL Try.prog 85 [.sl l.length (csInt l), .v (.int .i64 i)] = some (.v (.int .i64 k)) ∧ 0 ≤ k ∧ k ≤ 17777215 := by
  rw [callL_eq Try.prog Try.func85 rfl ok85 _ (ext_none _ (by decide)) rfl]
  by_cases h : (l.length : Int) = 0
  · have hq : ((l.length : Int) == 0) = true := by simp [h]
    simp -implicitDefEqProofs only [ZZ, seval, hq]
    obtain ⟨b1, b2⟩ := and_bound i 65535 (by decide)
    exact ⟨_, endL_tmp (keep_none (by decide)) (.inl rfl) rfl (by simp only [EV, seval] <;> rfl) (.v _), b1, by omega⟩
  · have hq : ((l.length : Int) == 0) = false := by rw [beq_eq_false_iff_ne]; exact h
    obtain ⟨m1, m2⟩ := tmod_bound (n := (l.length : Int)) i0 (by omega)
    obtain ⟨d1, d2⟩ := tdiv_bound (n := (l.length : Int)) i0 (by omega)
    simp -implicitDefEqProofs only [ZZ, seval, hq, h, m1, m2]
    obtain ⟨b1, b2⟩ := and_bound (it l (i.tmod ↑l.length)) 16777215 (by decide)
    refine ⟨_, endL_tmp (keep_none (by decide)) (.inl rfl) rfl (by simp only [EV, seval] <;> rfl) (.v _), ?_, ?_⟩
    all_goals
      rw [w64 (i.tdiv ↑l.length) (by omega) (by omega), w64 _ (by omega) (by omega)]
      omega
noncomputable def bAt (l : List Int) (i : Int) : Int := if h : ((l.length : Int) ≤ 9223372036854775807 ∧ 0 ≤ i ∧ i < 1000000) then Classical.choose (x85 l h.1 i h.2.1 h.2.2) else 0
theorem c85 (l : List Int) (hl : (l.length : Int) ≤ 9223372036854775807) (i : Int) (i0 : 0 ≤ i) (i1 : i < 1000000) : callL Try.prog 85 [.sl l.length (csInt l), .v (.int .i64 i)] = some (.v (.int .i64 (bAt l i))) ∧ 0 ≤ bAt l i ∧ bAt l i ≤ 17777215 := by
  have h : ((l.length : Int) ≤ 9223372036854775807 ∧ 0 ≤ i ∧ i < 1000000) := ⟨hl, i0, i1⟩
  unfold bAt
  rw [dif_pos h]
  exact Classical.choose_spec (x85 l h.1 i h.2.1 h.2.2)
theorem k85 (l : List Int) (hl : (l.length : Int) ≤ 9223372036854775807) (i : Int) (i0 : 0 ≤ i) (i1 : i < 1000000) (st : St) (d : Option Nat) : callFn (callL Try.prog) 85 [.sl l.length (csInt l), .v (.int .i64 i)] st d = some { dst := d, val := .v (.int .i64 (bAt l i)) } := call_flat (flat2 (flatSl l) (.v _)) (c85 l hl i i0 i1).1 (.v _)

/-- forkheadbase.Root -/
def mkRoot (n : Int) : Root := ((zRoot.set 0 (IntKind.u8.wrap n)).set 1 (IntKind.u8.wrap (n.fdiv (2 ^ min 8 IntKind.i64.bits)))).set 31 (IntKind.u8.wrap (IntKind.i64.wrap (n * 7)))
theorem c53 (n : Int) : callL Try.prog 53 [.v (.int .i64 n)] = some (.agg (cRoot (mkRoot n))) := by
  rw [callL_eq Try.prog Try.func53 rfl ok53 _ (ext_none _ (by decide)) rfl]
  simp -implicitDefEqProofs only [ZZ, seval, up_Root_at, Nat.reduceLT]
  exact endL_cell (keep_none (by decide)) (.inl rfl) rfl (by simp only [EV, seval]; rfl) (by simp -implicitDefEqProofs only [ZZ, seval]; rfl) (.agg _ (flat_cRoot _))
theorem k53 (n : Int) (st : St) (d : Option Nat) : callFn (callL Try.prog) 53 [.v (.int .i64 n)] st d = some { dst := d, val := .agg (cRoot (mkRoot n)) } := call_flat (flat1 (.v _)) (c53 n) (flatR _)

/-- ref11.New, blocktree.New -/
theorem c64 (b : Block) (s : Int) : callL Try.prog 64 [.agg (cBlock b), .v (.int .i64 s)] = some (.agg (cTree ⟨[⟨b, -1, s⟩]⟩)) := by
  rw [callL_eq Try.prog Try.func64 rfl ok64 _ (ext_none _ (by decide)) rfl]
  simp -implicitDefEqProofs only [ZZ, seval]
  exact endL_cellx (keep_none (by decide)) (.inl rfl) rfl (by simp only [EV, seval]; rfl) (by simp -implicitDefEqProofs only [ZZ, seval]; rfl) (by simp only [EV, seval, Option.map_some] <;> rfl)
theorem k64 (b : Block) (s : Int) (st : St) (d : Option Nat) : callFn (callL Try.prog) 64 [.agg (cBlock b), .v (.int .i64 s)] st d = some { dst := d, val := .agg (cTree ⟨[⟨b, -1, s⟩]⟩) } := call_flat (flat2 (flatB _) (.v _)) (c64 b s) (flatT _)
theorem c63 (b : Block) (s : Int) : callL Try.prog 63 [.agg (cBlock b), .v (.int .i64 s)] = some (.agg (cTree ⟨[⟨b, -1, s⟩]⟩)) := by
  rw [callL_eq Try.prog Try.func63 rfl ok63 _ (ext_none _ (by decide)) rfl]
  simp -implicitDefEqProofs only [ZZ, seval]
  exact endL_cellx (keep_none (by decide)) (.inl rfl) rfl (by simp only [EV, seval]; rfl) (by simp -implicitDefEqProofs only [ZZ, seval]; rfl) (by simp only [EV, seval, Option.map_some] <;> rfl)
theorem k63 (b : Block) (s : Int) (st : St) (d : Option Nat) : callFn (callL Try.prog) 63 [.agg (cBlock b), .v (.int .i64 s)] st d = some { dst := d, val := .agg (cTree ⟨[⟨b, -1, s⟩]⟩) } := call_flat (flat2 (flatB _) (.v _)) (c63 b s) (flatT _)
theorem k94 (i : Int) (st : St) (d : Option Nat) : callFn (callL Try.prog) 94 [.v (.int .i64 i)] st d = some { dst := d, val := .v (.bool (isSt i)) } := call_flat (flat1 (.v _)) (c94 i) (.v _)
theorem k90 (i : Int) (st : St) (d : Option Nat) : callFn (callL Try.prog) 90 [.v (.int .i64 i)] st d = some { dst := d, val := .v (.bool (isSt i)) } := call_flat (flat1 (.v _)) (c90 i) (.v _)
theorem k60 (ns : List Node) (r : Root) (hn : (ns.length : Int) < 1000000) (st : St) (d : Option Nat) : callFn (callL Try.prog) 60 [.agg (cTree ⟨ns⟩), .agg (cRoot r)] st d = some { dst := d, val := .v (.int .i64 (findR ns r)) } := call_flat (flat2 (flatT _) (flatR _)) (c60 ns r hn) (.v _)

/-- What an insertion answers: a tree, or an error. -/
noncomputable def insE (ns : List Node) (b : Block) (s : Int) : Int :=
  if isSt s = false then 2 else if 0 ≤ findR ns b.root then 9 else if findR ns b.parent < 0 then 10 else if b.slot ≤ (nd ns (findR ns b.parent)).block.slot then 14 else if 4096 ≤ (ns.length : Int) then 11 else 0
noncomputable def insA (ns : List Node) (b : Block) (s : Int) : AV :=
  if insE ns b s = 0 then .tup [.agg (cTree ⟨ns ++ [⟨b, findR ns b.parent, s⟩]⟩), .v (.int .i64 0)] else .tup [.agg [.v (.slice none 0 0)], .v (.int .i64 (insE ns b s))]
theorem findR_range (ns : List Node) (r : Root) : -1 ≤ findR ns r ∧ findR ns r < ns.length := by
  unfold findR
  cases h : ns.findIdx? (fun n => decide (n.block.root = r)) with
  | none => simp only; omega
  | some k =>
    have := (List.findIdx?_eq_some_iff_getElem.1 h).1
    simp only; omega
/-- ref11.Insert -/
theorem c66 (ns : List Node) (hn : (ns.length : Int) < 1000000) (b : Block) (s : Int) : callL Try.prog 66 [.agg (cTree ⟨ns⟩), .agg (cBlock b), .v (.int .i64 s)] = some (insA ns b s) := by
  rw [callL_eq Try.prog Try.func66 rfl ok66 _ (ext_none _ (by decide)) rfl]
  have hu := findR_range ns b.parent
  cases hs : isSt s
  · simp -implicitDefEqProofs only [ZZ, seval, k94, hs]
    rw [show insA ns b s = .tup [.agg [.v (.slice none 0 0)], .v (.int .i64 2)] from by simp [insA, insE, hs]]
    exact endL_two (keep_none (by decide)) (.inl rfl) rfl (by simp -implicitDefEqProofs only [resA, ZZ, seval]; rfl) (by simp only [resA, EV, seval] <;> rfl) (by simp only [EV, seval] <;> rfl) (by simp only [EV, seval] <;> rfl)
  by_cases h1 : 0 ≤ findR ns b.root
  · simp -implicitDefEqProofs only [ZZ, seval, k94, hs, k60, hn, h1]
    rw [show insA ns b s = .tup [.agg [.v (.slice none 0 0)], .v (.int .i64 9)] from by simp [insA, insE, hs, h1]]
    exact endL_two (keep_none (by decide)) (.inl rfl) rfl (by simp -implicitDefEqProofs only [resA, ZZ, seval]; rfl) (by simp only [resA, EV, seval] <;> rfl) (by simp only [EV, seval] <;> rfl) (by simp only [EV, seval] <;> rfl)
  by_cases h2 : findR ns b.parent < 0
  · simp -implicitDefEqProofs only [ZZ, seval, k94, hs, k60, hn, h1, h2]
    rw [show insA ns b s = .tup [.agg [.v (.slice none 0 0)], .v (.int .i64 10)] from by simp [insA, insE, hs, h1, h2]]
    exact endL_two (keep_none (by decide)) (.inl rfl) rfl (by simp -implicitDefEqProofs only [resA, ZZ, seval]; rfl) (by simp only [resA, EV, seval] <;> rfl) (by simp only [EV, seval] <;> rfl) (by simp only [EV, seval] <;> rfl)
  have u0 : 0 ≤ findR ns b.parent := by omega
  have u1 : findR ns b.parent < ns.length := hu.2
  by_cases h3 : b.slot ≤ (nd ns (findR ns b.parent)).block.slot
  · simp -implicitDefEqProofs only [ZZ, seval, k94, hs, k60, hn, h1, h2, u0, u1, h3]
    rw [show insA ns b s = .tup [.agg [.v (.slice none 0 0)], .v (.int .i64 14)] from by simp [insA, insE, hs, h1, h2, h3]]
    exact endL_two (keep_none (by decide)) (.inl rfl) rfl (by simp -implicitDefEqProofs only [resA, ZZ, seval]; rfl) (by simp only [resA, EV, seval] <;> rfl) (by simp only [EV, seval] <;> rfl) (by simp only [EV, seval] <;> rfl)
  by_cases h4 : 4096 ≤ (ns.length : Int)
  · simp -implicitDefEqProofs only [ZZ, seval, k94, hs, k60, hn, h1, h2, u0, u1, h3, h4]
    rw [show insA ns b s = .tup [.agg [.v (.slice none 0 0)], .v (.int .i64 11)] from by simp [insA, insE, hs, h1, h2, h3, h4]]
    exact endL_two (keep_none (by decide)) (.inl rfl) rfl (by simp -implicitDefEqProofs only [resA, ZZ, seval]; rfl) (by simp only [resA, EV, seval] <;> rfl) (by simp only [EV, seval] <;> rfl) (by simp only [EV, seval] <;> rfl)
  · simp -implicitDefEqProofs only [ZZ, seval, k94, hs, k60, hn, h1, h2, u0, u1, h3, h4]
    rw [show insA ns b s = .tup [.agg (cTree ⟨ns ++ [⟨b, findR ns b.parent, s⟩]⟩), .v (.int .i64 0)] from by simp [insA, insE, hs, h1, h2, h3, h4]]
    exact endL_two (keep_none (by decide)) (.inl rfl) rfl (by simp -implicitDefEqProofs only [resA, ZZ, seval]; rfl) (by simp only [resA, EV, seval] <;> rfl) (by simp only [EV, seval] <;> rfl) (by simp only [EV, seval] <;> rfl)
theorem flat_insA (ns : List Node) (b : Block) (s : Int) : Flat (insA ns b s) := by
  unfold insA
  split
  · exact .tup _ (flat2 (flatT _) (.v _))
  · exact .tup _ (flat2 flatNT4 (.v _))
theorem k66 (ns : List Node) (hn : (ns.length : Int) < 1000000) (b : Block) (s : Int) (st : St) (d : Option Nat) : callFn (callL Try.prog) 66 [.agg (cTree ⟨ns⟩), .agg (cBlock b), .v (.int .i64 s)] st d = some { dst := d, val := insA ns b s } := call_flat (flat3 (flatT _) (flatB _) (.v _)) (c66 ns hn b s) (flat_insA ns b s)
end Go.Ab.Try
