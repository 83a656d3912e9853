/-
  Part A5 of the proof: what the functions of the ancestry compute.
-/
import Derived.Test.YtgpkmepalmdmeaaA3
import Derived.Test.YtgpkmepalmdmeaaA4
import Derived.Test.YtgpkmepalmdmeaaG4
set_option linter.all false
set_option linter.unusedSimpArgs false
set_option linter.unusedVariables false
set_option maxRecDepth 20000
set_option maxHeartbeats 4000000
namespace Go.Ab
open Classical
theorem fill_go {place : Nat → Option (Nat × Nat)} {c : List AV} {i o s : Nat} {x : AV} {r : List (Nat × AV)} (hp : place i = some (o, s)) (h : x.cells.length = s ∧ o + s ≤ c.length) : fillA place c ((i, x) :: r) = fillA place (upd c o x.cells (o + s)) r := by
  simp only [fillA, hp]
  rw [if_pos h]
  rfl
theorem fill3 {Z a b c : List AV} (hZ : Z.length = 240) (ha : a.length = 240) (hb : b.length = 240) (hc : c.length = 240) :
    fillA (fun i => some (i * 240, 240)) ((List.range 3).flatMap fun _ => Z) [(0, .agg a), (1, .agg b), (2, .agg c)] = some (a ++ (b ++ c)) := by
  have e : ((List.range 3).flatMap fun _ => Z) = Z ++ (Z ++ Z) := by simp [List.range, List.range.loop]
  rw [e, fill_go (o := 0) (s := 240) (x := .agg a) rfl ⟨ha, by simp [hZ]⟩]
  rw [show upd (Z ++ (Z ++ Z)) 0 (AV.agg a).cells (0 + 240) = a ++ (Z ++ Z) from up_head hZ]
  rw [fill_go (o := 240) (s := 240) (x := .agg b) rfl ⟨hb, by simp [hZ, ha]⟩]
  rw [show upd (a ++ (Z ++ Z)) 240 (AV.agg b).cells (240 + 240) = a ++ (b ++ Z) from (up_skip (o := 0) (e := 240) (n := 240) (by omega) (by omega) ha).trans (by rw [show upd (Z ++ Z) 0 (AV.agg b).cells 240 = b ++ Z from up_head hZ])]
  rw [fill_go (o := 480) (s := 240) (x := .agg c) rfl ⟨hc, by simp [hZ, ha, hb]⟩]
  rw [show upd (a ++ (b ++ Z)) 480 (AV.agg c).cells (480 + 240) = a ++ (b ++ c) from (up_skip (o := 240) (e := 480) (n := 240) (by omega) (by omega) ha).trans (by rw [up_skip (o := 0) (e := 240) (n := 240) (by omega) (by omega) hb, show upd Z 0 (AV.agg c).cells 240 = c from up_last hZ])]
  rfl
namespace Try
open Go.Proofs
theorem ev_bs23_3 {call : Nat → List AV → Option AV} {ops : Array Oper} {st : St} {T : Nat} {pos : String} {aft : Array Edge} (d : Nat) (x y z : Operand) {a b c : List AV} (h1 : st.ev x = .agg a) (h2 : st.ev y = .agg b) (h3 : st.ev z = .agg c) (ha : a.length = 240) (hb : b.length = 240) (hc : c.length = 240) : evOp Try.prog call ops ⟨some d, .buildSlice 23 3 #[(0, x), (1, y), (2, z)], T, pos, aft, none⟩ st =
    some ((st.new d (.row 54 240 3 (a ++ (b ++ c)))).put (some d) (.own d (st.cnt d))) := by
  rw [ev_buildSlice]
  have hz : (vNode.map AV.v).length = 240 := by rw [vNode_c]; simp
  simp only [sl23, ze54, bnd, List.toList_toArray, List.all_cons, List.all_nil, h1, h2, h3, AV.stor, Bool.and_self, List.map_cons, List.map_nil, fill3 hz ha hb hc]
  rw [if_pos (by simp)]
theorem ev_bs23_3E {call : Nat → List AV → Option AV} {ops : Array Oper} {st : St} {T : Nat} {pos : String} {aft : Array Edge} (d : Nat) (x y z : Operand) : evOp Try.prog call ops ⟨some d, .buildSlice 23 3 #[(0, x), (1, y), (2, z)], T, pos, aft, none⟩ st =
    elAgg 240 (st.ev x) (fun a => elAgg 240 (st.ev y) (fun b => elAgg 240 (st.ev z) (fun c => some ((st.new d (.row 54 240 3 (a ++ (b ++ c)))).put (some d) (.own d (st.cnt d)))) (evOp Try.prog call ops ⟨some d, .buildSlice 23 3 #[(0, x), (1, y), (2, z)], T, pos, aft, none⟩ st))
      (evOp Try.prog call ops ⟨some d, .buildSlice 23 3 #[(0, x), (1, y), (2, z)], T, pos, aft, none⟩ st)) (evOp Try.prog call ops ⟨some d, .buildSlice 23 3 #[(0, x), (1, y), (2, z)], T, pos, aft, none⟩ st) := by
  unfold elAgg
  split
  · rename_i a h1
    split
    · rename_i ha
      try dsimp only
      split
      · rename_i b h2
        split
        · rename_i hb
          try dsimp only
          split
          · rename_i c h3
            split
            · rename_i hc; exact ev_bs23_3 d x y z h1 h2 h3 ha hb hc
            · rfl
          · rfl
        · rfl
      · rfl
    · rfl
  · rfl
theorem expoF_node3 (e sz : Nat) (a b c : Node) : expoF (some (.row e sz 3 (cNode a ++ (cNode b ++ cNode c)))) = some (.sl 3 (csNode [a, b, c])) := by
  have h : cNode a ++ (cNode b ++ cNode c) = csNode [a, b, c] := by simp [csNode]
  rw [h]
  exact expoF_node e sz 3 [a, b, c]
theorem q39 (args : List AV) (st : St) (d : Option Nat) : callFn (callL Try.prog) 39 args st d = callQ (callL Try.prog) 39 (optAll (args.map (expo st))) (decide (∀ x ∈ args, Flat x)) st d := callFn_Q _ _ _ _ _
theorem q42 (args : List AV) (st : St) (d : Option Nat) : callFn (callL Try.prog) 42 args st d = callQ (callL Try.prog) 42 (optAll (args.map (expo st))) (decide (∀ x ∈ args, Flat x)) st d := callFn_Q _ _ _ _ _
theorem q43 (args : List AV) (st : St) (d : Option Nat) : callFn (callL Try.prog) 43 args st d = callQ (callL Try.prog) 43 (optAll (args.map (expo st))) (decide (∀ x ∈ args, Flat x)) st d := callFn_Q _ _ _ _ _
theorem q44 (args : List AV) (st : St) (d : Option Nat) : callFn (callL Try.prog) 44 args st d = callQ (callL Try.prog) 44 (optAll (args.map (expo st))) (decide (∀ x ∈ args, Flat x)) st d := callFn_Q _ _ _ _ _
theorem k34M (l m : List Int) {n n' : Nat} (hl : l.length = n) (hm : m.length = n') (hn : (n : Int) < 1000000) (fl : Bool) (st : St) (d : Option Nat) : callQ (callL Try.prog) 34 (some [.sl n (csInt l), .sl n' (csInt m)]) fl st d = some { dst := d, val := .v (.bool (decide (l = m))) } := by
  subst hl; subst hm
  exact k34 l m hn fl st d
def bL (s : Int) (r p : Root) : Block := ⟨zBlock.pulled, s, r, p, zBlock.payload, zBlock.diff, zBlock.pdiff, zBlock.just, zBlock.fin, zBlock.timely⟩
def bW1 : Node := ⟨bL zBlock.slot (mkRoot 1) zBlock.parent, -1, zNode.status⟩
def bW2 : Node := ⟨bL 3 (mkRoot 2) (mkRoot 1), zNode.up, zNode.status⟩
def bW3 : Node := ⟨bL 5 (mkRoot 3) (mkRoot 2), 1, zNode.status⟩
theorem bUp : UpOk [bW1, bW2, bW3] := by
  intro i h0 h1
  have : i = 1 ∨ i = 2 := by simp at h1; omega
  rcases this with rfl | rfl <;> decide
theorem bPath0 : path [bW1, bW2, bW3] 0 = [0] := path_zero (by simp)
theorem bPath1 : path [bW1, bW2, bW3] 1 = [0, 1] := by rw [path_step bUp (by omega) (by simp)]; show path _ 0 ++ [1] = _; rw [bPath0]; rfl
theorem bPath2 : path [bW1, bW2, bW3] 2 = [0, 1, 2] := by rw [path_step bUp (by omega) (by simp)]; show path _ 1 ++ [2] = _; rw [bPath1]; rfl
theorem wAt : atV [bW1, bW2, bW3] 2 4 = 1 := by
  unfold atV; rw [bPath2]; decide
theorem bAnc : anc [bW1, bW2, bW3] 0 2 = true := by
  unfold anc; rw [bPath2]; decide
theorem bHeir : heirV [bW1, bW2, bW3] 0 2 = 1 := by
  unfold heirV
  rw [bAnc, if_neg (by decide)]
  decide
theorem w39 (fl : Bool) (st : St) (d : Option Nat) : callQ (callL Try.prog) 39 (some [.agg [.sl 3 (csNode [bW1, bW2, bW3])], .v (.int .i64 2), .v (.int .u64 4)]) fl st d = some { dst := d, val := .v (.int .i64 1) } := by
  have h := c39 [bW1, bW2, bW3] bUp rfl 2 4
  rw [wAt] at h
  exact Q_int h
theorem w43 (fl : Bool) (st : St) (d : Option Nat) : callQ (callL Try.prog) 43 (some [.agg [.sl 3 (csNode [bW1, bW2, bW3])], .v (.int .i64 0), .v (.int .i64 2)]) fl st d = some { dst := d, val := .v (.int .i64 1) } := by
  have h := c43 [bW1, bW2, bW3] bUp 0 2
  rw [bHeir] at h
  exact Q_int h
theorem w42 (fl : Bool) (st : St) (d : Option Nat) : callQ (callL Try.prog) 42 (some [.agg [.sl 3 (csNode [bW1, bW2, bW3])], .v (.int .i64 0), .v (.int .i64 2)]) fl st d = some { dst := d, val := .v (.bool true) } := by
  have h := c42 [bW1, bW2, bW3] bUp 0 2
  rw [bAnc] at h
  exact Q_bool h
theorem w44 (fl : Bool) (st : St) (d : Nat) : callQ (callL Try.prog) 44 (some [.agg [.sl 3 (csNode [bW1, bW2, bW3])], .v (.int .i64 2)]) fl st (some d) = some { dst := some d, val := .own d (st.cnt d), new := some (d, [.row 3 1 3 (csInt [0, 1, 2])]) } := by
  have h := c44 [bW1, bW2, bW3] bUp rfl (by decide) 2 (by decide) (by decide)
  rw [bPath2] at h
  exact Q_uniq h (mem_csInt _)
theorem c41 : callL Try.prog 41 [] = some (.v (.bool true)) := by
  rw [callL_eq Try.prog Try.func41 rfl ok41 _ (ext_none _ (by decide)) rfl]
  have h42 := w39
  have h45 := w42
  have h46 := w43
  have h47 := w44
  simp only [bW1, bW2, bW3, bL] at h42 h45 h46 h47
  simp -implicitDefEqProofs only [ZZ, seval, k53, ev_bs23_3E, expoF_node3, q39, q42, q43, q44, q34, h42, h45, h46, h47, k34M, Int.reduceLT, decide_true, beq_self_eq_true]
  exact endL_tmp (keep_none (by decide)) (.inl rfl) rfl (by simp only [EV, seval] <;> rfl) (.v _)
theorem k41 (st : St) (d : Option Nat) : callFn (callL Try.prog) 41 [] st d = some { dst := d, val := .v (.bool true) } := call_flat (by simp) c41 (.v _)
end Try
end Go.Ab
