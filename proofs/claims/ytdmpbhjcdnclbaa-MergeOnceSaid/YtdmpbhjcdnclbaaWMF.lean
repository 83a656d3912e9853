/-
  Part WMF of the proof: what functions of this program compute.
-/
import Derived.Test.YtdmpbhjcdnclbaaWT1
import Derived.Test.YtdmpbhjcdnclbaaProg
import Derived.KernelRfl
set_option linter.all false
set_option linter.unusedSimpArgs false
set_option maxRecDepth 20000
namespace Go.Ab.Try
open Classical Go.Proofs Go.Ab
theorem mixed : Try.prog.follows .mixedOrders = true := by kernel_rfl
theorem ld3 (cs : List AV) (o : Nat) : ldAt Try.prog 3 cs o = cs[o]? := by
  have : ldInfo Try.prog 3 = some (false, 1) := by kernel_rfl
  simp only [ldAt, this]
theorem ik3 : intKind Try.prog 3 = some .i64 := by kernel_rfl
theorem lk3 : ldK Try.prog 3 = some 1 := by kernel_rfl
theorem ze3 : zeroL Try.prog 3 = some [.int .i64 0] := by kernel_rfl
theorem ld22 (cs : List AV) (o : Nat) : ldAt Try.prog 22 cs o = cs[o]? := by
  have : ldInfo Try.prog 22 = some (false, 1) := by kernel_rfl
  simp only [ldAt, this]
theorem ik22 : intKind Try.prog 22 = some .u64 := by kernel_rfl
theorem lk22 : ldK Try.prog 22 = some 1 := by kernel_rfl
theorem ze22 : zeroL Try.prog 22 = some [.int .u64 0] := by kernel_rfl
theorem ld43 (cs : List AV) (o : Nat) : ldAt Try.prog 43 cs o = cs[o]? := by
  have : ldInfo Try.prog 43 = some (false, 1) := by kernel_rfl
  simp only [ldAt, this]
theorem ik43 : intKind Try.prog 43 = some .u64 := by kernel_rfl
theorem lk43 : ldK Try.prog 43 = some 1 := by kernel_rfl
theorem ze43 : zeroL Try.prog 43 = some [.int .u64 0] := by kernel_rfl
theorem ld5 (cs : List AV) (o : Nat) : ldAt Try.prog 5 cs o = cs[o]? := by
  have : ldInfo Try.prog 5 = some (false, 1) := by kernel_rfl
  simp only [ldAt, this]
theorem ik5 : intKind Try.prog 5 = some .u8 := by kernel_rfl
theorem lk5 : ldK Try.prog 5 = some 1 := by kernel_rfl
theorem ze5 : zeroL Try.prog 5 = some [.int .u8 0] := by kernel_rfl
theorem ld2 (cs : List AV) (o : Nat) : ldAt Try.prog 2 cs o = cs[o]? := by
  have : ldInfo Try.prog 2 = some (false, 1) := by kernel_rfl
  simp only [ldAt, this]
theorem ik2 : intKind Try.prog 2 = some .i64 := by kernel_rfl
theorem lk2 : ldK Try.prog 2 = some 1 := by kernel_rfl
theorem ze2 : zeroL Try.prog 2 = some [.int .i64 0] := by kernel_rfl
theorem ld4 (cs : List AV) (o : Nat) : ldAt Try.prog 4 cs o = cs[o]? := by
  have : ldInfo Try.prog 4 = some (false, 1) := by kernel_rfl
  simp only [ldAt, this]
theorem lk4 : ldK Try.prog 4 = some 1 := by kernel_rfl
theorem ze4 : zeroL Try.prog 4 = some [.bool false] := by kernel_rfl
theorem be4 (a b : Bool) : binA Try.prog .eql 4 (.v (.bool a)) (.v (.bool b)) = some (.v (.bool (a == b))) := by
  have : Try.prog.underlying 4 = some .bool := by kernel_rfl
  simp only [binA, this]
theorem bn4 (a b : Bool) : binA Try.prog .neq 4 (.v (.bool a)) (.v (.bool b)) = some (.v (.bool (!(a == b)))) := by
  have : Try.prog.underlying 4 = some .bool := by kernel_rfl
  simp only [binA, this]
theorem ld26 (cs : List AV) (o : Nat) (h : 32 ≤ cs.length - o) : ldAt Try.prog 26 cs o = some (.agg (rd cs o 32)) := by
  have : ldInfo Try.prog 26 = some (true, 32) := by kernel_rfl
  simp [ldAt, this, h]
theorem lk26 : ldK Try.prog 26 = some 32 := by kernel_rfl
theorem ze26 : zeroL Try.prog 26 = some vRoot := by kernel_rfl
theorem eq26 (a b : Root) : eqAgg Try.prog 26 (cRoot a) (cRoot b) = some (decide (a = b)) := eqAgg_of (l := lRoot) (by kernel_rfl) (by kernel_rfl) (by kernel_rfl) (leafy_root a b) (cRoot_inj a b)
theorem be26 (a b : Root) : binA Try.prog .eql 26 (.agg (cRoot a)) (.agg (cRoot b)) = some (.v (.bool (decide (a = b)))) := by simp only [binA, eq26, Option.map_some]
theorem bn26 (a b : Root) : binA Try.prog .neq 26 (.agg (cRoot a)) (.agg (cRoot b)) = some (.v (.bool (!(decide (a = b))))) := by simp only [binA, eq26, Option.map_some]
theorem ar26 : arrInfo Try.prog 26 = some (32, 1) := by kernel_rfl
theorem bu26 (st : St) (parts : List (Nat × Operand)) : buildA Try.prog st 26 parts = if (parts.all fun p => (st.ev p.2).stor) = true then (fillA (fun i => some (i * 1, 1)) (cRoot zRoot) (parts.map fun p => (p.1, st.ev p.2))).map .agg else none := build_of (z := vRoot) (by kernel_rfl) vRoot_c (placeArr_eq (by kernel_rfl))
theorem ld24 (cs : List AV) (o : Nat) (h : 4 ≤ cs.length - o) : ldAt Try.prog 24 cs o = some (.agg (rd cs o 4)) := by
  have : ldInfo Try.prog 24 = some (true, 4) := by kernel_rfl
  simp [ldAt, this, h]
theorem lk24 : ldK Try.prog 24 = some 4 := by kernel_rfl
theorem ze24 : zeroL Try.prog 24 = some vWide := by kernel_rfl
theorem eq24 (a b : Wide) : eqAgg Try.prog 24 (cWide a) (cWide b) = some (decide (a = b)) := eqAgg_of (l := lWide) (by kernel_rfl) (by kernel_rfl) (by kernel_rfl) (leafy_wide a b) (cWide_inj a b)
theorem be24 (a b : Wide) : binA Try.prog .eql 24 (.agg (cWide a)) (.agg (cWide b)) = some (.v (.bool (decide (a = b)))) := by simp only [binA, eq24, Option.map_some]
theorem bn24 (a b : Wide) : binA Try.prog .neq 24 (.agg (cWide a)) (.agg (cWide b)) = some (.v (.bool (!(decide (a = b))))) := by simp only [binA, eq24, Option.map_some]
theorem ar24 : arrInfo Try.prog 24 = some (4, 1) := by kernel_rfl
theorem bu24 (st : St) (parts : List (Nat × Operand)) : buildA Try.prog st 24 parts = if (parts.all fun p => (st.ev p.2).stor) = true then (fillA (fun i => some (i * 1, 1)) (cWide zWide) (parts.map fun p => (p.1, st.ev p.2))).map .agg else none := build_of (z := vWide) (by kernel_rfl) vWide_c (placeArr_eq (by kernel_rfl))
theorem ld28 (cs : List AV) (o : Nat) (h : 33 ≤ cs.length - o) : ldAt Try.prog 28 cs o = some (.agg (rd cs o 33)) := by
  have : ldInfo Try.prog 28 = some (true, 33) := by kernel_rfl
  simp [ldAt, this, h]
theorem lk28 : ldK Try.prog 28 = some 33 := by kernel_rfl
theorem fo28_0 : fieldOff Try.prog 28 0 = some 0 := by kernel_rfl
theorem fo28_1 : fieldOff Try.prog 28 1 = some 1 := by kernel_rfl
theorem ze28 : zeroL Try.prog 28 = some vCkpt := by kernel_rfl
theorem eq28 (a b : Ckpt) : eqAgg Try.prog 28 (cCkpt a) (cCkpt b) = some (decide (a = b)) := eqAgg_of (l := lCkpt) (by kernel_rfl) (by kernel_rfl) (by kernel_rfl) (leafy_Ckpt a b) (cCkpt_inj a b)
theorem be28 (a b : Ckpt) : binA Try.prog .eql 28 (.agg (cCkpt a)) (.agg (cCkpt b)) = some (.v (.bool (decide (a = b)))) := by simp only [binA, eq28, Option.map_some]
theorem bn28 (a b : Ckpt) : binA Try.prog .neq 28 (.agg (cCkpt a)) (.agg (cCkpt b)) = some (.v (.bool (!(decide (a = b))))) := by simp only [binA, eq28, Option.map_some]
theorem bu28 (st : St) (parts : List (Nat × Operand)) : buildA Try.prog st 28 parts = if (parts.all fun p => (st.ev p.2).stor) = true then (fillA (fun i => ([(0, 1), (1, 32)] : List (Nat × Nat))[i]?) (cCkpt zCkpt) (parts.map fun p => (p.1, st.ev p.2))).map .agg else none := build_of (z := vCkpt) (by kernel_rfl) vCkpt_c (placeTab_eq (by kernel_rfl))
theorem ld30 (cs : List AV) (o : Nat) (h : 66 ≤ cs.length - o) : ldAt Try.prog 30 cs o = some (.agg (rd cs o 66)) := by
  have : ldInfo Try.prog 30 = some (true, 66) := by kernel_rfl
  simp [ldAt, this, h]
theorem lk30 : ldK Try.prog 30 = some 66 := by kernel_rfl
theorem fo30_0 : fieldOff Try.prog 30 0 = some 0 := by kernel_rfl
theorem fo30_1 : fieldOff Try.prog 30 1 = some 33 := by kernel_rfl
theorem ze30 : zeroL Try.prog 30 = some vPulled := by kernel_rfl
theorem eq30 (a b : Pulled) : eqAgg Try.prog 30 (cPulled a) (cPulled b) = some (decide (a = b)) := eqAgg_of (l := lPulled) (by kernel_rfl) (by kernel_rfl) (by kernel_rfl) (leafy_Pulled a b) (cPulled_inj a b)
theorem be30 (a b : Pulled) : binA Try.prog .eql 30 (.agg (cPulled a)) (.agg (cPulled b)) = some (.v (.bool (decide (a = b)))) := by simp only [binA, eq30, Option.map_some]
theorem bn30 (a b : Pulled) : binA Try.prog .neq 30 (.agg (cPulled a)) (.agg (cPulled b)) = some (.v (.bool (!(decide (a = b))))) := by simp only [binA, eq30, Option.map_some]
theorem bu30 (st : St) (parts : List (Nat × Operand)) : buildA Try.prog st 30 parts = if (parts.all fun p => (st.ev p.2).stor) = true then (fillA (fun i => ([(0, 33), (33, 33)] : List (Nat × Nat))[i]?) (cPulled zPulled) (parts.map fun p => (p.1, st.ev p.2))).map .agg else none := build_of (z := vPulled) (by kernel_rfl) vPulled_c (placeTab_eq (by kernel_rfl))
theorem ld32 (cs : List AV) (o : Nat) (h : 238 ≤ cs.length - o) : ldAt Try.prog 32 cs o = some (.agg (rd cs o 238)) := by
  have : ldInfo Try.prog 32 = some (true, 238) := by kernel_rfl
  simp [ldAt, this, h]
theorem lk32 : ldK Try.prog 32 = some 238 := by kernel_rfl
theorem fo32_0 : fieldOff Try.prog 32 0 = some 0 := by kernel_rfl
theorem fo32_1 : fieldOff Try.prog 32 1 = some 66 := by kernel_rfl
theorem fo32_2 : fieldOff Try.prog 32 2 = some 67 := by kernel_rfl
theorem fo32_3 : fieldOff Try.prog 32 3 = some 99 := by kernel_rfl
theorem fo32_4 : fieldOff Try.prog 32 4 = some 131 := by kernel_rfl
theorem fo32_5 : fieldOff Try.prog 32 5 = some 163 := by kernel_rfl
theorem fo32_6 : fieldOff Try.prog 32 6 = some 167 := by kernel_rfl
theorem fo32_7 : fieldOff Try.prog 32 7 = some 171 := by kernel_rfl
theorem fo32_8 : fieldOff Try.prog 32 8 = some 204 := by kernel_rfl
theorem fo32_9 : fieldOff Try.prog 32 9 = some 237 := by kernel_rfl
theorem ze32 : zeroL Try.prog 32 = some vBlock := by kernel_rfl
theorem eq32 (a b : Block) : eqAgg Try.prog 32 (cBlock a) (cBlock b) = some (decide (a = b)) := eqAgg_of (l := lBlock) (by kernel_rfl) (by kernel_rfl) (by kernel_rfl) (leafy_Block a b) (cBlock_inj a b)
theorem be32 (a b : Block) : binA Try.prog .eql 32 (.agg (cBlock a)) (.agg (cBlock b)) = some (.v (.bool (decide (a = b)))) := by simp only [binA, eq32, Option.map_some]
theorem bn32 (a b : Block) : binA Try.prog .neq 32 (.agg (cBlock a)) (.agg (cBlock b)) = some (.v (.bool (!(decide (a = b))))) := by simp only [binA, eq32, Option.map_some]
theorem bu32 (st : St) (parts : List (Nat × Operand)) : buildA Try.prog st 32 parts = if (parts.all fun p => (st.ev p.2).stor) = true then (fillA (fun i => ([(0, 66), (66, 1), (67, 32), (99, 32), (131, 32), (163, 4), (167, 4), (171, 33), (204, 33), (237, 1)] : List (Nat × Nat))[i]?) (cBlock zBlock) (parts.map fun p => (p.1, st.ev p.2))).map .agg else none := build_of (z := vBlock) (by kernel_rfl) vBlock_c (placeTab_eq (by kernel_rfl))
theorem fa28_0 (cs : List AV) : fieldA Try.prog 28 0 (.agg cs) = cs[0]? := fieldA_one (k := 1) (by kernel_rfl)
theorem sl42 : slInfo Try.prog 42 = some (3, 1, 8) := by kernel_rfl
theorem na42 : arrInfo Try.prog 42 = none := by kernel_rfl
theorem ld42 (cs : List AV) (o : Nat) : ldAt Try.prog 42 cs o = cs[o]? := by
  have : ldInfo Try.prog 42 = some (false, 1) := by kernel_rfl
  simp only [ldAt, this]
theorem lk42 : ldK Try.prog 42 = some 1 := by kernel_rfl
theorem ze42 : zeroL Try.prog 42 = some [.slice none 0 0] := by kernel_rfl
theorem ns42 (n : Nat) (cs : List AV) (h : cs ≠ []) : binA Try.prog .eql 42 (.sl n cs) (.v (.slice none 0 0)) = some (.v (.bool false)) := by
  have : Try.prog.underlying 42 = some (.slice 3) := by kernel_rfl
  cases cs with
  | nil => exact absurd rfl h
  | cons c cs => simp [binA, nilCmp, this]
theorem nn42 : binA Try.prog .eql 42 (.v (.slice none 0 0)) (.v (.slice none 0 0)) = some (.v (.bool true)) := by
  have : Try.prog.underlying 42 = some (.slice 3) := by kernel_rfl
  simp [binA, nilCmp, this]
theorem an42 (st : St) (x : AV) : appendA Try.prog st 42 (.v (.slice none 0 0)) x = anE 3 1 8 (sliceView st x) := app_nil sl42 x
theorem ao42 (st : St) (s g : Nat) (x : AV) : appendA Try.prog st 42 (.own s g) x = aoE 3 1 8 (st.heap s g) s g (sliceView st x) := app_own sl42 s g x
theorem ac42 (st : St) (n : Nat) (cs : List AV) (x : AV) : appendA Try.prog st 42 (.cl n cs) x = acE 3 1 8 n cs (sliceView st x) := app_cl sl42 n cs x
theorem io42 (st : St) (s g : Nat) (kk : IntKind) (i : Int) : indexAddrA Try.prog st 42 (.own s g) (.v (.int kk i)) = ioE 3 1 (st.heap s g) s g i := idx_own na42 sl42 s g kk i
theorem b042 {call : Nat → List AV → Option AV} {ops : Array Oper} {st : St} {T : Nat} {pos : String} {aft : Array Edge} (d : Nat) : evOp Try.prog call ops ⟨some d, .buildSlice 42 0 #[], T, pos, aft, none⟩ st = some ((st.new d (.row 3 1 0 [])).put (some d) (.own d (st.cnt d))) := ev_bs0 sl42 ze3 d
theorem b142 {call : Nat → List AV → Option AV} {ops : Array Oper} {st : St} {T : Nat} {pos : String} {aft : Array Edge} (d : Nat) (x : Operand) : evOp Try.prog call ops ⟨some d, .buildSlice 42 1 #[(0, x)], T, pos, aft, none⟩ st = elV (st.ev x) (fun y => some ((st.new d (.row 3 1 1 [.v y])).put (some d) (.own d (st.cnt d)))) (evOp Try.prog call ops ⟨some d, .buildSlice 42 1 #[(0, x)], T, pos, aft, none⟩ st) := ev_bs1E sl42 ze3 d x
theorem ok3 : fnOkN Try.f3 = true := by kernel_rfl
theorem ok4 : fnOkN Try.f4 = true := by kernel_rfl
theorem ok5 : fnOk Try.f5 = true := by kernel_rfl
theorem ok6 : fnOkN Try.f6 = true := by kernel_rfl
theorem ok7 : fnOkN Try.f7 = true := by kernel_rfl
theorem ok8 : fnOkN Try.f8 = true := by kernel_rfl
theorem ok9 : fnOkN Try.f9 = true := by kernel_rfl
theorem ok10 : fnOkN Try.f10 = true := by kernel_rfl
theorem ok11 : fnOkN Try.f11 = true := by kernel_rfl
theorem ok12 : fnOkN Try.f12 = true := by kernel_rfl
theorem ok13 : fnOkN Try.f13 = true := by kernel_rfl
theorem ok14 : fnOkN Try.f14 = true := by kernel_rfl
theorem ok15 : fnOkN Try.f15 = true := by kernel_rfl
theorem ok16 : fnOkN Try.f16 = true := by kernel_rfl
theorem ok17 : fnOkN Try.f17 = true := by kernel_rfl
end Go.Ab.Try
