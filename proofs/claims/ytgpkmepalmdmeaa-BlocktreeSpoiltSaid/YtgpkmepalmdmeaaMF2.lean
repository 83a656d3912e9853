/-
  Part MF2 of the proof: closed facts of this program.
-/
import Derived.Test.YtgpkmepalmdmeaaX2
import Derived.Test.YtgpkmepalmdmeaaProg
import Derived.KernelRfl
set_option linter.all false
set_option linter.unusedSimpArgs false
namespace Go.Ab.Try
open Classical Go.Proofs Go.Ab
theorem mixed : Try.prog.follows .mixedOrders = true := by kernel_rfl
theorem ld3 (cs : List AV) (o : Nat) : ldAt Try.prog 3 cs o = cs[o]? := by
  have : ldInfo Try.prog 3 = some (false, 1) := by kernel_rfl
  simp only [ldAt, this]
theorem ik3 : intKind Try.prog 3 = some .i64 := by kernel_rfl
theorem lk3 : ldK Try.prog 3 = some 1 := by kernel_rfl
theorem ze3 : zeroL Try.prog 3 = some [.int .i64 0] := by kernel_rfl
theorem ld38 (cs : List AV) (o : Nat) : ldAt Try.prog 38 cs o = cs[o]? := by
  have : ldInfo Try.prog 38 = some (false, 1) := by kernel_rfl
  simp only [ldAt, this]
theorem ik38 : intKind Try.prog 38 = some .u64 := by kernel_rfl
theorem lk38 : ldK Try.prog 38 = some 1 := by kernel_rfl
theorem ze38 : zeroL Try.prog 38 = some [.int .u64 0] := by kernel_rfl
theorem ld58 (cs : List AV) (o : Nat) : ldAt Try.prog 58 cs o = cs[o]? := by
  have : ldInfo Try.prog 58 = some (false, 1) := by kernel_rfl
  simp only [ldAt, this]
theorem ik58 : intKind Try.prog 58 = some .u64 := by kernel_rfl
theorem lk58 : ldK Try.prog 58 = some 1 := by kernel_rfl
theorem ze58 : zeroL Try.prog 58 = some [.int .u64 0] := by kernel_rfl
theorem ld5 (cs : List AV) (o : Nat) : ldAt Try.prog 5 cs o = cs[o]? := by
  have : ldInfo Try.prog 5 = some (false, 1) := by kernel_rfl
  simp only [ldAt, this]
theorem ik5 : intKind Try.prog 5 = some .u8 := by kernel_rfl
theorem lk5 : ldK Try.prog 5 = some 1 := by kernel_rfl
theorem ze5 : zeroL Try.prog 5 = some [.int .u8 0] := by kernel_rfl
theorem ld2 (cs : List AV) (o : Nat) : ldAt Try.prog 2 cs o = cs[o]? := by
  have : ldInfo Try.prog 2 = some (false, 1) := by kernel_rfl
  simp only [ldAt, this]
theorem ik2 : intKind Try.prog 2 = some .i64 := by kernel_rfl
theorem lk2 : ldK Try.prog 2 = some 1 := by kernel_rfl
theorem ze2 : zeroL Try.prog 2 = some [.int .i64 0] := by kernel_rfl
theorem ld27 (cs : List AV) (o : Nat) : ldAt Try.prog 27 cs o = cs[o]? := by
  have : ldInfo Try.prog 27 = some (false, 1) := by kernel_rfl
  simp only [ldAt, this]
theorem ik27 : intKind Try.prog 27 = some .i64 := by kernel_rfl
theorem lk27 : ldK Try.prog 27 = some 1 := by kernel_rfl
theorem ze27 : zeroL Try.prog 27 = some [.int .i64 0] := by kernel_rfl
theorem ld4 (cs : List AV) (o : Nat) : ldAt Try.prog 4 cs o = cs[o]? := by
  have : ldInfo Try.prog 4 = some (false, 1) := by kernel_rfl
  simp only [ldAt, this]
theorem lk4 : ldK Try.prog 4 = some 1 := by kernel_rfl
theorem ze4 : zeroL Try.prog 4 = some [.bool false] := by kernel_rfl
theorem be4 (a b : Bool) : binA Try.prog .eql 4 (.v (.bool a)) (.v (.bool b)) = some (.v (.bool (a == b))) := by
  have : Try.prog.underlying 4 = some .bool := by kernel_rfl
  simp only [binA, this]
theorem bn4 (a b : Bool) : binA Try.prog .neq 4 (.v (.bool a)) (.v (.bool b)) = some (.v (.bool (!(a == b)))) := by
  have : Try.prog.underlying 4 = some .bool := by kernel_rfl
  simp only [binA, this]
theorem ld44 (cs : List AV) (o : Nat) (h : 32 ≤ cs.length - o) : ldAt Try.prog 44 cs o = some (.agg (rd cs o 32)) := by
  have : ldInfo Try.prog 44 = some (true, 32) := by kernel_rfl
  simp [ldAt, this, h]
theorem lk44 : ldK Try.prog 44 = some 32 := by kernel_rfl
theorem ze44 : zeroL Try.prog 44 = some vRoot := by kernel_rfl
theorem eq44 (a b : Root) : eqAgg Try.prog 44 (cRoot a) (cRoot b) = some (decide (a = b)) := eqAgg_of (l := lRoot) (by kernel_rfl) (by kernel_rfl) (by kernel_rfl) (leafy_root a b) (cRoot_inj a b)
theorem be44 (a b : Root) : binA Try.prog .eql 44 (.agg (cRoot a)) (.agg (cRoot b)) = some (.v (.bool (decide (a = b)))) := by simp only [binA, eq44, Option.map_some]
theorem bn44 (a b : Root) : binA Try.prog .neq 44 (.agg (cRoot a)) (.agg (cRoot b)) = some (.v (.bool (!(decide (a = b))))) := by simp only [binA, eq44, Option.map_some]
theorem ar44 : arrInfo Try.prog 44 = some (32, 1) := by kernel_rfl
theorem bu44 (st : St) (parts : List (Nat × Operand)) : buildA Try.prog st 44 parts = if (parts.all fun p => (st.ev p.2).stor) = true then (fillA (fun i => some (i * 1, 1)) (cRoot zRoot) (parts.map fun p => (p.1, st.ev p.2))).map .agg else none := build_of (z := vRoot) (by kernel_rfl) vRoot_c (placeArr_eq (by kernel_rfl))
theorem ld50 (cs : List AV) (o : Nat) (h : 4 ≤ cs.length - o) : ldAt Try.prog 50 cs o = some (.agg (rd cs o 4)) := by
  have : ldInfo Try.prog 50 = some (true, 4) := by kernel_rfl
  simp [ldAt, this, h]
theorem lk50 : ldK Try.prog 50 = some 4 := by kernel_rfl
theorem ze50 : zeroL Try.prog 50 = some vWide := by kernel_rfl
theorem eq50 (a b : Wide) : eqAgg Try.prog 50 (cWide a) (cWide b) = some (decide (a = b)) := eqAgg_of (l := lWide) (by kernel_rfl) (by kernel_rfl) (by kernel_rfl) (leafy_wide a b) (cWide_inj a b)
theorem be50 (a b : Wide) : binA Try.prog .eql 50 (.agg (cWide a)) (.agg (cWide b)) = some (.v (.bool (decide (a = b)))) := by simp only [binA, eq50, Option.map_some]
theorem bn50 (a b : Wide) : binA Try.prog .neq 50 (.agg (cWide a)) (.agg (cWide b)) = some (.v (.bool (!(decide (a = b))))) := by simp only [binA, eq50, Option.map_some]
theorem ar50 : arrInfo Try.prog 50 = some (4, 1) := by kernel_rfl
theorem bu50 (st : St) (parts : List (Nat × Operand)) : buildA Try.prog st 50 parts = if (parts.all fun p => (st.ev p.2).stor) = true then (fillA (fun i => some (i * 1, 1)) (cWide zWide) (parts.map fun p => (p.1, st.ev p.2))).map .agg else none := build_of (z := vWide) (by kernel_rfl) vWide_c (placeArr_eq (by kernel_rfl))
theorem ld46 (cs : List AV) (o : Nat) (h : 33 ≤ cs.length - o) : ldAt Try.prog 46 cs o = some (.agg (rd cs o 33)) := by
  have : ldInfo Try.prog 46 = some (true, 33) := by kernel_rfl
  simp [ldAt, this, h]
theorem lk46 : ldK Try.prog 46 = some 33 := by kernel_rfl
theorem fo46_0 : fieldOff Try.prog 46 0 = some 0 := by kernel_rfl
theorem fo46_1 : fieldOff Try.prog 46 1 = some 1 := by kernel_rfl
theorem ze46 : zeroL Try.prog 46 = some vCkpt := by kernel_rfl
theorem eq46 (a b : Ckpt) : eqAgg Try.prog 46 (cCkpt a) (cCkpt b) = some (decide (a = b)) := eqAgg_of (l := lCkpt) (by kernel_rfl) (by kernel_rfl) (by kernel_rfl) (leafy_Ckpt a b) (cCkpt_inj a b)
theorem be46 (a b : Ckpt) : binA Try.prog .eql 46 (.agg (cCkpt a)) (.agg (cCkpt b)) = some (.v (.bool (decide (a = b)))) := by simp only [binA, eq46, Option.map_some]
theorem bn46 (a b : Ckpt) : binA Try.prog .neq 46 (.agg (cCkpt a)) (.agg (cCkpt b)) = some (.v (.bool (!(decide (a = b))))) := by simp only [binA, eq46, Option.map_some]
theorem bu46 (st : St) (parts : List (Nat × Operand)) : buildA Try.prog st 46 parts = if (parts.all fun p => (st.ev p.2).stor) = true then (fillA (fun i => ([(0, 1), (1, 32)] : List (Nat × Nat))[i]?) (cCkpt zCkpt) (parts.map fun p => (p.1, st.ev p.2))).map .agg else none := build_of (z := vCkpt) (by kernel_rfl) vCkpt_c (placeTab_eq (by kernel_rfl))
theorem ld48 (cs : List AV) (o : Nat) (h : 66 ≤ cs.length - o) : ldAt Try.prog 48 cs o = some (.agg (rd cs o 66)) := by
  have : ldInfo Try.prog 48 = some (true, 66) := by kernel_rfl
  simp [ldAt, this, h]
theorem lk48 : ldK Try.prog 48 = some 66 := by kernel_rfl
theorem fo48_0 : fieldOff Try.prog 48 0 = some 0 := by kernel_rfl
theorem fo48_1 : fieldOff Try.prog 48 1 = some 33 := by kernel_rfl
theorem ze48 : zeroL Try.prog 48 = some vPulled := by kernel_rfl
theorem eq48 (a b : Pulled) : eqAgg Try.prog 48 (cPulled a) (cPulled b) = some (decide (a = b)) := eqAgg_of (l := lPulled) (by kernel_rfl) (by kernel_rfl) (by kernel_rfl) (leafy_Pulled a b) (cPulled_inj a b)
theorem be48 (a b : Pulled) : binA Try.prog .eql 48 (.agg (cPulled a)) (.agg (cPulled b)) = some (.v (.bool (decide (a = b)))) := by simp only [binA, eq48, Option.map_some]
theorem bn48 (a b : Pulled) : binA Try.prog .neq 48 (.agg (cPulled a)) (.agg (cPulled b)) = some (.v (.bool (!(decide (a = b))))) := by simp only [binA, eq48, Option.map_some]
theorem bu48 (st : St) (parts : List (Nat × Operand)) : buildA Try.prog st 48 parts = if (parts.all fun p => (st.ev p.2).stor) = true then (fillA (fun i => ([(0, 33), (33, 33)] : List (Nat × Nat))[i]?) (cPulled zPulled) (parts.map fun p => (p.1, st.ev p.2))).map .agg else none := build_of (z := vPulled) (by kernel_rfl) vPulled_c (placeTab_eq (by kernel_rfl))
theorem ld52 (cs : List AV) (o : Nat) (h : 238 ≤ cs.length - o) : ldAt Try.prog 52 cs o = some (.agg (rd cs o 238)) := by
  have : ldInfo Try.prog 52 = some (true, 238) := by kernel_rfl
  simp [ldAt, this, h]
theorem lk52 : ldK Try.prog 52 = some 238 := by kernel_rfl
theorem fo52_0 : fieldOff Try.prog 52 0 = some 0 := by kernel_rfl
theorem fo52_1 : fieldOff Try.prog 52 1 = some 66 := by kernel_rfl
theorem fo52_2 : fieldOff Try.prog 52 2 = some 67 := by kernel_rfl
theorem fo52_3 : fieldOff Try.prog 52 3 = some 99 := by kernel_rfl
theorem fo52_4 : fieldOff Try.prog 52 4 = some 131 := by kernel_rfl
theorem fo52_5 : fieldOff Try.prog 52 5 = some 163 := by kernel_rfl
theorem fo52_6 : fieldOff Try.prog 52 6 = some 167 := by kernel_rfl
theorem fo52_7 : fieldOff Try.prog 52 7 = some 171 := by kernel_rfl
theorem fo52_8 : fieldOff Try.prog 52 8 = some 204 := by kernel_rfl
theorem fo52_9 : fieldOff Try.prog 52 9 = some 237 := by kernel_rfl
theorem ze52 : zeroL Try.prog 52 = some vBlock := by kernel_rfl
theorem eq52 (a b : Block) : eqAgg Try.prog 52 (cBlock a) (cBlock b) = some (decide (a = b)) := eqAgg_of (l := lBlock) (by kernel_rfl) (by kernel_rfl) (by kernel_rfl) (leafy_Block a b) (cBlock_inj a b)
theorem be52 (a b : Block) : binA Try.prog .eql 52 (.agg (cBlock a)) (.agg (cBlock b)) = some (.v (.bool (decide (a = b)))) := by simp only [binA, eq52, Option.map_some]
theorem bn52 (a b : Block) : binA Try.prog .neq 52 (.agg (cBlock a)) (.agg (cBlock b)) = some (.v (.bool (!(decide (a = b))))) := by simp only [binA, eq52, Option.map_some]
theorem bu52 (st : St) (parts : List (Nat × Operand)) : buildA Try.prog st 52 parts = if (parts.all fun p => (st.ev p.2).stor) = true then (fillA (fun i => ([(0, 66), (66, 1), (67, 32), (99, 32), (131, 32), (163, 4), (167, 4), (171, 33), (204, 33), (237, 1)] : List (Nat × Nat))[i]?) (cBlock zBlock) (parts.map fun p => (p.1, st.ev p.2))).map .agg else none := build_of (z := vBlock) (by kernel_rfl) vBlock_c (placeTab_eq (by kernel_rfl))
theorem ld54 (cs : List AV) (o : Nat) (h : 240 ≤ cs.length - o) : ldAt Try.prog 54 cs o = some (.agg (rd cs o 240)) := by
  have : ldInfo Try.prog 54 = some (true, 240) := by kernel_rfl
  simp [ldAt, this, h]
theorem lk54 : ldK Try.prog 54 = some 240 := by kernel_rfl
theorem fo54_0 : fieldOff Try.prog 54 0 = some 0 := by kernel_rfl
theorem fo54_1 : fieldOff Try.prog 54 1 = some 238 := by kernel_rfl
theorem fo54_2 : fieldOff Try.prog 54 2 = some 239 := by kernel_rfl
theorem ze54 : zeroL Try.prog 54 = some vNode := by kernel_rfl
theorem eq54 (a b : Node) : eqAgg Try.prog 54 (cNode a) (cNode b) = some (decide (a = b)) := eqAgg_of (l := lNode) (by kernel_rfl) (by kernel_rfl) (by kernel_rfl) (leafy_Node a b) (cNode_inj a b)
theorem be54 (a b : Node) : binA Try.prog .eql 54 (.agg (cNode a)) (.agg (cNode b)) = some (.v (.bool (decide (a = b)))) := by simp only [binA, eq54, Option.map_some]
theorem bn54 (a b : Node) : binA Try.prog .neq 54 (.agg (cNode a)) (.agg (cNode b)) = some (.v (.bool (!(decide (a = b))))) := by simp only [binA, eq54, Option.map_some]
theorem bu54 (st : St) (parts : List (Nat × Operand)) : buildA Try.prog st 54 parts = if (parts.all fun p => (st.ev p.2).stor) = true then (fillA (fun i => ([(0, 238), (238, 1), (239, 1)] : List (Nat × Nat))[i]?) (cNode zNode) (parts.map fun p => (p.1, st.ev p.2))).map .agg else none := build_of (z := vNode) (by kernel_rfl) vNode_c (placeTab_eq (by kernel_rfl))
theorem ld25 (cs : List AV) (o : Nat) (h : 1 ≤ cs.length - o) : ldAt Try.prog 25 cs o = some (.agg (rd cs o 1)) := by
  have : ldInfo Try.prog 25 = some (true, 1) := by kernel_rfl
  simp [ldAt, this, h]
theorem lk25 : ldK Try.prog 25 = some 1 := by kernel_rfl
theorem fo25_0 : fieldOff Try.prog 25 0 = some 0 := by kernel_rfl
theorem ze25 : zeroL Try.prog 25 = some [.slice none 0 0] := by kernel_rfl
theorem bu25 (st : St) (parts : List (Nat × Operand)) : buildA Try.prog st 25 parts = if (parts.all fun p => (st.ev p.2).stor) = true then (fillA (fun i => ([(0, 1)] : List (Nat × Nat))[i]?) [.v (.slice none 0 0)] (parts.map fun p => (p.1, st.ev p.2))).map .agg else none := build_of (z := [.slice none 0 0]) (by kernel_rfl) rfl (placeTab_eq (by kernel_rfl))
theorem sl22 : slInfo Try.prog 22 = some (3, 1, 8) := by kernel_rfl
theorem na22 : arrInfo Try.prog 22 = none := by kernel_rfl
theorem ld22 (cs : List AV) (o : Nat) : ldAt Try.prog 22 cs o = cs[o]? := by
  have : ldInfo Try.prog 22 = some (false, 1) := by kernel_rfl
  simp only [ldAt, this]
theorem lk22 : ldK Try.prog 22 = some 1 := by kernel_rfl
theorem ze22 : zeroL Try.prog 22 = some [.slice none 0 0] := by kernel_rfl
theorem ns22 (n : Nat) (cs : List AV) (h : cs ≠ []) : binA Try.prog .eql 22 (.sl n cs) (.v (.slice none 0 0)) = some (.v (.bool false)) := by
  have : Try.prog.underlying 22 = some (.slice 3) := by kernel_rfl
  cases cs with
  | nil => exact absurd rfl h
  | cons c cs => simp [binA, nilCmp, this]
theorem nn22 : binA Try.prog .eql 22 (.v (.slice none 0 0)) (.v (.slice none 0 0)) = some (.v (.bool true)) := by
  have : Try.prog.underlying 22 = some (.slice 3) := by kernel_rfl
  simp [binA, nilCmp, this]
theorem sl23 : slInfo Try.prog 23 = some (54, 240, 352) := by kernel_rfl
theorem na23 : arrInfo Try.prog 23 = none := by kernel_rfl
theorem ld23 (cs : List AV) (o : Nat) : ldAt Try.prog 23 cs o = cs[o]? := by
  have : ldInfo Try.prog 23 = some (false, 1) := by kernel_rfl
  simp only [ldAt, this]
theorem lk23 : ldK Try.prog 23 = some 1 := by kernel_rfl
theorem ze23 : zeroL Try.prog 23 = some [.slice none 0 0] := by kernel_rfl
theorem ns23 (n : Nat) (cs : List AV) (h : cs ≠ []) : binA Try.prog .eql 23 (.sl n cs) (.v (.slice none 0 0)) = some (.v (.bool false)) := by
  have : Try.prog.underlying 23 = some (.slice 54) := by kernel_rfl
  cases cs with
  | nil => exact absurd rfl h
  | cons c cs => simp [binA, nilCmp, this]
theorem nn23 : binA Try.prog .eql 23 (.v (.slice none 0 0)) (.v (.slice none 0 0)) = some (.v (.bool true)) := by
  have : Try.prog.underlying 23 = some (.slice 54) := by kernel_rfl
  simp [binA, nilCmp, this]
theorem sl36 : slInfo Try.prog 36 = some (38, 1, 8) := by kernel_rfl
theorem na36 : arrInfo Try.prog 36 = none := by kernel_rfl
theorem ld36 (cs : List AV) (o : Nat) : ldAt Try.prog 36 cs o = cs[o]? := by
  have : ldInfo Try.prog 36 = some (false, 1) := by kernel_rfl
  simp only [ldAt, this]
theorem lk36 : ldK Try.prog 36 = some 1 := by kernel_rfl
theorem ze36 : zeroL Try.prog 36 = some [.slice none 0 0] := by kernel_rfl
theorem ns36 (n : Nat) (cs : List AV) (h : cs ≠ []) : binA Try.prog .eql 36 (.sl n cs) (.v (.slice none 0 0)) = some (.v (.bool false)) := by
  have : Try.prog.underlying 36 = some (.slice 38) := by kernel_rfl
  cases cs with
  | nil => exact absurd rfl h
  | cons c cs => simp [binA, nilCmp, this]
theorem nn36 : binA Try.prog .eql 36 (.v (.slice none 0 0)) (.v (.slice none 0 0)) = some (.v (.bool true)) := by
  have : Try.prog.underlying 36 = some (.slice 38) := by kernel_rfl
  simp [binA, nilCmp, this]
theorem sl93 : slInfo Try.prog 93 = some (4, 1, 1) := by kernel_rfl
theorem na93 : arrInfo Try.prog 93 = none := by kernel_rfl
theorem ld93 (cs : List AV) (o : Nat) : ldAt Try.prog 93 cs o = cs[o]? := by
  have : ldInfo Try.prog 93 = some (false, 1) := by kernel_rfl
  simp only [ldAt, this]
theorem lk93 : ldK Try.prog 93 = some 1 := by kernel_rfl
theorem ze93 : zeroL Try.prog 93 = some [.slice none 0 0] := by kernel_rfl
theorem ns93 (n : Nat) (cs : List AV) (h : cs ≠ []) : binA Try.prog .eql 93 (.sl n cs) (.v (.slice none 0 0)) = some (.v (.bool false)) := by
  have : Try.prog.underlying 93 = some (.slice 4) := by kernel_rfl
  cases cs with
  | nil => exact absurd rfl h
  | cons c cs => simp [binA, nilCmp, this]
theorem nn93 : binA Try.prog .eql 93 (.v (.slice none 0 0)) (.v (.slice none 0 0)) = some (.v (.bool true)) := by
  have : Try.prog.underlying 93 = some (.slice 4) := by kernel_rfl
  simp [binA, nilCmp, this]
theorem an22 (st : St) (x : AV) : appendA Try.prog st 22 (.v (.slice none 0 0)) x = anE 3 1 8 (sliceView st x) := app_nil sl22 x
theorem ao22 (st : St) (s g : Nat) (x : AV) : appendA Try.prog st 22 (.own s g) x = aoE 3 1 8 (st.heap s g) s g (sliceView st x) := app_own sl22 s g x
theorem ac22 (st : St) (n : Nat) (cs : List AV) (x : AV) : appendA Try.prog st 22 (.cl n cs) x = acE 3 1 8 n cs (sliceView st x) := app_cl sl22 n cs x
theorem io22 (st : St) (s g : Nat) (kk : IntKind) (i : Int) : indexAddrA Try.prog st 22 (.own s g) (.v (.int kk i)) = ioE 3 1 (st.heap s g) s g i := idx_own na22 sl22 s g kk i
theorem b022 {call : Nat → List AV → Option AV} {ops : Array Oper} {st : St} {T : Nat} {pos : String} {aft : Array Edge} (d : Nat) : evOp Try.prog call ops ⟨some d, .buildSlice 22 0 #[], T, pos, aft, none⟩ st = some ((st.new d (.row 3 1 0 [])).put (some d) (.own d (st.cnt d))) := ev_bs0 sl22 ze3 d
theorem b122 {call : Nat → List AV → Option AV} {ops : Array Oper} {st : St} {T : Nat} {pos : String} {aft : Array Edge} (d : Nat) (x : Operand) : evOp Try.prog call ops ⟨some d, .buildSlice 22 1 #[(0, x)], T, pos, aft, none⟩ st = elV (st.ev x) (fun y => some ((st.new d (.row 3 1 1 [.v y])).put (some d) (.own d (st.cnt d)))) (evOp Try.prog call ops ⟨some d, .buildSlice 22 1 #[(0, x)], T, pos, aft, none⟩ st) := ev_bs1E sl22 ze3 d x
theorem an23 (st : St) (x : AV) : appendA Try.prog st 23 (.v (.slice none 0 0)) x = anE 54 240 352 (sliceView st x) := app_nil sl23 x
theorem ao23 (st : St) (s g : Nat) (x : AV) : appendA Try.prog st 23 (.own s g) x = aoE 54 240 352 (st.heap s g) s g (sliceView st x) := app_own sl23 s g x
theorem ac23 (st : St) (n : Nat) (cs : List AV) (x : AV) : appendA Try.prog st 23 (.cl n cs) x = acE 54 240 352 n cs (sliceView st x) := app_cl sl23 n cs x
theorem io23 (st : St) (s g : Nat) (kk : IntKind) (i : Int) : indexAddrA Try.prog st 23 (.own s g) (.v (.int kk i)) = ioE 54 240 (st.heap s g) s g i := idx_own na23 sl23 s g kk i
theorem b023 {call : Nat → List AV → Option AV} {ops : Array Oper} {st : St} {T : Nat} {pos : String} {aft : Array Edge} (d : Nat) : evOp Try.prog call ops ⟨some d, .buildSlice 23 0 #[], T, pos, aft, none⟩ st = some ((st.new d (.row 54 240 0 [])).put (some d) (.own d (st.cnt d))) := ev_bs0 sl23 ze54 d
theorem b123 {call : Nat → List AV → Option AV} {ops : Array Oper} {st : St} {T : Nat} {pos : String} {aft : Array Edge} (d : Nat) (x : Operand) : evOp Try.prog call ops ⟨some d, .buildSlice 23 1 #[(0, x)], T, pos, aft, none⟩ st = elA 240 (st.ev x) (fun cs => some ((st.new d (.row 54 240 1 cs)).put (some d) (.own d (st.cnt d)))) (evOp Try.prog call ops ⟨some d, .buildSlice 23 1 #[(0, x)], T, pos, aft, none⟩ st) := ev_bsAE sl23 ze54 (by rfl) (by decide) d x
theorem an36 (st : St) (x : AV) : appendA Try.prog st 36 (.v (.slice none 0 0)) x = anE 38 1 8 (sliceView st x) := app_nil sl36 x
theorem ao36 (st : St) (s g : Nat) (x : AV) : appendA Try.prog st 36 (.own s g) x = aoE 38 1 8 (st.heap s g) s g (sliceView st x) := app_own sl36 s g x
theorem ac36 (st : St) (n : Nat) (cs : List AV) (x : AV) : appendA Try.prog st 36 (.cl n cs) x = acE 38 1 8 n cs (sliceView st x) := app_cl sl36 n cs x
theorem io36 (st : St) (s g : Nat) (kk : IntKind) (i : Int) : indexAddrA Try.prog st 36 (.own s g) (.v (.int kk i)) = ioE 38 1 (st.heap s g) s g i := idx_own na36 sl36 s g kk i
theorem b036 {call : Nat → List AV → Option AV} {ops : Array Oper} {st : St} {T : Nat} {pos : String} {aft : Array Edge} (d : Nat) : evOp Try.prog call ops ⟨some d, .buildSlice 36 0 #[], T, pos, aft, none⟩ st = some ((st.new d (.row 38 1 0 [])).put (some d) (.own d (st.cnt d))) := ev_bs0 sl36 ze38 d
theorem b136 {call : Nat → List AV → Option AV} {ops : Array Oper} {st : St} {T : Nat} {pos : String} {aft : Array Edge} (d : Nat) (x : Operand) : evOp Try.prog call ops ⟨some d, .buildSlice 36 1 #[(0, x)], T, pos, aft, none⟩ st = elV (st.ev x) (fun y => some ((st.new d (.row 38 1 1 [.v y])).put (some d) (.own d (st.cnt d)))) (evOp Try.prog call ops ⟨some d, .buildSlice 36 1 #[(0, x)], T, pos, aft, none⟩ st) := ev_bs1E sl36 ze38 d x
theorem an93 (st : St) (x : AV) : appendA Try.prog st 93 (.v (.slice none 0 0)) x = anE 4 1 1 (sliceView st x) := app_nil sl93 x
theorem ao93 (st : St) (s g : Nat) (x : AV) : appendA Try.prog st 93 (.own s g) x = aoE 4 1 1 (st.heap s g) s g (sliceView st x) := app_own sl93 s g x
theorem ac93 (st : St) (n : Nat) (cs : List AV) (x : AV) : appendA Try.prog st 93 (.cl n cs) x = acE 4 1 1 n cs (sliceView st x) := app_cl sl93 n cs x
theorem io93 (st : St) (s g : Nat) (kk : IntKind) (i : Int) : indexAddrA Try.prog st 93 (.own s g) (.v (.int kk i)) = ioE 4 1 (st.heap s g) s g i := idx_own na93 sl93 s g kk i
theorem b093 {call : Nat → List AV → Option AV} {ops : Array Oper} {st : St} {T : Nat} {pos : String} {aft : Array Edge} (d : Nat) : evOp Try.prog call ops ⟨some d, .buildSlice 93 0 #[], T, pos, aft, none⟩ st = some ((st.new d (.row 4 1 0 [])).put (some d) (.own d (st.cnt d))) := ev_bs0 sl93 ze4 d
theorem b193 {call : Nat → List AV → Option AV} {ops : Array Oper} {st : St} {T : Nat} {pos : String} {aft : Array Edge} (d : Nat) (x : Operand) : evOp Try.prog call ops ⟨some d, .buildSlice 93 1 #[(0, x)], T, pos, aft, none⟩ st = elV (st.ev x) (fun y => some ((st.new d (.row 4 1 1 [.v y])).put (some d) (.own d (st.cnt d)))) (evOp Try.prog call ops ⟨some d, .buildSlice 93 1 #[(0, x)], T, pos, aft, none⟩ st) := ev_bs1E sl93 ze4 d x
theorem ok3 : fnOk Try.f3 = true := by kernel_rfl
theorem ok4 : fnOk Try.f4 = true := by kernel_rfl
theorem ok5 : fnOk Try.f5 = true := by kernel_rfl
theorem ok6 : fnOk Try.f6 = true := by kernel_rfl
theorem ok7 : fnOk Try.f7 = true := by kernel_rfl
theorem ok8 : fnOk Try.f8 = true := by kernel_rfl
theorem ok9 : fnOk Try.f9 = true := by kernel_rfl
theorem ok10 : fnOk Try.f10 = true := by kernel_rfl
theorem ok11 : fnOk Try.f11 = true := by kernel_rfl
theorem ok12 : fnOk Try.f12 = true := by kernel_rfl
theorem ok13 : fnOk Try.f13 = true := by kernel_rfl
theorem ok14 : fnOk Try.f14 = true := by kernel_rfl
theorem ok15 : fnOk Try.f15 = true := by kernel_rfl
theorem ok16 : fnOk Try.f16 = true := by kernel_rfl
theorem ok17 : fnOk Try.f17 = true := by kernel_rfl
theorem ok18 : fnOk Try.f18 = true := by kernel_rfl
theorem ok19 : fnOk Try.f19 = true := by kernel_rfl
theorem ok20 : fnOk Try.f20 = true := by kernel_rfl
theorem ok21 : fnOk Try.f21 = true := by kernel_rfl
theorem ok22 : fnOk Try.f22 = true := by kernel_rfl
theorem ok23 : fnOk Try.f23 = true := by kernel_rfl
theorem ok24 : fnOk Try.f24 = true := by kernel_rfl
theorem ok25 : fnOk Try.f25 = true := by kernel_rfl
theorem ok26 : fnOk Try.f26 = true := by kernel_rfl
theorem ok27 : fnOk Try.f27 = true := by kernel_rfl
theorem ok28 : fnOk Try.f28 = true := by kernel_rfl
theorem ok29 : fnOk Try.f29 = true := by kernel_rfl
theorem ok30 : fnOk Try.f30 = true := by kernel_rfl
theorem ok31 : fnOk Try.f31 = true := by kernel_rfl
theorem ok32 : fnOk Try.f32 = true := by kernel_rfl
theorem ok33 : fnOk Try.f33 = true := by kernel_rfl
theorem ok34 : fnOk Try.f34 = true := by kernel_rfl
theorem ok35 : fnOk Try.f35 = true := by kernel_rfl
theorem ok36 : fnOk Try.f36 = true := by kernel_rfl
theorem ok37 : fnOk Try.f37 = true := by kernel_rfl
theorem ok38 : fnOk Try.f38 = true := by kernel_rfl
theorem ok39 : fnOk Try.f39 = true := by kernel_rfl
theorem ok40 : fnOk Try.f40 = true := by kernel_rfl
theorem ok41 : fnOk Try.f41 = true := by kernel_rfl
theorem ok42 : fnOk Try.f42 = true := by kernel_rfl
theorem ok43 : fnOk Try.f43 = true := by kernel_rfl
theorem ok44 : fnOk Try.f44 = true := by kernel_rfl
theorem ok45 : fnOk Try.f45 = true := by kernel_rfl
theorem ok46 : fnOk Try.f46 = true := by kernel_rfl
theorem ok47 : fnOk Try.f47 = true := by kernel_rfl
theorem ok48 : fnOk Try.f48 = true := by kernel_rfl
theorem ok49 : fnOk Try.f49 = true := by kernel_rfl
theorem ok50 : fnOk Try.f50 = true := by kernel_rfl
theorem ok51 : fnOk Try.f51 = true := by kernel_rfl
theorem ok52 : fnOk Try.f52 = true := by kernel_rfl
theorem ok53 : fnOk Try.f53 = true := by kernel_rfl
theorem ok54 : fnOk Try.f54 = true := by kernel_rfl
theorem ok55 : fnOk Try.f55 = true := by kernel_rfl
theorem ok56 : fnOk Try.f56 = true := by kernel_rfl
theorem ok57 : fnOk Try.f57 = true := by kernel_rfl
theorem ok58 : fnOk Try.f58 = true := by kernel_rfl
theorem ok59 : fnOk Try.f59 = true := by kernel_rfl
theorem ok60 : fnOk Try.f60 = true := by kernel_rfl
theorem ok61 : fnOk Try.f61 = true := by kernel_rfl
theorem ok62 : fnOk Try.f62 = true := by kernel_rfl
theorem ok63 : fnOk Try.f63 = true := by kernel_rfl
theorem ok64 : fnOk Try.f64 = true := by kernel_rfl
theorem ok65 : fnOk Try.f65 = true := by kernel_rfl
theorem ok66 : fnOk Try.f66 = true := by kernel_rfl
theorem ok67 : fnOk Try.f67 = true := by kernel_rfl
theorem ok68 : fnOk Try.f68 = true := by kernel_rfl
theorem ok69 : fnOk Try.f69 = true := by kernel_rfl
theorem ok70 : fnOk Try.f70 = true := by kernel_rfl
theorem ok71 : fnOk Try.f71 = true := by kernel_rfl
theorem ok72 : fnOk Try.f72 = true := by kernel_rfl
theorem ok73 : fnOk Try.f73 = true := by kernel_rfl
theorem ok74 : fnOk Try.f74 = true := by kernel_rfl
theorem ok75 : fnOk Try.f75 = true := by kernel_rfl
theorem ok76 : fnOk Try.f76 = true := by kernel_rfl
theorem ok77 : fnOk Try.f77 = true := by kernel_rfl
theorem ok78 : fnOk Try.f78 = true := by kernel_rfl
theorem ok79 : fnOk Try.f79 = true := by kernel_rfl
theorem ok80 : fnOk Try.f80 = true := by kernel_rfl
theorem ok81 : fnOk Try.f81 = true := by kernel_rfl
theorem ok82 : fnOk Try.f82 = true := by kernel_rfl
theorem ok83 : fnOk Try.f83 = true := by kernel_rfl
theorem ok84 : fnOk Try.f84 = true := by kernel_rfl
theorem ok85 : fnOk Try.f85 = true := by kernel_rfl
theorem ok86 : fnOk Try.f86 = true := by kernel_rfl
theorem ok87 : fnOk Try.f87 = true := by kernel_rfl
theorem ok88 : fnOk Try.f88 = true := by kernel_rfl
theorem ok89 : fnOk Try.f89 = true := by kernel_rfl
theorem ok90 : fnOk Try.f90 = true := by kernel_rfl
theorem ok91 : fnOk Try.f91 = true := by kernel_rfl
theorem ok92 : fnOk Try.f92 = true := by kernel_rfl
theorem ok93 : fnOk Try.f93 = true := by kernel_rfl
theorem ok94 : fnOk Try.f94 = true := by kernel_rfl
theorem ok95 : fnOk Try.f95 = true := by kernel_rfl
theorem ok96 : fnOk Try.f96 = true := by kernel_rfl
theorem ok97 : fnOk Try.f97 = true := by kernel_rfl
theorem ok98 : fnOk Try.f98 = true := by kernel_rfl
theorem ok99 : fnOk Try.f99 = true := by kernel_rfl
theorem ok100 : fnOk Try.f100 = true := by kernel_rfl
theorem ok101 : fnOk Try.f101 = true := by kernel_rfl
theorem ok102 : fnOk Try.f102 = true := by kernel_rfl
theorem ok103 : fnOk Try.f103 = true := by kernel_rfl
theorem ok104 : fnOk Try.f104 = true := by kernel_rfl
theorem ok105 : fnOk Try.f105 = true := by kernel_rfl
theorem ok106 : fnOk Try.f106 = true := by kernel_rfl
end Go.Ab.Try
