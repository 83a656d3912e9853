/-
  Part Ab27 of the proof: an evaluator of the programs written in Lean once, and its soundness.
-/
import Derived.Test.YtdmpbhjcdnclbaaAb26
set_option linter.all false
set_option linter.unusedVariables false
set_option linter.unusedSimpArgs false
namespace Go.Ab
open Classical
variable [Ext]
/-- Code is left at a state of which only so much is kept. -/
theorem use_midL {P : Program} {a : Code} {st : St} {β : Type} {k : Ex × St → Option β} {R : β → Prop} (Q : St → Prop) (h : ∃ st', evL P a st = some (.normal, st') ∧ Q st')
    (rest : ∀ st', Q st' → ∃ r, k (.normal, st') = some r ∧ R r) : ∃ r, bnd (evL P a st) k = some r ∧ R r := by
  obtain ⟨s1, h1, h2⟩ := h
  rw [h1]; exact rest s1 h2
theorem use_midG {P : Program} {bi : Bool} {a : Code} {st : St} {β : Type} {k : Ex × St → Option β} {R : β → Prop} (Q : St → Prop) (h : ∃ st', evG P bi a st = some (.normal, st') ∧ Q st')
    (rest : ∀ st', Q st' → ∃ r, k (.normal, st') = some r ∧ R r) : ∃ r, bnd (evG P bi a st) k = some r ∧ R r := by
  obtain ⟨s1, h1, h2⟩ := h
  rw [h1]; exact rest s1 h2
/-- The same, with the ways out. -/
theorem use_midX {P : Program} {a : Code} {st : St} {β : Type} {k : Ex × St → Option β} {R : β → Prop} (Q : Ex → St → Prop) (h : ∃ e st', evL P a st = some (e, st') ∧ Q e st')
    (rest : ∀ e st', Q e st' → ∃ r, k (e, st') = some r ∧ R r) : ∃ r, bnd (evL P a st) k = some r ∧ R r := by
  obtain ⟨e, s1, h1, h2⟩ := h
  rw [h1]; exact rest e s1 h2
theorem use_midGX {P : Program} {bi : Bool} {a : Code} {st : St} {β : Type} {k : Ex × St → Option β} {R : β → Prop} (Q : Ex → St → Prop) (h : ∃ e st', evG P bi a st = some (e, st') ∧ Q e st')
    (rest : ∀ e st', Q e st' → ∃ r, k (e, st') = some r ∧ R r) : ∃ r, bnd (evG P bi a st) k = some r ∧ R r := by
  obtain ⟨e, s1, h1, h2⟩ := h
  rw [h1]; exact rest e s1 h2
theorem ex_eq {β : Type} {x : Option β} {v : β} (h : ∃ r, x = some r ∧ r = v) : x = some v := by
  obtain ⟨r, h, rfl⟩ := h; exact h
theorem ex_intro {β : Type} {x : Option β} {R : β → Prop} {v : β} (h : x = some v) (hr : R v) : ∃ r, x = some r ∧ R r := ⟨v, h, hr⟩
theorem evG_regionX {P : Program} {id : Nat} {ops : Array Oper} {d : Bool} {st : St} :
    evG P true (.region id ops d) st = bnd (evOpsI P true (callL P) (inlL P) ops ops.toList st) fun s => if SwapsOk ops s (Ext.dyn id ops.size (firstDst ops)) then some (.normal, s) else none := evG_regionD rfl
theorem firstDst_l (o : Oper) (l : List Oper) : firstDst (o :: l).toArray = o.dst := by simp [firstDst]
section
variable {P : Program} {call : Nat → List AV → Option AV} {inl : Nat → List AV → St → Option (AV × St)} {ops : Array Oper} {st : St} {d : Option Nat} {T : Nat} {pos : String} {aft : Array Edge} {g : Option (Nat × Bool)}
theorem oi_move (x : Operand) : evOpI P true call inl ops ⟨d, .move x, T, pos, aft, g⟩ st = evOp P call ops ⟨d, .move x, T, pos, aft, g⟩ st := rfl
theorem oi_assign (x : Operand) : evOpI P true call inl ops ⟨d, .assign x, T, pos, aft, g⟩ st = evOp P call ops ⟨d, .assign x, T, pos, aft, g⟩ st := rfl
theorem oi_pick (x y z : Operand) : evOpI P true call inl ops ⟨d, .pick x y z, T, pos, aft, g⟩ st = evOp P call ops ⟨d, .pick x y z, T, pos, aft, g⟩ st := rfl
theorem oi_alloc (S : Nat) : evOpI P true call inl ops ⟨d, .alloc S, T, pos, aft, g⟩ st = evOp P call ops ⟨d, .alloc S, T, pos, aft, g⟩ st := rfl
theorem oi_box (S : Nat) (x : Operand) : evOpI P true call inl ops ⟨d, .box S x, T, pos, aft, g⟩ st = evOp P call ops ⟨d, .box S x, T, pos, aft, g⟩ st := rfl
theorem oi_build (S : Nat) (x : Array (Nat × Operand)) : evOpI P true call inl ops ⟨d, .build S x, T, pos, aft, g⟩ st = evOp P call ops ⟨d, .build S x, T, pos, aft, g⟩ st := rfl
theorem oi_buildSlice (S n : Nat) (x : Array (Nat × Operand)) : evOpI P true call inl ops ⟨d, .buildSlice S n x, T, pos, aft, g⟩ st = evOp P call ops ⟨d, .buildSlice S n x, T, pos, aft, g⟩ st := rfl
theorem oi_makeSlice (S : Nat) (x y : Operand) : evOpI P true call inl ops ⟨d, .makeSlice S x y, T, pos, aft, g⟩ st = evOp P call ops ⟨d, .makeSlice S x y, T, pos, aft, g⟩ st := rfl
theorem oi_makeFunc (f : Fn) (x y : Array Operand) : evOpI P true call inl ops ⟨d, .makeFunc f x y, T, pos, aft, g⟩ st = evOp P call ops ⟨d, .makeFunc f x y, T, pos, aft, g⟩ st := rfl
theorem oi_load (S : Nat) (x : Operand) : evOpI P true call inl ops ⟨d, .load S x, T, pos, aft, g⟩ st = evOp P call ops ⟨d, .load S x, T, pos, aft, g⟩ st := rfl
theorem oi_store (S : Nat) (x y : Operand) : evOpI P true call inl ops ⟨d, .store S x y, T, pos, aft, g⟩ st = evOp P call ops ⟨d, .store S x y, T, pos, aft, g⟩ st := rfl
theorem oi_binOp (o : BinOp) (S S' : Nat) (x y : Operand) : evOpI P true call inl ops ⟨d, .binOp o S x y S', T, pos, aft, g⟩ st = evOp P call ops ⟨d, .binOp o S x y S', T, pos, aft, g⟩ st := rfl
theorem oi_unOp (o : UnOp) (S : Nat) (x : Operand) : evOpI P true call inl ops ⟨d, .unOp o S x, T, pos, aft, g⟩ st = evOp P call ops ⟨d, .unOp o S x, T, pos, aft, g⟩ st := rfl
theorem oi_fieldAddr (S f : Nat) (x : Operand) : evOpI P true call inl ops ⟨d, .fieldAddr S x f, T, pos, aft, g⟩ st = evOp P call ops ⟨d, .fieldAddr S x f, T, pos, aft, g⟩ st := rfl
theorem oi_field (S f : Nat) (x : Operand) : evOpI P true call inl ops ⟨d, .field S x f, T, pos, aft, g⟩ st = evOp P call ops ⟨d, .field S x f, T, pos, aft, g⟩ st := rfl
theorem oi_indexAddr (S : Nat) (x y : Operand) : evOpI P true call inl ops ⟨d, .indexAddr S x y, T, pos, aft, g⟩ st = evOp P call ops ⟨d, .indexAddr S x y, T, pos, aft, g⟩ st := rfl
theorem oi_convert (S S' : Nat) (x : Operand) : evOpI P true call inl ops ⟨d, .convert S S' x, T, pos, aft, g⟩ st = evOp P call ops ⟨d, .convert S S' x, T, pos, aft, g⟩ st := rfl
theorem oi_extract (x : Operand) (i : Nat) : evOpI P true call inl ops ⟨d, .extract x i, T, pos, aft, g⟩ st = evOp P call ops ⟨d, .extract x i, T, pos, aft, g⟩ st := rfl
theorem oi_slice (S : Nat) (x : Operand) (a b c : Option Operand) : evOpI P true call inl ops ⟨d, .slice S x a b c, T, pos, aft, g⟩ st = evOp P call ops ⟨d, .slice S x a b c, T, pos, aft, g⟩ st := rfl
theorem oi_builtin (b : Builtin) (x : Array Operand) (y : Array Nat) : evOpI P true call inl ops ⟨d, .call ⟨.builtin b, x, y⟩, T, pos, aft, g⟩ st = evOp P call ops ⟨d, .call ⟨.builtin b, x, y⟩, T, pos, aft, g⟩ st := rfl
theorem oi_tmp (t : Nat) (x : Array Operand) (y : Array Nat) : evOpI P true call inl ops ⟨d, .call ⟨.value (.tmp t), x, y⟩, T, pos, aft, g⟩ st = evOp P call ops ⟨d, .call ⟨.value (.tmp t), x, y⟩, T, pos, aft, g⟩ st := rfl
theorem oi_call (f : Nat) (x : Array Operand) (y : Array Nat) (h : Ext.inl f d = false) : evOpI P true call inl ops ⟨d, .call ⟨.value (.func f), x, y⟩, T, pos, aft, g⟩ st = evOp P call ops ⟨d, .call ⟨.value (.func f), x, y⟩, T, pos, aft, g⟩ st := evOpI_op (by unfold isInl; simp [h])
theorem oi_inl (f : Nat) (x : Array Operand) (y : Array Nat) (h : Ext.inl f d = true) : evOpI P true call inl ops ⟨d, .call ⟨.value (.func f), x, y⟩, T, pos, aft, none⟩ st = bnd (inl f (x.toList.map st.ev) st) fun r => some ((st.back r.2).put d r.1) := evOpI_inl h
theorem kr_load (S a : Nat) : keyRegs ⟨d, .load S (.tmp a), T, pos, aft, none⟩ = some [a] := rfl
theorem kr_store (S a : Nat) (x : Operand) : keyRegs ⟨d, .store S (.tmp a) x, T, pos, aft, none⟩ = some [a] := rfl
theorem kr_index (S a : Nat) (x : Operand) : keyRegs ⟨d, .indexAddr S (.tmp a) x, T, pos, aft, none⟩ = some [a] := rfl
theorem kr_slice (S a : Nat) (x y z : Option Operand) : keyRegs ⟨d, .slice S (.tmp a) x y z, T, pos, aft, none⟩ = some [a] := rfl
theorem kr_len (a : Nat) (y : Array Nat) : keyRegs ⟨d, .call ⟨.builtin .len, #[.tmp a], y⟩, T, pos, aft, none⟩ = some [a] := rfl
theorem kr_append (a b : Nat) (y : Array Nat) : keyRegs ⟨d, .call ⟨.builtin .append, #[.tmp a, .tmp b], y⟩, T, pos, aft, none⟩ = some [a, b] := rfl
theorem kr_call1 (f a : Nat) (y : Array Nat) (h : Ext.mv f = true) : keyRegs ⟨d, .call ⟨.value (.func f), #[.tmp a], y⟩, T, pos, aft, none⟩ = some [a] := by simp [keyRegs, h]
theorem kr_call2 (f a : Nat) (b : Operand) (y : Array Nat) (h : Ext.mv f = true) : keyRegs ⟨d, .call ⟨.value (.func f), #[.tmp a, b], y⟩, T, pos, aft, none⟩ = some [a] := by simp [keyRegs, h]
end
end Go.Ab
