/-
  Part Ab24 of the proof: an evaluator of the programs written in Lean once, and its soundness.
-/
import Derived.Test.YtgpkmepalmdmeaaX4
set_option linter.all false
set_option linter.unusedVariables false
set_option linter.unusedSimpArgs false
namespace Go.Ab
open Classical
/-- The definitions that a step unfolds, as equations. -/
theorem una_not (b : Bool) : unA .not (.v (.bool b)) = some (.v (.bool (!b))) := rfl
theorem una_neg (k : IntKind) (n : Int) : unA .neg (.v (.int k n)) = some (.v (.int k (k.wrap (0 - n)))) := rfl
theorem una_xor (k : IntKind) (n : Int) : unA .xor (.v (.int k n)) = some (.v (.int k (k.wrap (BitVec.ofInt k.bits (if k.signed then -1 else k.max) ^^^ BitVec.ofInt k.bits n).toNat))) := rfl
def convK (a b : Option IntKind) (n : Int) : Option AV :=
  match a, b with
  | some k, some _ => some (.v (.int k (k.wrap n)))
  | _, _ => none
theorem convK_some (k k' : IntKind) (n : Int) : convK (some k) (some k') n = some (.v (.int k (k.wrap n))) := rfl
theorem convA_int (P : Program) (s d : Nat) (k : IntKind) (n : Int) : convA P s d (.v (.int k n)) = convK (intKind P d) (intKind P s) n := by
  simp only [convA, convK]
  cases intKind P d with
  | none => rfl
  | some a => cases intKind P s <;> rfl
theorem add_ptr (s g o k : Nat) : addOff (.ptr s g o) k = some (.ptr s g (o + k)) := rfl
theorem add_ip (cs : List AV) (o k : Nat) : addOff (.ip cs o) k = if o + k ≤ cs.length then some (.ip cs (o + k)) else none := rfl
def loadE (P : Program) (T : Nat) (e : Option Ent) (o : Nat) : Option AV :=
  match e with
  | some (.cells cs) => ldAt P T cs o
  | some (.row _ _ _ cs) => ldAt P T cs o
  | _ => none
theorem loadE_cells (P : Program) (T o : Nat) (cs : List AV) : loadE P T (some (.cells cs)) o = ldAt P T cs o := rfl
theorem loadE_row (P : Program) (T o e sz n : Nat) (cs : List AV) : loadE P T (some (.row e sz n cs)) o = ldAt P T cs o := rfl
theorem load_ip (P : Program) (st : St) (T o : Nat) (cs : List AV) : loadA P st T (.ip cs o) = ldAt P T cs o := rfl
theorem load_ptr (P : Program) (st : St) (T s g o : Nat) : loadA P st T (.ptr s g o) = loadE P T (st.heap s g) o := by
  simp only [loadA, loadE]
  cases st.heap s g with
  | none => rfl
  | some e => cases e <;> rfl
theorem stor_v (x : Value) : (AV.v x).stor = x.oneCell' := rfl
theorem stor_agg (cs : List AV) : (AV.agg cs).stor = true := rfl
theorem stor_sl (n : Nat) (cs : List AV) : (AV.sl n cs).stor = true := rfl
theorem stor_cl (n : Nat) (cs : List AV) : (AV.cl n cs).stor = true := rfl
theorem stor_ip (n : Nat) (cs : List AV) : (AV.ip cs n).stor = true := rfl
theorem stor_ptr (s g o : Nat) : (AV.ptr s g o).stor = true := rfl
theorem stor_own (s g : Nat) : (AV.own s g).stor = true := rfl
theorem stor_mp (s g : Nat) : (AV.mp s g).stor = true := rfl
theorem stor_clo (f : Nat) (cs : List AV) : (AV.clo f cs).stor = true := rfl
theorem cel_v (x : Value) : (AV.v x).cells = [.v x] := rfl
theorem cel_agg (cs : List AV) : (AV.agg cs).cells = cs := rfl
theorem cel_sl (n : Nat) (cs : List AV) : (AV.sl n cs).cells = [.sl n cs] := rfl
theorem cel_cl (n : Nat) (cs : List AV) : (AV.cl n cs).cells = [.cl n cs] := rfl
theorem cel_ip (n : Nat) (cs : List AV) : (AV.ip cs n).cells = [.ip cs n] := rfl
theorem cel_ptr (s g o : Nat) : (AV.ptr s g o).cells = [.ptr s g o] := rfl
theorem cel_own (s g : Nat) : (AV.own s g).cells = [.own s g] := rfl
theorem cel_mp (s g : Nat) : (AV.mp s g).cells = [.mp s g] := rfl
theorem cel_clo (f : Nat) (cs : List AV) : (AV.clo f cs).cells = [.clo f cs] := rfl
theorem one_int (k : IntKind) (n : Int) : (Value.int k n).oneCell' = true := rfl
theorem one_bool (b : Bool) : (Value.bool b).oneCell' = true := rfl
theorem one_slice (a : Option Addr) (n m : Nat) : (Value.slice a n m).oneCell' = true := rfl
theorem inb_normal (id : Nat) : Ex.normal.inBlock id = .normal := rfl
theorem inb_ret (id : Nat) : Ex.ret.inBlock id = .ret := rfl
theorem inb_exit (id i : Nat) : (Ex.exit i).inBlock id = if i = id then .normal else .exit i := rfl
theorem gslot_l (l : List Oper) (j : Nat) : gslot l.toArray j = (l[j]?).bind (·.dst) := by simp [gslot]
theorem gei (a b : Int) : (a ≥ b) = (b ≤ a) := rfl
theorem gti (a b : Int) : (a > b) = (b < a) := rfl
theorem gen' (a b : Nat) : (a ≥ b) = (b ≤ a) := rfl
theorem gtn (a b : Nat) : (a > b) = (b < a) := rfl
end Go.Ab
