/-
  Part L12 of the proof: what functions of this program compute.
-/
import Derived.Test.YtgpkmepalmdmeaaK12
import Derived.Test.YtgpkmepalmdmeaaK13
set_option linter.all false
set_option linter.unusedSimpArgs false
set_option linter.unusedVariables false
set_option maxRecDepth 20000
set_option maxHeartbeats 4000000
namespace Go.Ab.Try
open Classical Go.Proofs Go.Ab
/-- Views of own rows, nil checks. -/
def nilA : AV → Option AV
  | .ptr s g o => some (.ptr s g o)
  | .ip cs o => some (.ip cs o)
  | _ => none
theorem nilA_ptr (s g o : Nat) : nilA (.ptr s g o) = some (.ptr s g o) := rfl
theorem ev_nilCheck {call : Nat → List AV → Option AV} {ops : Array Oper} {st : St} {d : Option Nat} {T : Nat} {pos : String} {aft : Array Edge} (x : Operand) : evOp Try.prog call ops ⟨d, .nilCheck x, T, pos, aft, none⟩ st = bnd (nilA (st.ev x)) fun v => some (st.put d v) := by
  rw [evOp_none]
  simp only [opEff, opVal]
  show Option.map _ (Option.map _ (nilA (st.ev x))) = _
  cases nilA (st.ev x) <;> rfl
theorem stor_vw (s g o n : Nat) : (AV.vw s g o n).stor = true := rfl
theorem cel_vw (s g o n : Nat) : (AV.vw s g o n).cells = [.vw s g o n] := rfl
/-- A row from its second element on. -/
def slO (o : Option Ent) (s g : Nat) : Option AV :=
  match o with
  | some (.row _ _ n _) => if (1 : Int) ≤ n then (if (1 : Int) = n then some (.sl 0 []) else some (.vw s g 240 ((n : Int) - 1).toNat)) else none
  | _ => none
theorem slice_own1 (st : St) (s g : Nat) : sliceA Try.prog st 23 (.own s g) (some (.const (.int .i64 1))) none = slO (st.heap s g) s g := by
  simp only [sliceA, sl23, slO]
  cases st.heap s g with
  | none => rfl
  | some e => cases e with
    | row e sz n cs =>
      simp only [St.ev]
      by_cases h : (1 : Int) ≤ n
      · rw [if_pos h, if_pos ⟨by omega, h, Int.le_refl _⟩]
        rfl
      · rw [if_neg h, if_neg (fun h' => h h'.2.1)]
    | _ => rfl
theorem slO_one (e sz : Nat) (cs : List AV) (s g : Nat) : slO (some (.row e sz 1 cs)) s g = some (.sl 0 []) := rfl
theorem slO_more (e sz k : Nat) (cs : List AV) (s g : Nat) : slO (some (.row e sz (k + 1 + 1) cs)) s g = some (.vw s g 240 (k + 1)) := by
  simp only [slO]
  rw [if_pos (by omega), if_neg (by omega)]
  congr 2
  omega
theorem not_flat_vw (s g o n : Nat) : ¬ Flat (.vw s g o n) := by intro h; cases h
noncomputable def expoW (x : Option Ent) (o n : Nat) : Option AV :=
  match x with
  | some (.row _ sz _ cs) => if (∀ c ∈ cs, Flat c) ∧ o + n * sz ≤ cs.length then some (.sl n ((cs.drop o).take (n * sz))) else none
  | _ => none
theorem expo_aggvw (st : St) (s g o n : Nat) : expo st (.agg [.vw s g o n]) = (expoW (st.heap s g) o n).map fun y => .agg [y] := by
  have hn : ¬ Flat (.agg [.vw s g o n]) := by intro h; cases h with | agg _ h => exact not_flat_vw s g o n (h _ (by simp))
  unfold expo expoW
  rw [if_neg hn]
  simp only [List.map_cons, List.map_nil]
  unfold expo1
  rw [if_neg (not_flat_vw s g o n)]
  simp only
  cases st.heap s g with
  | none => rfl
  | some e => cases e with
    | row a b n' cs =>
      by_cases h : (∀ c ∈ cs, Flat c) ∧ o + n * b ≤ cs.length
      · simp only [if_pos h, optAll, Option.map_some]
      · simp only [if_neg h, optAll, Option.map_none]
    | _ => rfl
theorem expoW_tail (e N : Nat) (x : Node) (r : List Node) : expoW (some (.row e 240 N (csNode (x :: r)))) 240 r.length = some (.sl r.length (csNode r)) := by
  have h1 : (csNode (x :: r)).drop 240 = csNode r := by
    simp only [csNode, List.flatMap_cons]
    rw [List.drop_append_of_le_length (by simp), List.drop_eq_nil_of_le (by simp), List.nil_append]
  have h2 : (csNode (x :: r)).length = (r.length + 1) * 240 := by simp
  unfold expoW
  simp only
  rw [if_pos ⟨flat_csNode _, by rw [h2]; omega⟩, h1, List.take_of_length_le (by simp)]
theorem expo_sl00 (st : St) : expo st (.agg [.sl 0 []]) = some (.agg [.sl 0 []]) := expo_id (.agg _ (by simp; exact .sl _ _ (by simp)))
theorem q49 (args : List AV) (st : St) (d : Option Nat) : callFn (callL Try.prog) 49 args st d = callQ (callL Try.prog) 49 (optAll (args.map (expo st))) (decide (∀ x ∈ args, Flat x)) st d := callFn_Q _ _ _ _ _
theorem q65 (args : List AV) (st : St) (d : Option Nat) : callFn (callL Try.prog) 65 args st d = callQ (callL Try.prog) 65 (optAll (args.map (expo st))) (decide (∀ x ∈ args, Flat x)) st d := callFn_Q _ _ _ _ _
theorem w49 (ns : List Node) (hn : (ns.length : Int) < 1000000) (fl : Bool) (st : St) (d : Option Nat) : callQ (callL Try.prog) 49 (some [.agg [.sl ns.length (csNode ns)]]) fl st d = some { dst := d, val := .v (.int .i64 (valV ns)) } := Q_int (c49 ns hn)
theorem w65 (ns : List Node) (hn : (ns.length : Int) < 1000000) (fl : Bool) (st : St) (d : Option Nat) : callQ (callL Try.prog) 65 (some [.agg [.sl ns.length (csNode ns)]]) fl st d = some { dst := d, val := .v (.int .i64 (valV ns)) } := Q_int (c65 ns hn)
/-- Stores into a node of a row. -/
def putUp (ns : List Node) (i x : Int) : List Node := ns.set i.toNat { nd ns i with up := x }
def putSlot (ns : List Node) (i x : Int) : List Node := ns.set i.toNat { nd ns i with block := { (nd ns i).block with slot := x } }
def putRoot (ns : List Node) (i : Int) (x : Root) : List Node := ns.set i.toNat { nd ns i with block := { (nd ns i).block with root := x } }
def putPar (ns : List Node) (i : Int) (x : Root) : List Node := ns.set i.toNat { nd ns i with block := { (nd ns i).block with parent := x } }
theorem upd_up {l : List Node} {i s : Int} (h0 : 0 ≤ i) (h1 : i < l.length) : upd (csNode l) (i.toNat * 240 + 238) [.v (.int .i64 s)] (i.toNat * 240 + 239) = csNode (putUp l i s) :=
  upd_nodes h0 h1 (by decide) (by decide) (up_Node_up (nd l i) _)
theorem upd_slot {l : List Node} {i s : Int} (h0 : 0 ≤ i) (h1 : i < l.length) : upd (csNode l) (i.toNat * 240 + 66) [.v (.int .u64 s)] (i.toNat * 240 + 67) = csNode (putSlot l i s) :=
  upd_nodes h0 h1 (by decide) (by decide) (up_Node_block_slot (nd l i) _)
theorem upd_root {l : List Node} {i : Int} {x : Root} (h0 : 0 ≤ i) (h1 : i < l.length) : upd (csNode l) (i.toNat * 240 + 67) (cRoot x) (i.toNat * 240 + 99) = csNode (putRoot l i x) :=
  upd_nodes h0 h1 (by decide) (by decide) (up_Node_block_root (nd l i) _)
theorem upd_par {l : List Node} {i : Int} {x : Root} (h0 : 0 ≤ i) (h1 : i < l.length) : upd (csNode l) (i.toNat * 240 + 99) (cRoot x) (i.toNat * 240 + 131) = csNode (putPar l i x) :=
  upd_nodes h0 h1 (by decide) (by decide) (up_Node_block_parent (nd l i) _)
theorem putUp_len (ns : List Node) (i x : Int) : (putUp ns i x).length = ns.length := by simp [putUp]
theorem putSlot_len (ns : List Node) (i x : Int) : (putSlot ns i x).length = ns.length := by simp [putSlot]
theorem putRoot_len (ns : List Node) (i : Int) (x : Root) : (putRoot ns i x).length = ns.length := by simp [putRoot]
theorem putPar_len (ns : List Node) (i : Int) (x : Root) : (putPar ns i x).length = ns.length := by simp [putPar]
end Go.Ab.Try
