/-
  Part WX3 of the proof: what functions of this program compute.
-/
import Derived.Test.YtdmpbhjcdnclbaaWMF
set_option linter.all false
set_option linter.unusedSimpArgs false
set_option linter.unusedVariables false
namespace Go.Ab.Try
open Classical Go.Proofs Go.Ab
theorem ev_callT {call : Nat → List AV → Option AV} {ops : Array Oper} {st : St} {d : Option Nat} {T : Nat} {pos : String} {aft : Array Edge} (g : Nat) (args : Array Operand) (ats : Array Nat) :
    evOp Try.prog call ops ⟨d, .call ⟨.value (.func g), args, ats⟩, T, pos, aft, none⟩ st = bnd (callFn call g (args.toList.map st.ev) st d) fun e => some (e.apply st) := ev_call g args ats (mv_no g) (eat_none g)
def it (l : List Int) (i : Int) : Int := l.getD i.toNat 0
theorem it_get {l : List Int} {i : Int} (h0 : 0 ≤ i) (h1 : i < l.length) : ∃ h : i.toNat < l.length, it l i = l[i.toNat] := by
  have h : i.toNat < l.length := by omega
  exact ⟨h, by simp [it, h]⟩
theorem cInt_c (x : Int) : cInt x = [.v (.int .i64 x)] := rfl
theorem view_sl (st : St) (n : Nat) (cs : List AV) : sliceView st (.sl n cs) = some (n, cs) := rfl
theorem idx42 (st : St) {l : List Int} {k : IntKind} {i : Int} (h0 : 0 ≤ i) (h1 : i < l.length) : indexAddrA Try.prog st 42 (.sl l.length (csInt l)) (.v (.int k i)) = some (.ip (cInt (it l i)) 0) := by
  obtain ⟨h, e⟩ := it_get h0 h1
  have : i.toNat * 1 + 1 ≤ l.length * 1 := by omega
  have hr := rd_csInt l i.toNat h
  simp only [indexAddrA, na42, sl42, h0, h1, len_csInt, this, and_self, if_true, e, ← hr]
  rfl
end Go.Ab.Try
namespace Go.Ab
theorem callG_t [Ext] (P : Program) {f : Nat} {fn : Func} {c : Code} (hf : P.funcs[f]? = some fn) (hb : fn.body = some c) (hok : fnOk fn = true) (hc : codeInl c = true) (xs : List AV) (hx : Ext.ext f xs = none) (hu : xs.any isUniq = false) : callL P f xs = bnd (evG P true c (St.init xs)) (endL P f fn) := by
  rw [callG_eq P hf hb hok xs hx hu, hc]
end Go.Ab
theorem Go.Ab.Try.ext_ok : Go.Ab.ExtOk Go.Proofs.Try.prog := fun f xs r h => by cases h
