/-
  Part X3 of the proof: equations of the evaluator at this program.
-/
import Derived.Test.YtgpkmepalmdmeaaMF2
set_option linter.all false
set_option linter.unusedSimpArgs false
set_option linter.unusedVariables false
namespace Go.Ab
open Classical
instance : Inhabited Node := ⟨zNode⟩
def nd (ns : List Node) (i : Int) : Node := ns.getD i.toNat zNode
def it (l : List Int) (i : Int) : Int := l.getD i.toNat 0
theorem nd_get {ns : List Node} {i : Int} (h0 : 0 ≤ i) (h1 : i < ns.length) : ∃ h : i.toNat < ns.length, nd ns i = ns[i.toNat] := by
  have h : i.toNat < ns.length := by omega
  exact ⟨h, by simp [nd, h]⟩
theorem it_get {l : List Int} {i : Int} (h0 : 0 ≤ i) (h1 : i < l.length) : ∃ h : i.toNat < l.length, it l i = l[i.toNat] := by
  have h : i.toNat < l.length := by omega
  exact ⟨h, by simp [it, h]⟩
theorem csInt_eq (l : List Int) : csInt l = l.map fun x => .v (.int .i64 x) := by
  induction l with
  | nil => rfl
  | cons a l ih => simp only [csInt, List.flatMap_cons, List.map_cons, cInt] at *; rw [ih]; rfl
theorem csU64_eq (l : List Int) : csU64 l = l.map fun x => .v (.int .u64 x) := by
  induction l with
  | nil => rfl
  | cons a l ih => simp only [csU64, List.flatMap_cons, List.map_cons, cU64] at *; rw [ih]; rfl
theorem csInt_app (a b : List Int) : csInt (a ++ b) = csInt a ++ csInt b := by simp [csInt]
theorem csNode_app (a b : List Node) : csNode (a ++ b) = csNode a ++ csNode b := by simp [csNode]
theorem flat_csI (l : List Int) : ∀ c ∈ csInt l, Flat c := flat_csInt l
theorem mem_csInt (l : List Int) : ∀ c ∈ csInt l, MemFree c := by rw [csInt_eq]; intro c hc; obtain ⟨x, _, rfl⟩ := List.mem_map.1 hc; exact .v _
theorem get_csInt {l : List Int} {i : Int} (h0 : 0 ≤ i) (h1 : i < l.length) : (csInt l)[i.toNat]? = some (.v (.int .i64 (it l i))) := by
  obtain ⟨h, e⟩ := it_get h0 h1
  rw [csInt_eq, List.getElem?_map, List.getElem?_eq_getElem h, e]
  rfl
theorem get_csU64 {l : List Int} {i : Int} (h0 : 0 ≤ i) (h1 : i < l.length) : (csU64 l)[i.toNat]? = some (.v (.int .u64 (it l i))) := by
  obtain ⟨h, e⟩ := it_get h0 h1
  rw [csU64_eq, List.getElem?_map, List.getElem?_eq_getElem h, e]
  rfl
theorem rd_csNode' {ns : List Node} {i : Int} (h0 : 0 ≤ i) (h1 : i < ns.length) : ((csNode ns).drop (i.toNat * 240)).take 240 = cNode (nd ns i) := by
  obtain ⟨h, e⟩ := nd_get h0 h1
  rw [e, ← rd_csNode ns i.toNat h]
  rfl
theorem one_ne_zero' : ((1 : Nat) = 0) = False := by simp
theorem zero_ne_one' : ((0 : Nat) = 1) = False := by simp
theorem flat1 {x : AV} (h : Flat x) : ∀ y ∈ [x], Flat y := by simpa using h
theorem flat2 {x y : AV} (h : Flat x) (h' : Flat y) : ∀ z ∈ [x, y], Flat z := by simp [h, h']
theorem flat3 {x y u : AV} (h : Flat x) (h' : Flat y) (h2 : Flat u) : ∀ z ∈ [x, y, u], Flat z := by simp [h, h', h2]
theorem flat4 {x y u v : AV} (h : Flat x) (h' : Flat y) (h2 : Flat u) (h3 : Flat v) : ∀ z ∈ [x, y, u, v], Flat z := by simp [h, h', h2, h3]
theorem flatT (t : Tree) : Flat (.agg (cTree t)) := .agg _ (flat_cTree t)
theorem flatB (t : Block) : Flat (.agg (cBlock t)) := .agg _ (flat_cBlock t)
theorem flatR (t : Root) : Flat (.agg (cRoot t)) := .agg _ (flat_cRoot t)
theorem flatI (n : Int) : Flat (.v (.int .i64 n)) := .v _
theorem flatSl (l : List Int) : Flat (.sl l.length (csInt l)) := .sl _ _ (flat_csInt l)
theorem view_sl (st : St) (n : Nat) (cs : List AV) : sliceView st (.sl n cs) = some (n, cs) := rfl
theorem view_nil (st : St) : sliceView st (.v (.slice none 0 0)) = some (0, []) := rfl
theorem view_own {st : St} {s g e sz n : Nat} {cs : List AV} (h : st.heap s g = some (.row e sz n cs)) : sliceView st (.own s g) = some (n, cs) := by simp only [sliceView, h]
theorem cInt_c (x : Int) : cInt x = [.v (.int .i64 x)] := rfl
theorem cU64_c (x : Int) : cU64 x = [.v (.int .u64 x)] := rfl
theorem cBool_c (x : Bool) : cBool x = [.v (.bool x)] := rfl
namespace Try
open Go.Proofs
theorem idx23 (st : St) {ns : List Node} {k : IntKind} {i : Int} (h0 : 0 ≤ i) (h1 : i < ns.length) : indexAddrA Try.prog st 23 (.sl ns.length (csNode ns)) (.v (.int k i)) = some (.ip (cNode (nd ns i)) 0) := by
  have hl : i.toNat < ns.length := by omega
  have : i.toNat * 240 + 240 ≤ ns.length * 240 := by rw [← Nat.succ_mul]; exact Nat.mul_le_mul_right _ hl
  simp only [indexAddrA, na23, sl23, h0, h1, len_csNode, this, and_self, if_true, rd_csNode' h0 h1]
theorem idx22 (st : St) {l : List Int} {k : IntKind} {i : Int} (h0 : 0 ≤ i) (h1 : i < l.length) : indexAddrA Try.prog st 22 (.sl l.length (csInt l)) (.v (.int k i)) = some (.ip (cInt (it l i)) 0) := by
  obtain ⟨h, e⟩ := it_get h0 h1
  have : i.toNat * 1 + 1 ≤ l.length * 1 := by omega
  have hr := rd_csInt l i.toNat h
  simp only [indexAddrA, na22, sl22, h0, h1, len_csInt, this, and_self, if_true, e, ← hr]
  rfl
theorem ev_callT {call : Nat → List AV → Option AV} {ops : Array Oper} {st : St} {d : Option Nat} {T : Nat} {pos : String} {aft : Array Edge} (g : Nat) (args : Array Operand) (ats : Array Nat) (h : g ≠ 89) :
    evOp Try.prog call ops ⟨d, .call ⟨.value (.func g), args, ats⟩, T, pos, aft, none⟩ st = bnd (callFn call g (args.toList.map st.ev) st d) fun e => some (e.apply st) := ev_call g args ats (mv_none h)
end Try
end Go.Ab
