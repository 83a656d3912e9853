/-
  Part K5 of the proof: several texts of the evaluator and of what functions of this program compute.
-/
import Derived.Test.YtgpkmepalmdmeaaMF2
set_option linter.all false
section
set_option linter.unusedSimpArgs false
set_option linter.unusedVariables false
namespace Go.Ab
open Classical
instance : Inhabited Node := ⟨zNode⟩
def nd (ns : List Node) (i : Int) : Node := ns.getD i.toNat zNode
def it (l : List Int) (i : Int) : Int := l.getD i.toNat 0
theorem nd_get {ns : List Node} {i : Int} (h0 : 0 ≤ i) (h1 : i < ns.length) : ∃ h : i.toNat < ns.length, nd ns i = ns[i.toNat] := by
  have h : i.toNat < ns.length := by omega
  exact ⟨h, by simp [nd, h]⟩
theorem it_get {l : List Int} {i : Int} (h0 : 0 ≤ i) (h1 : i < l.length) : ∃ h : i.toNat < l.length, it l i = l[i.toNat] := by
  have h : i.toNat < l.length := by omega
  exact ⟨h, by simp [it, h]⟩
theorem csInt_eq (l : List Int) : csInt l = l.map fun x => .v (.int .i64 x) := by
  induction l with
  | nil => rfl
  | cons a l ih => simp only [csInt, List.flatMap_cons, List.map_cons, cInt] at *; rw [ih]; rfl
theorem csU64_eq (l : List Int) : csU64 l = l.map fun x => .v (.int .u64 x) := by
  induction l with
  | nil => rfl
  | cons a l ih => simp only [csU64, List.flatMap_cons, List.map_cons, cU64] at *; rw [ih]; rfl
theorem csInt_app (a b : List Int) : csInt (a ++ b) = csInt a ++ csInt b := by simp [csInt]
theorem csNode_app (a b : List Node) : csNode (a ++ b) = csNode a ++ csNode b := by simp [csNode]
theorem flat_csI (l : List Int) : ∀ c ∈ csInt l, Flat c := flat_csInt l
theorem mem_csInt (l : List Int) : ∀ c ∈ csInt l, MemFree c := by rw [csInt_eq]; intro c hc; obtain ⟨x, _, rfl⟩ := List.mem_map.1 hc; exact .v _
theorem get_csInt {l : List Int} {i : Int} (h0 : 0 ≤ i) (h1 : i < l.length) : (csInt l)[i.toNat]? = some (.v (.int .i64 (it l i))) := by
  obtain ⟨h, e⟩ := it_get h0 h1
  rw [csInt_eq, List.getElem?_map, List.getElem?_eq_getElem h, e]
  rfl
theorem get_csU64 {l : List Int} {i : Int} (h0 : 0 ≤ i) (h1 : i < l.length) : (csU64 l)[i.toNat]? = some (.v (.int .u64 (it l i))) := by
  obtain ⟨h, e⟩ := it_get h0 h1
  rw [csU64_eq, List.getElem?_map, List.getElem?_eq_getElem h, e]
  rfl
theorem rd_csNode' {ns : List Node} {i : Int} (h0 : 0 ≤ i) (h1 : i < ns.length) : ((csNode ns).drop (i.toNat * 240)).take 240 = cNode (nd ns i) := by
  obtain ⟨h, e⟩ := nd_get h0 h1
  rw [e, ← rd_csNode ns i.toNat h]
  rfl
theorem one_ne_zero' : ((1 : Nat) = 0) = False := by simp
theorem zero_ne_one' : ((0 : Nat) = 1) = False := by simp
theorem flat1 {x : AV} (h : Flat x) : ∀ y ∈ [x], Flat y := by simpa using h
theorem flat2 {x y : AV} (h : Flat x) (h' : Flat y) : ∀ z ∈ [x, y], Flat z := by simp [h, h']
theorem flat3 {x y u : AV} (h : Flat x) (h' : Flat y) (h2 : Flat u) : ∀ z ∈ [x, y, u], Flat z := by simp [h, h', h2]
theorem flat4 {x y u v : AV} (h : Flat x) (h' : Flat y) (h2 : Flat u) (h3 : Flat v) : ∀ z ∈ [x, y, u, v], Flat z := by simp [h, h', h2, h3]
theorem flatT (t : Tree) : Flat (.agg (cTree t)) := .agg _ (flat_cTree t)
theorem flatB (t : Block) : Flat (.agg (cBlock t)) := .agg _ (flat_cBlock t)
theorem flatR (t : Root) : Flat (.agg (cRoot t)) := .agg _ (flat_cRoot t)
theorem flatI (n : Int) : Flat (.v (.int .i64 n)) := .v _
theorem flatSl (l : List Int) : Flat (.sl l.length (csInt l)) := .sl _ _ (flat_csInt l)
theorem view_sl (st : St) (n : Nat) (cs : List AV) : sliceView st (.sl n cs) = some (n, cs) := rfl
theorem view_nil (st : St) : sliceView st (.v (.slice none 0 0)) = some (0, []) := rfl
theorem view_own {st : St} {s g e sz n : Nat} {cs : List AV} (h : st.heap s g = some (.row e sz n cs)) : sliceView st (.own s g) = some (n, cs) := by simp only [sliceView, h]
theorem cInt_c (x : Int) : cInt x = [.v (.int .i64 x)] := rfl
theorem cU64_c (x : Int) : cU64 x = [.v (.int .u64 x)] := rfl
theorem cBool_c (x : Bool) : cBool x = [.v (.bool x)] := rfl
namespace Try
open Go.Proofs
theorem idx23 (st : St) {ns : List Node} {k : IntKind} {i : Int} (h0 : 0 ≤ i) (h1 : i < ns.length) : indexAddrA Try.prog st 23 (.sl ns.length (csNode ns)) (.v (.int k i)) = some (.ip (cNode (nd ns i)) 0) := by
  have hl : i.toNat < ns.length := by omega
  have : i.toNat * 240 + 240 ≤ ns.length * 240 := by rw [← Nat.succ_mul]; exact Nat.mul_le_mul_right _ hl
  simp only [indexAddrA, na23, sl23, h0, h1, len_csNode, this, and_self, if_true, rd_csNode' h0 h1]
theorem idx22 (st : St) {l : List Int} {k : IntKind} {i : Int} (h0 : 0 ≤ i) (h1 : i < l.length) : indexAddrA Try.prog st 22 (.sl l.length (csInt l)) (.v (.int k i)) = some (.ip (cInt (it l i)) 0) := by
  obtain ⟨h, e⟩ := it_get h0 h1
  have : i.toNat * 1 + 1 ≤ l.length * 1 := by omega
  have hr := rd_csInt l i.toNat h
  simp only [indexAddrA, na22, sl22, h0, h1, len_csInt, this, and_self, if_true, e, ← hr]
  rfl
theorem ev_callT {call : Nat → List AV → Option AV} {ops : Array Oper} {st : St} {d : Option Nat} {T : Nat} {pos : String} {aft : Array Edge} (g : Nat) (args : Array Operand) (ats : Array Nat) (h : (g == 89 || g == 78 || g == 54) = false) :
    evOp Try.prog call ops ⟨d, .call ⟨.value (.func g), args, ats⟩, T, pos, aft, none⟩ st = bnd (callFn call g (args.toList.map st.ev) st d) fun e => some (e.apply st) := ev_call g args ats (mv_none' h) (eat_none h)
theorem ev_call78 {call : Nat → List AV → Option AV} {ops : Array Oper} {st : St} {d : Option Nat} {T : Nat} {pos : String} {aft : Array Edge} (args : Array Operand) (ats : Array Nat) :
    evOp Try.prog call ops ⟨d, .call ⟨.value (.func 78), args, ats⟩, T, pos, aft, none⟩ st = bnd (callEat call 78 (args.toList.map st.ev) st d) fun e => some (e.apply st) := ev_callEat 78 args ats rfl rfl
theorem ev_call54 {call : Nat → List AV → Option AV} {ops : Array Oper} {st : St} {d : Option Nat} {T : Nat} {pos : String} {aft : Array Edge} (args : Array Operand) (ats : Array Nat) :
    evOp Try.prog call ops ⟨d, .call ⟨.value (.func 54), args, ats⟩, T, pos, aft, none⟩ st = bnd (callEat call 54 (args.toList.map st.ev) st d) fun e => some (e.apply st) := ev_callEat 54 args ats rfl rfl
end Try
end Go.Ab
end
section
set_option linter.unusedSimpArgs false
set_option linter.unusedVariables false
namespace Go.Ab
open Classical
/-- A call, its arguments as the callee reads them. -/
noncomputable def callQ (call : Nat → List AV → Option AV) (g : Nat) (xs : Option (List AV)) (fl : Bool) (st : St) (d : Option Nat) : Option Eff :=
  bnd xs fun xs => bnd (call g xs) fun r => if fl = true ∨ Fresh r then putRes r st d else none
theorem optAll_id {st : St} : ∀ (args : List AV), (∀ x ∈ args, Flat x) → optAll (args.map (expo st)) = some args
  | [], _ => rfl
  | x :: xs, h => by
    simp only [List.map_cons, expo_id (h x (by simp)), optAll, optAll_id xs fun y hy => h y (by simp [hy]), Option.map_some]
theorem callFn_Q (call : Nat → List AV → Option AV) (g : Nat) (args : List AV) (st : St) (d : Option Nat) : callFn call g args st d = callQ call g (optAll (args.map (expo st))) (decide (∀ x ∈ args, Flat x)) st d := by
  unfold callFn callQ
  by_cases h : ∀ x ∈ args, Flat x
  · rw [if_pos h, optAll_id args h]
    have hd : decide (∀ x ∈ args, Flat x) = true := decide_eq_true h
    rw [hd]
    simp only [bnd_some, true_or, if_true]
  · rw [if_neg h]
    cases optAll (args.map (expo st)) with
    | none => rfl
    | some xs =>
      have hd : decide (∀ x ∈ args, Flat x) = false := decide_eq_false h
      rw [hd]
      simp only [bnd_some, Bool.false_eq_true, false_or]
theorem Q_of {call : Nat → List AV → Option AV} {g : Nat} {xs : List AV} {r : AV} {fl : Bool} {st : St} {d : Option Nat} (h : call g xs = some r) (hr : Fresh r) (hf : Flat r) : callQ call g (some xs) fl st d = some { dst := d, val := r } := by
  unfold callQ
  simp only [bnd_some, h, hr, or_true, if_true, putRes, if_pos hf]
theorem Q_bool {call : Nat → List AV → Option AV} {g : Nat} {xs : List AV} {b : Bool} {fl : Bool} {st : St} {d : Option Nat} (h : call g xs = some (.v (.bool b))) : callQ call g (some xs) fl st d = some { dst := d, val := .v (.bool b) } := Q_of h (.v _) (.v _)
theorem Q_int {call : Nat → List AV → Option AV} {g : Nat} {xs : List AV} {k : IntKind} {b : Int} {fl : Bool} {st : St} {d : Option Nat} (h : call g xs = some (.v (.int k b))) : callQ call g (some xs) fl st d = some { dst := d, val := .v (.int k b) } := Q_of h (.v _) (.v _)
theorem Q_uniq {call : Nat → List AV → Option AV} {g : Nat} {xs : List AV} {e sz n : Nat} {cs : List AV} {fl : Bool} {st : St} {d : Nat} (h : call g xs = some (.uniq e sz n cs)) (hr : ∀ c ∈ cs, MemFree c) : callQ call g (some xs) fl st (some d) = some { dst := some d, val := .own d (st.cnt d), new := some (d, [.row e sz n cs]) } := by
  have hfr : Fresh (.uniq e sz n cs) := hr
  have hnf : ¬ Flat (.uniq e sz n cs) := by intro h; cases h
  unfold callQ
  simp only [bnd_some, h, hfr, or_true, if_true, putRes, if_neg hnf]
  rfl
def expoE (o : Option Ent) : Option AV :=
  match o with
  | some (.row _ _ n cs) => some (.sl n cs)
  | _ => none
noncomputable def expoF (o : Option Ent) : Option AV :=
  match o with
  | some (.row _ _ n cs) => if ∀ c ∈ cs, Flat c then some (.sl n cs) else none
  | _ => none
theorem expo_ownF (st : St) (s g : Nat) : expo st (.own s g) = expoF (st.heap s g) := by
  unfold expo expo1 expoF
  rw [if_neg (not_flat_own s g)]
  simp only [if_neg (not_flat_own s g)]
  cases st.heap s g with
  | none => rfl
  | some e => cases e <;> rfl
theorem expoF_int (e sz n : Nat) (l : List Int) : expoF (some (.row e sz n (csInt l))) = some (.sl n (csInt l)) := by
  unfold expoF; simp only; rw [if_pos (flat_csInt l)]
theorem expoF_u64 (e sz n : Nat) (l : List Int) : expoF (some (.row e sz n (csU64 l))) = some (.sl n (csU64 l)) := by
  unfold expoF; simp only; rw [if_pos (flat_csU64 l)]
theorem expoF_node (e sz n : Nat) (l : List Node) : expoF (some (.row e sz n (csNode l))) = some (.sl n (csNode l)) := by
  unfold expoF; simp only; rw [if_pos (flat_csNode l)]
theorem expoF_node1 (e sz : Nat) (x : Node) : expoF (some (.row e sz 1 (cNode x))) = some (.sl [x].length (csNode [x])) := by
  unfold expoF; simp only; rw [if_pos (flat_cNode x)]
  simp [csNode]
theorem expo_v (st : St) (x : Value) : expo st (.v x) = some (.v x) := expo_id (.v x)
theorem expo_tree (st : St) (t : Tree) : expo st (.agg (cTree t)) = some (.agg (cTree t)) := expo_id (flatT t)
theorem expo_root (st : St) (t : Root) : expo st (.agg (cRoot t)) = some (.agg (cRoot t)) := expo_id (flatR t)
theorem expo_block (st : St) (t : Block) : expo st (.agg (cBlock t)) = some (.agg (cBlock t)) := expo_id (flatB t)
theorem expo_slI (st : St) (n : Nat) (l : List Int) : expo st (.sl n (csInt l)) = some (.sl n (csInt l)) := expo_id (.sl _ _ (flat_csInt l))
theorem expo_slU (st : St) (n : Nat) (l : List Int) : expo st (.sl n (csU64 l)) = some (.sl n (csU64 l)) := expo_id (.sl _ _ (flat_csU64 l))
theorem expo_nt (st : St) : expo st (.agg [.v (.slice none 0 0)]) = some (.agg [.v (.slice none 0 0)]) := expo_id (.agg _ (by simp; exact .v _))
theorem optAll_nil {α : Type} : optAll ([] : List (Option α)) = some [] := rfl
theorem optAll_some {α : Type} (x : α) (r : List (Option α)) : optAll (some x :: r) = (optAll r).map (x :: ·) := rfl
/-- Appends, by what the appended slice and the old row are. -/
theorem an_int1 (x : Int) : anE 3 1 8 (some (1, [.v (.int .i64 x)])) = some (none, .row 3 1 [x].length (csInt [x])) := by
  simp [anE, maxLen]; rfl
theorem ao_int1 (l : List Int) (x : Int) (s g : Nat) (h : (l.length : Int) < 1000000) : aoE 3 1 8 (some (.row 3 1 l.length (csInt l))) s g (some (1, [.v (.int .i64 x)])) = some (some (s, g), .row 3 1 (l ++ [x]).length (csInt (l ++ [x]))) := by
  simp only [aoE]
  rw [if_pos ⟨by simp, by simp, by simp, by omega, by simp only [maxLen]; omega⟩, csInt_app]
  simp [csInt, cInt]
theorem an_node1 (x : Node) : anE 54 240 352 (some (1, cNode x)) = some (none, .row 54 240 [x].length (csNode [x])) := by
  simp [anE, maxLen, csNode]
theorem ao_node1 (l : List Node) (x : Node) (s g : Nat) (h : (l.length : Int) < 1000000) : aoE 54 240 352 (some (.row 54 240 l.length (csNode l))) s g (some (1, cNode x)) = some (some (s, g), .row 54 240 (l ++ [x]).length (csNode (l ++ [x]))) := by
  simp only [aoE]
  rw [if_pos ⟨by simp, by simp, by simp, by omega, by simp only [maxLen]; omega⟩, csNode_app]
  simp [csNode]
theorem an_nodes (l : List Node) (h : (l.length : Int) < 1000000) : anE 54 240 352 (some (l.length, csNode l)) = some (none, .row 54 240 l.length (csNode l)) := by
  simp only [anE]
  rw [if_pos (by refine ⟨by simp, ?_, ?_⟩ <;> (try simp only [maxLen]) <;> omega)]
theorem ac_nodes (l : List Node) (h : (l.length : Int) < 1000000) : acE 54 240 352 0 [] (some (l.length, csNode l)) = some (none, .row 54 240 l.length (csNode l)) := by
  simp only [acE]
  rw [if_pos ⟨by simp, by simp, by simp, by omega, by simp only [maxLen]; omega⟩]
  simp
theorem ac_node1 (l : List Node) (x : Node) (h : (l.length : Int) < 1000000) : acE 54 240 352 l.length (csNode l) (some (1, cNode x)) = some (none, .row 54 240 (l ++ [x]).length (csNode (l ++ [x]))) := by
  simp only [acE]
  rw [if_pos (by refine ⟨by simp, by simp, .inr (by omega), ?_, ?_⟩ <;> (try simp only [maxLen]) <;> omega), csNode_app]
  simp [csNode]
/-- A value that is an int. -/
def onI {α : Type} (x : AV) (k : Int → Option α) : Option α :=
  match x with
  | .v (.int .i64 v) => k v
  | _ => none
theorem onI_int {α : Type} (v : Int) (k : Int → Option α) : onI (.v (.int .i64 v)) k = k v := rfl
def onAgg {α : Type} (z : Nat) (x : AV) (k : List AV → Option α) : Option α :=
  match x with
  | .agg cs => if cs.length = z then k cs else none
  | _ => none
theorem onAgg_agg {α : Type} (z : Nat) (cs : List AV) (k : List AV → Option α) (h : cs.length = z) : onAgg z (.agg cs) k = k cs := if_pos h
@[congr] theorem onI_congr {α : Type} {x y : AV} {k : Int → Option α} (h : x = y) : onI x k = onI y k := by rw [h]
@[congr] theorem onAgg_congr {α : Type} {z : Nat} {x y : AV} {k : List AV → Option α} (h : x = y) : onAgg z x k = onAgg z y k := by rw [h]
/-- The same, with what is left where the value is no such one. -/
def elI {α : Type} (x : AV) (k : Int → Option α) (fb : Option α) : Option α :=
  match x with
  | .v (.int .i64 v) => k v
  | _ => fb
def elAgg {α : Type} (z : Nat) (x : AV) (k : List AV → Option α) (fb : Option α) : Option α :=
  match x with
  | .agg cs => if cs.length = z then k cs else fb
  | _ => fb
def elClo {α : Type} (x : AV) (k : Nat → List AV → Option α) (fb : Option α) : Option α :=
  match x with
  | .clo g cs => k g cs
  | _ => fb
theorem elI_int {α : Type} (v : Int) (k : Int → Option α) (fb : Option α) : elI (.v (.int .i64 v)) k fb = k v := rfl
theorem elAgg_agg {α : Type} (z : Nat) (cs : List AV) (k : List AV → Option α) (fb : Option α) (h : cs.length = z) : elAgg z (.agg cs) k fb = k cs := if_pos h
theorem elClo_clo {α : Type} (g : Nat) (cs : List AV) (k : Nat → List AV → Option α) (fb : Option α) : elClo (.clo g cs) k fb = k g cs := rfl
@[congr] theorem elI_congr {α : Type} {x y : AV} {k : Int → Option α} {fb : Option α} (h : x = y) : elI x k fb = elI y k fb := by rw [h]
@[congr] theorem elAgg_congr {α : Type} {z : Nat} {x y : AV} {k : List AV → Option α} {fb : Option α} (h : x = y) : elAgg z x k fb = elAgg z y k fb := by rw [h]
@[congr] theorem elClo_congr {α : Type} {x y : AV} {k : Nat → List AV → Option α} {fb : Option α} (h : x = y) : elClo x k fb = elClo y k fb := by rw [h]
namespace Try
open Go.Proofs
theorem app22_nil (st : St) (x : AV) : appendA Try.prog st 22 (.v (.slice none 0 0)) x = anE 3 1 8 (sliceView st x) := app_nil sl22 x
theorem app22_own (st : St) (s g : Nat) (x : AV) : appendA Try.prog st 22 (.own s g) x = aoE 3 1 8 (st.heap s g) s g (sliceView st x) := app_own sl22 s g x
theorem app23_nil (st : St) (x : AV) : appendA Try.prog st 23 (.v (.slice none 0 0)) x = anE 54 240 352 (sliceView st x) := app_nil sl23 x
theorem app23_own (st : St) (s g : Nat) (x : AV) : appendA Try.prog st 23 (.own s g) x = aoE 54 240 352 (st.heap s g) s g (sliceView st x) := app_own sl23 s g x
theorem app23_cl (st : St) (n : Nat) (cs : List AV) (x : AV) : appendA Try.prog st 23 (.cl n cs) x = acE 54 240 352 n cs (sliceView st x) := app_cl sl23 n cs x
theorem idx22_own (st : St) (s g : Nat) (k : IntKind) (i : Int) : indexAddrA Try.prog st 22 (.own s g) (.v (.int k i)) = ioE 3 1 (st.heap s g) s g i := by
  simp only [indexAddrA, na22, sl22, ioE]
  cases st.heap s g with
  | none => rfl
  | some e => cases e <;> rfl
theorem idx23_own (st : St) (s g : Nat) (k : IntKind) (i : Int) : indexAddrA Try.prog st 23 (.own s g) (.v (.int k i)) = ioE 54 240 (st.heap s g) s g i := by
  simp only [indexAddrA, na23, sl23, ioE]
  cases st.heap s g with
  | none => rfl
  | some e => cases e <;> rfl
theorem ioE_int (l : List Int) (s g : Nat) (i : Int) (h0 : 0 ≤ i) (h1 : i < l.length) : ioE 3 1 (some (.row 3 1 l.length (csInt l))) s g i = some (.ptr s g i.toNat) := by
  simp [ioE, h0, h1]
theorem ioE_node (l : List Node) (s g : Nat) (i : Int) (h0 : 0 ≤ i) (h1 : i < l.length) : ioE 54 240 (some (.row 54 240 l.length (csNode l))) s g i = some (.ptr s g (i.toNat * 240)) := by
  simp [ioE, h0, h1]
theorem expo_aggown (st : St) (s g : Nat) : expo st (.agg [.own s g]) = (expoF (st.heap s g)).map fun y => .agg [y] := by
  have hn : ¬ Flat (.agg [.own s g]) := by intro h; cases h with | agg _ h => exact not_flat_own s g (h _ (by simp))
  unfold expo expoF
  rw [if_neg hn]
  simp only [List.map_cons, List.map_nil]
  unfold expo1
  rw [if_neg (not_flat_own s g)]
  simp only
  cases st.heap s g with
  | none => rfl
  | some e => cases e with
    | row a b n cs =>
      by_cases h : ∀ c ∈ cs, Flat c
      · simp only [if_pos h, optAll, Option.map_some]
      · simp only [if_neg h, optAll, Option.map_none]
    | _ => rfl
theorem rd_one (x : AV) : rd [x] 0 1 = [x] := rfl
theorem up_one (x y : AV) : upd [x] 0 [y] 1 = [y] := rfl
theorem up_treeX (x : AV) (t : Tree) : upd [x] 0 (cTree t) 1 = cTree t := rfl
theorem up_treeY (x : AV) (t : Tree) : upd (cTree t) 0 [x] 1 = [x] := rfl
theorem cTree_c (ns : List Node) : cTree ⟨ns⟩ = [.sl ns.length (csNode ns)] := rfl
theorem get_csInt0 {l : List Int} {i : Int} (h0 : 0 ≤ i) (h1 : i < l.length) : (csInt l)[i.toNat]? = some (.v (.int .i64 (it l i))) := get_csInt h0 h1
def vow (o : Option Ent) : Option (Nat × List AV) :=
  match o with
  | some (.row _ _ n cs) => some (n, cs)
  | _ => none
theorem vow_row (e sz n : Nat) (cs : List AV) : vow (some (.row e sz n cs)) = some (n, cs) := rfl
theorem view_ownV (st : St) (s g : Nat) : sliceView st (.own s g) = vow (st.heap s g) := by
  simp only [sliceView, vow]
  cases st.heap s g with
  | none => rfl
  | some o => cases o <;> rfl
section
variable {call : Nat → List AV → Option AV} {ops : Array Oper} {st : St} {T : Nat} {pos : String} {aft : Array Edge}
theorem ev_bs22 (d : Nat) (x : Operand) {v : Int} (h : st.ev x = .v (.int .i64 v)) : evOp Try.prog call ops ⟨some d, .buildSlice 22 1 #[(0, x)], T, pos, aft, none⟩ st = some ((st.new d (.row 3 1 1 [.v (.int .i64 v)])).put (some d) (.own d (st.cnt d))) := by
  rw [ev_buildSlice]
  simp [sl22, ze3, bnd, h, AV.stor, Value.oneCell', fillA, AV.cells]
theorem ev_bs23 (d : Nat) (x : Operand) {cs : List AV} (h : st.ev x = .agg cs) (hl : cs.length = 240) : evOp Try.prog call ops ⟨some d, .buildSlice 23 1 #[(0, x)], T, pos, aft, none⟩ st = some ((st.new d (.row 54 240 1 cs)).put (some d) (.own d (st.cnt d))) := by
  rw [ev_buildSlice]
  have hz : (vNode.map AV.v).length = 240 := by rw [vNode_c]; simp
  simp only [sl23, ze54, bnd, List.toList_toArray, List.all_cons, List.all_nil, h, AV.stor, Bool.and_self, List.map_cons, List.map_nil, fillA, AV.cells, hl, Nat.zero_mul, Nat.zero_add, true_and, List.take_zero, List.nil_append]
  have h2 : ((List.range 1).flatMap fun _ => vNode.map AV.v) = vNode.map AV.v := by simp [List.range, List.range.loop]
  rw [h2, if_pos (by simp), if_pos (by rw [hz]; exact Nat.le_refl _)]
  rw [List.drop_of_length_le (by rw [hz]; exact Nat.le_refl _), List.append_nil]
theorem ev_bs22E (d : Nat) (x : Operand) : evOp Try.prog call ops ⟨some d, .buildSlice 22 1 #[(0, x)], T, pos, aft, none⟩ st =
    elI (st.ev x) (fun v => some ((st.new d (.row 3 1 1 [.v (.int .i64 v)])).put (some d) (.own d (st.cnt d)))) (evOp Try.prog call ops ⟨some d, .buildSlice 22 1 #[(0, x)], T, pos, aft, none⟩ st) := by
  unfold elI
  split
  · rename_i v h; exact ev_bs22 d x h
  · rfl
theorem ev_bs22_3 (d : Nat) (x y z : Operand) {a b c : Int} (h1 : st.ev x = .v (.int .i64 a)) (h2 : st.ev y = .v (.int .i64 b)) (h3 : st.ev z = .v (.int .i64 c)) : evOp Try.prog call ops ⟨some d, .buildSlice 22 3 #[(0, x), (1, y), (2, z)], T, pos, aft, none⟩ st =
    some ((st.new d (.row 3 1 [a, b, c].length (csInt [a, b, c]))).put (some d) (.own d (st.cnt d))) := by
  rw [ev_buildSlice]
  simp [sl22, ze3, bnd, h1, h2, h3, AV.stor, Value.oneCell', fillA, AV.cells, List.range, List.range.loop, csInt, cInt]
theorem ev_bs22_3E (d : Nat) (x y z : Operand) : evOp Try.prog call ops ⟨some d, .buildSlice 22 3 #[(0, x), (1, y), (2, z)], T, pos, aft, none⟩ st =
    elI (st.ev x) (fun a => elI (st.ev y) (fun b => elI (st.ev z) (fun c => some ((st.new d (.row 3 1 [a, b, c].length (csInt [a, b, c]))).put (some d) (.own d (st.cnt d)))) (evOp Try.prog call ops ⟨some d, .buildSlice 22 3 #[(0, x), (1, y), (2, z)], T, pos, aft, none⟩ st))
      (evOp Try.prog call ops ⟨some d, .buildSlice 22 3 #[(0, x), (1, y), (2, z)], T, pos, aft, none⟩ st)) (evOp Try.prog call ops ⟨some d, .buildSlice 22 3 #[(0, x), (1, y), (2, z)], T, pos, aft, none⟩ st) := by
  unfold elI
  split
  · rename_i a h1
    try dsimp only
    split
    · rename_i b h2
      try dsimp only
      split
      · rename_i c h3; exact ev_bs22_3 d x y z h1 h2 h3
      · rfl
    · rfl
  · rfl
theorem ev_bs23E (d : Nat) (x : Operand) : evOp Try.prog call ops ⟨some d, .buildSlice 23 1 #[(0, x)], T, pos, aft, none⟩ st =
    elAgg 240 (st.ev x) (fun cs => some ((st.new d (.row 54 240 1 cs)).put (some d) (.own d (st.cnt d)))) (evOp Try.prog call ops ⟨some d, .buildSlice 23 1 #[(0, x)], T, pos, aft, none⟩ st) := by
  unfold elAgg
  split
  · rename_i cs h
    split
    · rename_i hl; exact ev_bs23 d x h hl
    · rfl
  · rfl
theorem ev_makeSliceE (S d : Nat) (l c : Operand) : evOp Try.prog call ops ⟨some d, .makeSlice S l c, T, pos, aft, none⟩ st =
    elI (st.ev l) (fun n => elI (st.ev c) (fun m => if 0 ≤ n ∧ n = m then (bnd (slInfo Try.prog S) fun t => bnd (zeroL Try.prog t.1) fun z =>
      if n * t.2.2 ≤ 140737488355328 ∧ n ≤ maxLen then some ((st.new d (.row t.1 t.2.1 n.toNat ((List.range n.toNat).flatMap fun _ => z.map .v))).put (some d) (.own d (st.cnt d))) else none)
      else evOp Try.prog call ops ⟨some d, .makeSlice S l c, T, pos, aft, none⟩ st) (evOp Try.prog call ops ⟨some d, .makeSlice S l c, T, pos, aft, none⟩ st)) (evOp Try.prog call ops ⟨some d, .makeSlice S l c, T, pos, aft, none⟩ st) := by
  unfold elI
  split
  · rename_i n hl
    split
    · rename_i m hc
      dsimp only
      split
      · rename_i hnm
        obtain ⟨h0, rfl⟩ := hnm
        have hn : n = (n.toNat : Int) := by omega
        rw [ev_makeSlice S d l c (n := n.toNat) (by rw [hl, ← hn]) (by rw [hc, ← hn]), ← hn]
      · rfl
    · rfl
  · rfl
theorem ev_callCE (t : Nat) (args : Array Operand) (ats : Array Nat) (d : Option Nat) : evOp Try.prog call ops ⟨d, .call ⟨.value (.tmp t), args, ats⟩, T, pos, aft, none⟩ st =
    elClo (st.env t) (fun g caps => bnd (callFn call g (args.toList.map st.ev ++ caps) st d) fun e => some (e.apply st)) (evOp Try.prog call ops ⟨d, .call ⟨.value (.tmp t), args, ats⟩, T, pos, aft, none⟩ st) := by
  unfold elClo
  split
  · rename_i g caps h; exact ev_callC t args ats h
  · rfl
end
end Try
end Go.Ab
end
section
set_option linter.unusedVariables false
set_option linter.unusedSimpArgs false
namespace Go.Ab
open Classical
/-- The definitions that a step unfolds, as equations. -/
theorem una_not (b : Bool) : unA .not (.v (.bool b)) = some (.v (.bool (!b))) := rfl
theorem una_neg (k : IntKind) (n : Int) : unA .neg (.v (.int k n)) = some (.v (.int k (k.wrap (0 - n)))) := rfl
theorem una_xor (k : IntKind) (n : Int) : unA .xor (.v (.int k n)) = some (.v (.int k (k.wrap (BitVec.ofInt k.bits (if k.signed then -1 else k.max) ^^^ BitVec.ofInt k.bits n).toNat))) := rfl
def convK (a b : Option IntKind) (n : Int) : Option AV :=
  match a, b with
  | some k, some _ => some (.v (.int k (k.wrap n)))
  | _, _ => none
theorem convK_some (k k' : IntKind) (n : Int) : convK (some k) (some k') n = some (.v (.int k (k.wrap n))) := rfl
theorem convA_int (P : Program) (s d : Nat) (k : IntKind) (n : Int) : convA P s d (.v (.int k n)) = convK (intKind P d) (intKind P s) n := by
  simp only [convA, convK]
  cases intKind P d with
  | none => rfl
  | some a => cases intKind P s <;> rfl
theorem add_ptr (s g o k : Nat) : addOff (.ptr s g o) k = some (.ptr s g (o + k)) := rfl
theorem add_ip (cs : List AV) (o k : Nat) : addOff (.ip cs o) k = if o + k ≤ cs.length then some (.ip cs (o + k)) else none := rfl
def loadE (P : Program) (T : Nat) (e : Option Ent) (o : Nat) : Option AV :=
  match e with
  | some (.cells cs) => ldAt P T cs o
  | some (.row _ _ _ cs) => ldAt P T cs o
  | _ => none
theorem loadE_cells (P : Program) (T o : Nat) (cs : List AV) : loadE P T (some (.cells cs)) o = ldAt P T cs o := rfl
theorem loadE_row (P : Program) (T o e sz n : Nat) (cs : List AV) : loadE P T (some (.row e sz n cs)) o = ldAt P T cs o := rfl
theorem load_ip (P : Program) (st : St) (T o : Nat) (cs : List AV) : loadA P st T (.ip cs o) = ldAt P T cs o := rfl
theorem load_ptr (P : Program) (st : St) (T s g o : Nat) : loadA P st T (.ptr s g o) = loadE P T (st.heap s g) o := by
  simp only [loadA, loadE]
  cases st.heap s g with
  | none => rfl
  | some e => cases e <;> rfl
theorem stor_v (x : Value) : (AV.v x).stor = x.oneCell' := rfl
theorem stor_agg (cs : List AV) : (AV.agg cs).stor = true := rfl
theorem stor_sl (n : Nat) (cs : List AV) : (AV.sl n cs).stor = true := rfl
theorem stor_cl (n : Nat) (cs : List AV) : (AV.cl n cs).stor = true := rfl
theorem stor_ip (n : Nat) (cs : List AV) : (AV.ip cs n).stor = true := rfl
theorem stor_ptr (s g o : Nat) : (AV.ptr s g o).stor = true := rfl
theorem stor_own (s g : Nat) : (AV.own s g).stor = true := rfl
theorem stor_mp (s g : Nat) : (AV.mp s g).stor = true := rfl
theorem stor_clo (f : Nat) (cs : List AV) : (AV.clo f cs).stor = true := rfl
theorem cel_v (x : Value) : (AV.v x).cells = [.v x] := rfl
theorem cel_agg (cs : List AV) : (AV.agg cs).cells = cs := rfl
theorem cel_sl (n : Nat) (cs : List AV) : (AV.sl n cs).cells = [.sl n cs] := rfl
theorem cel_cl (n : Nat) (cs : List AV) : (AV.cl n cs).cells = [.cl n cs] := rfl
theorem cel_ip (n : Nat) (cs : List AV) : (AV.ip cs n).cells = [.ip cs n] := rfl
theorem cel_ptr (s g o : Nat) : (AV.ptr s g o).cells = [.ptr s g o] := rfl
theorem cel_own (s g : Nat) : (AV.own s g).cells = [.own s g] := rfl
theorem cel_mp (s g : Nat) : (AV.mp s g).cells = [.mp s g] := rfl
theorem cel_clo (f : Nat) (cs : List AV) : (AV.clo f cs).cells = [.clo f cs] := rfl
theorem one_int (k : IntKind) (n : Int) : (Value.int k n).oneCell' = true := rfl
theorem one_bool (b : Bool) : (Value.bool b).oneCell' = true := rfl
theorem one_slice (a : Option Addr) (n m : Nat) : (Value.slice a n m).oneCell' = true := rfl
theorem inb_normal (id : Nat) : Ex.normal.inBlock id = .normal := rfl
theorem inb_ret (id : Nat) : Ex.ret.inBlock id = .ret := rfl
theorem inb_exit (id i : Nat) : (Ex.exit i).inBlock id = if i = id then .normal else .exit i := rfl
theorem gslot_l (l : List Oper) (j : Nat) : gslot l.toArray j = (l[j]?).bind (·.dst) := by simp [gslot]
theorem gei (a b : Int) : (a ≥ b) = (b ≤ a) := rfl
theorem gti (a b : Int) : (a > b) = (b < a) := rfl
theorem gen' (a b : Nat) : (a ≥ b) = (b ≤ a) := rfl
theorem gtn (a b : Nat) : (a > b) = (b < a) := rfl
end Go.Ab
end
section
set_option linter.unusedVariables false
namespace Go.Ab.Try
open Classical Go.Proofs Go.Ab
theorem EE : ((((type_of% @env_put) ∧ ((type_of% @env_put_none) ∧ (type_of% @env_new))) ∧ (((type_of% @env_setH) ∧ (type_of% @cnt_put)) ∧ ((type_of% @cnt_new) ∧ (type_of% @cnt_setH)))) ∧ ((((type_of% @heap_put) ∧ (type_of% @heap_new)) ∧ ((type_of% @heap_setH) ∧ (type_of% @env_init))) ∧ (((type_of% @cnt_init) ∧ (type_of% @heap_init)) ∧ ((type_of% @and_true) ∧ (type_of% @true_and))))) ∧ ((((type_of% @and_self) ∧ ((type_of% @false_and) ∧ (type_of% @and_false))) ∧ (((type_of% @if_true.{1}) ∧ (type_of% @if_false.{1})) ∧ ((type_of% @not_false_eq_true) ∧ (type_of% @ne_eq.{1})))) ∧ ((((type_of% @Nat.add_zero) ∧ (type_of% @Nat.zero_add)) ∧ ((type_of% @Nat.succ_ne_zero) ∧ (type_of% @Option.getD_some.{0}))) ∧ (((type_of% @Option.getD_none.{0}) ∧ (type_of% @List.getElem?_cons_zero.{0})) ∧ ((type_of% @List.getElem?_cons_succ.{0}) ∧ (type_of% @List.getElem?_nil.{0}))))) := ⟨⟨⟨⟨@env_put, ⟨@env_put_none, @env_new⟩⟩, ⟨⟨@env_setH, @cnt_put⟩, ⟨@cnt_new, @cnt_setH⟩⟩⟩, ⟨⟨⟨@heap_put, @heap_new⟩, ⟨@heap_setH, @env_init⟩⟩, ⟨⟨@cnt_init, @heap_init⟩, ⟨@and_true, @true_and⟩⟩⟩⟩, ⟨⟨⟨@and_self, ⟨@false_and, @and_false⟩⟩, ⟨⟨@if_true.{1}, @if_false.{1}⟩, ⟨@not_false_eq_true, @ne_eq.{1}⟩⟩⟩, ⟨⟨⟨@Nat.add_zero, @Nat.zero_add⟩, ⟨@Nat.succ_ne_zero, @Option.getD_some.{0}⟩⟩, ⟨⟨@Option.getD_none.{0}, @List.getElem?_cons_zero.{0}⟩, ⟨@List.getElem?_cons_succ.{0}, @List.getElem?_nil.{0}⟩⟩⟩⟩⟩
theorem EV : (((((((type_of% @bnd_some) ∧ ((type_of% @bnd_none) ∧ (type_of% @bnd_assoc))) ∧ ((type_of% @onB_bool) ∧ ((type_of% @evOps_nil) ∧ (type_of% @evOps_cons)))) ∧ (((type_of% @ev_guardS) ∧ ((type_of% @decide_true) ∧ (type_of% @decide_false))) ∧ ((type_of% @Int.cast_ofNat_Int) ∧ ((type_of% @Bool.not_true) ∧ (type_of% @Bool.not_false))))) ∧ ((((type_of% @Bool.false_eq_true) ∧ ((type_of% @Bool.true_eq_false) ∧ (type_of% @bin_add))) ∧ ((type_of% @bin_sub) ∧ ((type_of% @bin_mul) ∧ (type_of% @bin_and)))) ∧ (((type_of% @bin_eql) ∧ ((type_of% @bin_neq) ∧ (type_of% @bin_lss))) ∧ (((type_of% @bin_leq) ∧ (type_of% @bin_gtr)) ∧ ((type_of% @bin_geq) ∧ (type_of% @bin_shr)))))) ∧ (((((type_of% @bin_shl) ∧ ((type_of% @bin_quo) ∧ (type_of% @bin_rem))) ∧ ((type_of% @not_false_eq_true) ∧ ((type_of% @ne_eq.{1}) ∧ (type_of% @onS_some)))) ∧ (((type_of% @onGd_true) ∧ ((type_of% @onGd_false) ∧ (type_of% @onGd_undef))) ∧ (((type_of% @Option.bind_some.{0,0}) ∧ (type_of% @ev_move)) ∧ ((type_of% @ev_assign) ∧ (type_of% @ev_pick))))) ∧ ((((type_of% @ev_binOp) ∧ ((type_of% @ev_unOp) ∧ (type_of% @ev_convert))) ∧ ((type_of% @ev_fieldAddr) ∧ ((type_of% @ev_indexAddr) ∧ (type_of% @ev_load)))) ∧ (((type_of% @ev_extract) ∧ ((type_of% @ev_build) ∧ (type_of% @ev_slice))) ∧ (((type_of% @ev_alloc) ∧ (type_of% @ev_box)) ∧ ((type_of% @ev_store) ∧ (type_of% @ev_callT))))))) ∧ ((((((type_of% @ev_call78) ∧ ((type_of% @ev_call54) ∧ (type_of% @Bool.or_false))) ∧ ((type_of% @Bool.false_or) ∧ ((type_of% @Bool.or_true) ∧ (type_of% @ev_lenT)))) ∧ (((type_of% @ev_appendT) ∧ ((type_of% @ev_slice3) ∧ (type_of% @ev_lookup))) ∧ ((type_of% @ev_makeMap) ∧ ((type_of% @ev_mapUpdate) ∧ (type_of% @ev_makeFunc))))) ∧ ((((type_of% @expo_ownF) ∧ ((type_of% @expo_aggown) ∧ (type_of% @idx22_own))) ∧ ((type_of% @idx23_own) ∧ ((type_of% @ioE_int) ∧ (type_of% @ioE_node)))) ∧ (((type_of% @get_csInt0) ∧ ((type_of% @expoF_int) ∧ (type_of% @expoF_u64))) ∧ (((type_of% @expoF_node) ∧ (type_of% @expoF_node1)) ∧ ((type_of% @Option.map_some.{0,0}) ∧ (type_of% @expo_v)))))) ∧ (((((type_of% @expo_tree) ∧ ((type_of% @expo_root) ∧ (type_of% @expo_block))) ∧ ((type_of% @expo_slI) ∧ ((type_of% @expo_slU) ∧ (type_of% @expo_nt)))) ∧ (((type_of% @optAll_nil) ∧ ((type_of% @optAll_some) ∧ (type_of% @ev_bs22E))) ∧ (((type_of% @ev_bs22_3E) ∧ (type_of% @ev_bs23E)) ∧ ((type_of% @ev_makeSliceE) ∧ (type_of% @ev_callCE))))) ∧ ((((type_of% @elI_int) ∧ ((type_of% @elAgg_agg) ∧ (type_of% @elClo_clo))) ∧ ((type_of% @elV_int) ∧ ((type_of% @elV_bool) ∧ (type_of% @elA_agg)))) ∧ (((type_of% @ioE_row) ∧ ((type_of% @app22_nil) ∧ (type_of% @app22_own))) ∧ (((type_of% @app23_nil) ∧ (type_of% @app23_own)) ∧ ((type_of% @app23_cl) ∧ (type_of% @view_ownV)))))))) ∧ (((((((type_of% @vow_row) ∧ ((type_of% @an_int1) ∧ (type_of% @ao_int1))) ∧ ((type_of% @an_node1) ∧ ((type_of% @ao_node1) ∧ (type_of% @an_nodes)))) ∧ (((type_of% @ac_nodes) ∧ ((type_of% @ac_node1) ∧ (type_of% @apply_upd))) ∧ ((type_of% @apply_updnew) ∧ ((type_of% @view_sl) ∧ (type_of% @view_nil))))) ∧ ((((type_of% @idx23) ∧ ((type_of% @idx22) ∧ (type_of% @ev_const))) ∧ ((type_of% @ev_tmp) ∧ ((type_of% @env_put) ∧ (type_of% @env_put_none)))) ∧ (((type_of% @env_new) ∧ ((type_of% @env_setH) ∧ (type_of% @cnt_put))) ∧ (((type_of% @cnt_new) ∧ (type_of% @cnt_setH)) ∧ ((type_of% @heap_put) ∧ (type_of% @heap_new)))))) ∧ (((((type_of% @heap_setH) ∧ ((type_of% @env_init) ∧ (type_of% @cnt_init))) ∧ ((type_of% @heap_init) ∧ ((type_of% @put_none) ∧ (type_of% @apply_plain)))) ∧ (((type_of% @apply_new) ∧ ((type_of% @List.toList_toArray.{0}) ∧ (type_of% @List.map_cons.{0,0}))) ∧ (((type_of% @List.map_nil.{0,0}) ∧ (type_of% @evL_seq)) ∧ ((type_of% @evL_region) ∧ (type_of% @evL_block))))) ∧ ((((type_of% @evL_skip) ∧ ((type_of% @evL_exit) ∧ (type_of% @evL_ret))) ∧ ((type_of% @evL_condB) ∧ ((type_of% @thenL_normal) ∧ (type_of% @thenL_ret)))) ∧ (((type_of% @thenL_exit) ∧ ((type_of% @List.getElem?_cons_zero.{0}) ∧ (type_of% @List.getElem?_cons_succ.{0}))) ∧ (((type_of% @List.getElem?_nil.{0}) ∧ (type_of% @Option.getD_some.{0})) ∧ ((type_of% @Option.getD_none.{0}) ∧ (type_of% @and_true))))))) ∧ ((((((type_of% @true_and) ∧ ((type_of% @and_self) ∧ (type_of% @false_and))) ∧ ((type_of% @and_false) ∧ ((type_of% @if_true.{1}) ∧ (type_of% @if_false.{1})))) ∧ (((type_of% @Nat.succ_ne_zero) ∧ ((type_of% @one_ne_zero') ∧ (type_of% @zero_ne_one'))) ∧ ((type_of% @Nat.add_zero) ∧ ((type_of% @Nat.zero_add) ∧ (type_of% @una_not))))) ∧ ((((type_of% @una_neg) ∧ ((type_of% @una_xor) ∧ (type_of% @convK_some))) ∧ ((type_of% @convA_int) ∧ ((type_of% @add_ptr) ∧ (type_of% @add_ip)))) ∧ (((type_of% @loadE_cells) ∧ ((type_of% @loadE_row) ∧ (type_of% @load_ip))) ∧ (((type_of% @load_ptr) ∧ (type_of% @stor_v)) ∧ ((type_of% @stor_agg) ∧ (type_of% @stor_sl)))))) ∧ (((((type_of% @stor_cl) ∧ ((type_of% @stor_ip) ∧ (type_of% @stor_ptr))) ∧ ((type_of% @stor_own) ∧ ((type_of% @stor_mp) ∧ (type_of% @stor_clo)))) ∧ (((type_of% @cel_v) ∧ ((type_of% @cel_agg) ∧ (type_of% @cel_sl))) ∧ (((type_of% @cel_cl) ∧ (type_of% @cel_ip)) ∧ ((type_of% @cel_ptr) ∧ (type_of% @cel_own))))) ∧ ((((type_of% @cel_mp) ∧ ((type_of% @cel_clo) ∧ (type_of% @one_int))) ∧ ((type_of% @one_bool) ∧ ((type_of% @one_slice) ∧ (type_of% @inb_normal)))) ∧ (((type_of% @inb_ret) ∧ ((type_of% @inb_exit) ∧ (type_of% @gslot_l))) ∧ (((type_of% @gei) ∧ (type_of% @gti)) ∧ ((type_of% @gen') ∧ (type_of% @gtn)))))))) := ⟨⟨⟨⟨⟨⟨⟨@bnd_some, ⟨@bnd_none, @bnd_assoc⟩⟩, ⟨@onB_bool, ⟨@evOps_nil, @evOps_cons⟩⟩⟩, ⟨⟨@ev_guardS, ⟨@decide_true, @decide_false⟩⟩, ⟨@Int.cast_ofNat_Int, ⟨@Bool.not_true, @Bool.not_false⟩⟩⟩⟩, ⟨⟨⟨@Bool.false_eq_true, ⟨@Bool.true_eq_false, @bin_add⟩⟩, ⟨@bin_sub, ⟨@bin_mul, @bin_and⟩⟩⟩, ⟨⟨@bin_eql, ⟨@bin_neq, @bin_lss⟩⟩, ⟨⟨@bin_leq, @bin_gtr⟩, ⟨@bin_geq, @bin_shr⟩⟩⟩⟩⟩, ⟨⟨⟨⟨@bin_shl, ⟨@bin_quo, @bin_rem⟩⟩, ⟨@not_false_eq_true, ⟨@ne_eq.{1}, @onS_some⟩⟩⟩, ⟨⟨@onGd_true, ⟨@onGd_false, @onGd_undef⟩⟩, ⟨⟨@Option.bind_some.{0,0}, @ev_move⟩, ⟨@ev_assign, @ev_pick⟩⟩⟩⟩, ⟨⟨⟨@ev_binOp, ⟨@ev_unOp, @ev_convert⟩⟩, ⟨@ev_fieldAddr, ⟨@ev_indexAddr, @ev_load⟩⟩⟩, ⟨⟨@ev_extract, ⟨@ev_build, @ev_slice⟩⟩, ⟨⟨@ev_alloc, @ev_box⟩, ⟨@ev_store, @ev_callT⟩⟩⟩⟩⟩⟩, ⟨⟨⟨⟨⟨@ev_call78, ⟨@ev_call54, @Bool.or_false⟩⟩, ⟨@Bool.false_or, ⟨@Bool.or_true, @ev_lenT⟩⟩⟩, ⟨⟨@ev_appendT, ⟨@ev_slice3, @ev_lookup⟩⟩, ⟨@ev_makeMap, ⟨@ev_mapUpdate, @ev_makeFunc⟩⟩⟩⟩, ⟨⟨⟨@expo_ownF, ⟨@expo_aggown, @idx22_own⟩⟩, ⟨@idx23_own, ⟨@ioE_int, @ioE_node⟩⟩⟩, ⟨⟨@get_csInt0, ⟨@expoF_int, @expoF_u64⟩⟩, ⟨⟨@expoF_node, @expoF_node1⟩, ⟨@Option.map_some.{0,0}, @expo_v⟩⟩⟩⟩⟩, ⟨⟨⟨⟨@expo_tree, ⟨@expo_root, @expo_block⟩⟩, ⟨@expo_slI, ⟨@expo_slU, @expo_nt⟩⟩⟩, ⟨⟨@optAll_nil, ⟨@optAll_some, @ev_bs22E⟩⟩, ⟨⟨@ev_bs22_3E, @ev_bs23E⟩, ⟨@ev_makeSliceE, @ev_callCE⟩⟩⟩⟩, ⟨⟨⟨@elI_int, ⟨@elAgg_agg, @elClo_clo⟩⟩, ⟨@elV_int, ⟨@elV_bool, @elA_agg⟩⟩⟩, ⟨⟨@ioE_row, ⟨@app22_nil, @app22_own⟩⟩, ⟨⟨@app23_nil, @app23_own⟩, ⟨@app23_cl, @view_ownV⟩⟩⟩⟩⟩⟩⟩, ⟨⟨⟨⟨⟨⟨@vow_row, ⟨@an_int1, @ao_int1⟩⟩, ⟨@an_node1, ⟨@ao_node1, @an_nodes⟩⟩⟩, ⟨⟨@ac_nodes, ⟨@ac_node1, @apply_upd⟩⟩, ⟨@apply_updnew, ⟨@view_sl, @view_nil⟩⟩⟩⟩, ⟨⟨⟨@idx23, ⟨@idx22, @ev_const⟩⟩, ⟨@ev_tmp, ⟨@env_put, @env_put_none⟩⟩⟩, ⟨⟨@env_new, ⟨@env_setH, @cnt_put⟩⟩, ⟨⟨@cnt_new, @cnt_setH⟩, ⟨@heap_put, @heap_new⟩⟩⟩⟩⟩, ⟨⟨⟨⟨@heap_setH, ⟨@env_init, @cnt_init⟩⟩, ⟨@heap_init, ⟨@put_none, @apply_plain⟩⟩⟩, ⟨⟨@apply_new, ⟨@List.toList_toArray.{0}, @List.map_cons.{0,0}⟩⟩, ⟨⟨@List.map_nil.{0,0}, @evL_seq⟩, ⟨@evL_region, @evL_block⟩⟩⟩⟩, ⟨⟨⟨@evL_skip, ⟨@evL_exit, @evL_ret⟩⟩, ⟨@evL_condB, ⟨@thenL_normal, @thenL_ret⟩⟩⟩, ⟨⟨@thenL_exit, ⟨@List.getElem?_cons_zero.{0}, @List.getElem?_cons_succ.{0}⟩⟩, ⟨⟨@List.getElem?_nil.{0}, @Option.getD_some.{0}⟩, ⟨@Option.getD_none.{0}, @and_true⟩⟩⟩⟩⟩⟩, ⟨⟨⟨⟨⟨@true_and, ⟨@and_self, @false_and⟩⟩, ⟨@and_false, ⟨@if_true.{1}, @if_false.{1}⟩⟩⟩, ⟨⟨@Nat.succ_ne_zero, ⟨@one_ne_zero', @zero_ne_one'⟩⟩, ⟨@Nat.add_zero, ⟨@Nat.zero_add, @una_not⟩⟩⟩⟩, ⟨⟨⟨@una_neg, ⟨@una_xor, @convK_some⟩⟩, ⟨@convA_int, ⟨@add_ptr, @add_ip⟩⟩⟩, ⟨⟨@loadE_cells, ⟨@loadE_row, @load_ip⟩⟩, ⟨⟨@load_ptr, @stor_v⟩, ⟨@stor_agg, @stor_sl⟩⟩⟩⟩⟩, ⟨⟨⟨⟨@stor_cl, ⟨@stor_ip, @stor_ptr⟩⟩, ⟨@stor_own, ⟨@stor_mp, @stor_clo⟩⟩⟩, ⟨⟨@cel_v, ⟨@cel_agg, @cel_sl⟩⟩, ⟨⟨@cel_cl, @cel_ip⟩, ⟨@cel_ptr, @cel_own⟩⟩⟩⟩, ⟨⟨⟨@cel_mp, ⟨@cel_clo, @one_int⟩⟩, ⟨@one_bool, ⟨@one_slice, @inb_normal⟩⟩⟩, ⟨⟨@inb_ret, ⟨@inb_exit, @gslot_l⟩⟩, ⟨⟨@gei, @gti⟩, ⟨@gen', @gtn⟩⟩⟩⟩⟩⟩⟩⟩
theorem LE : (((((type_of% @rd_one) ∧ (type_of% @up_one)) ∧ ((type_of% @up_treeX) ∧ ((type_of% @up_treeY) ∧ (type_of% @len_csNode)))) ∧ (((type_of% @len_csInt) ∧ (type_of% @len_csU64)) ∧ ((type_of% @len_csRoot) ∧ ((type_of% @cInt_c) ∧ (type_of% @cU64_c))))) ∧ ((((type_of% @cBool_c) ∧ (type_of% @len_cU64)) ∧ ((type_of% @len_cInt) ∧ ((type_of% @len_cBool) ∧ (type_of% @len_cRoot)))) ∧ (((type_of% @len_cWide) ∧ ((type_of% @len_cCkpt) ∧ (type_of% @len_cPulled))) ∧ ((type_of% @len_cBlock) ∧ ((type_of% @len_cNode) ∧ (type_of% @len_cTree)))))) ∧ (((((type_of% @Nat.sub_zero) ∧ (type_of% @Nat.le_refl)) ∧ ((type_of% @fill_nil) ∧ ((type_of% @fill_cons) ∧ (type_of% @Option.map_some.{0,0})))) ∧ (((type_of% @List.all_cons.{0}) ∧ (type_of% @List.all_nil.{0})) ∧ ((type_of% @Bool.and_true) ∧ ((type_of% @Bool.true_and) ∧ (type_of% @Bool.and_self))))) ∧ ((((type_of% @store_ptr) ∧ (type_of% @List.length_cons.{0})) ∧ ((type_of% @List.length_nil.{0}) ∧ ((type_of% @vRoot_c) ∧ (type_of% @vWide_c)))) ∧ (((type_of% @vBlock_c) ∧ ((type_of% @vCkpt_c) ∧ (type_of% @vPulled_c))) ∧ ((type_of% @vNode_c) ∧ ((type_of% @Nat.zero_le) ∧ (type_of% @Nat.mul_one)))))) := ⟨⟨⟨⟨⟨@rd_one, @up_one⟩, ⟨@up_treeX, ⟨@up_treeY, @len_csNode⟩⟩⟩, ⟨⟨@len_csInt, @len_csU64⟩, ⟨@len_csRoot, ⟨@cInt_c, @cU64_c⟩⟩⟩⟩, ⟨⟨⟨@cBool_c, @len_cU64⟩, ⟨@len_cInt, ⟨@len_cBool, @len_cRoot⟩⟩⟩, ⟨⟨@len_cWide, ⟨@len_cCkpt, @len_cPulled⟩⟩, ⟨@len_cBlock, ⟨@len_cNode, @len_cTree⟩⟩⟩⟩⟩, ⟨⟨⟨⟨@Nat.sub_zero, @Nat.le_refl⟩, ⟨@fill_nil, ⟨@fill_cons, @Option.map_some.{0,0}⟩⟩⟩, ⟨⟨@List.all_cons.{0}, @List.all_nil.{0}⟩, ⟨@Bool.and_true, ⟨@Bool.true_and, @Bool.and_self⟩⟩⟩⟩, ⟨⟨⟨@store_ptr, @List.length_cons.{0}⟩, ⟨@List.length_nil.{0}, ⟨@vRoot_c, @vWide_c⟩⟩⟩, ⟨⟨@vBlock_c, ⟨@vCkpt_c, @vPulled_c⟩⟩, ⟨@vNode_c, ⟨@Nat.zero_le, @Nat.mul_one⟩⟩⟩⟩⟩⟩
theorem RD : ((((((type_of% @rd_Root_all) ∧ ((type_of% @up_Root_all) ∧ (type_of% @rd_Wide_all))) ∧ (((type_of% @up_Wide_all) ∧ (type_of% @get_Ckpt_epoch)) ∧ ((type_of% @up_Ckpt_epoch) ∧ (type_of% @rd_Ckpt_root)))) ∧ (((type_of% @up_Ckpt_root) ∧ ((type_of% @rd_Ckpt_all) ∧ (type_of% @up_Ckpt_all))) ∧ (((type_of% @rd_Pulled_pj) ∧ (type_of% @up_Pulled_pj)) ∧ ((type_of% @get_Pulled_pj_epoch) ∧ (type_of% @up_Pulled_pj_epoch))))) ∧ ((((type_of% @rd_Pulled_pj_root) ∧ ((type_of% @up_Pulled_pj_root) ∧ (type_of% @rd_Pulled_pf))) ∧ (((type_of% @up_Pulled_pf) ∧ (type_of% @get_Pulled_pf_epoch)) ∧ ((type_of% @up_Pulled_pf_epoch) ∧ (type_of% @rd_Pulled_pf_root)))) ∧ ((((type_of% @up_Pulled_pf_root) ∧ (type_of% @rd_Pulled_all)) ∧ ((type_of% @up_Pulled_all) ∧ (type_of% @rd_Block_pulled))) ∧ (((type_of% @up_Block_pulled) ∧ (type_of% @rd_Block_pulled_pj)) ∧ ((type_of% @up_Block_pulled_pj) ∧ (type_of% @get_Block_pulled_pj_epoch)))))) ∧ (((((type_of% @up_Block_pulled_pj_epoch) ∧ ((type_of% @rd_Block_pulled_pj_root) ∧ (type_of% @up_Block_pulled_pj_root))) ∧ (((type_of% @rd_Block_pulled_pf) ∧ (type_of% @up_Block_pulled_pf)) ∧ ((type_of% @get_Block_pulled_pf_epoch) ∧ (type_of% @up_Block_pulled_pf_epoch)))) ∧ ((((type_of% @rd_Block_pulled_pf_root) ∧ (type_of% @up_Block_pulled_pf_root)) ∧ ((type_of% @get_Block_slot) ∧ (type_of% @up_Block_slot))) ∧ (((type_of% @rd_Block_root) ∧ (type_of% @up_Block_root)) ∧ ((type_of% @rd_Block_parent) ∧ (type_of% @up_Block_parent))))) ∧ ((((type_of% @rd_Block_payload) ∧ ((type_of% @up_Block_payload) ∧ (type_of% @rd_Block_diff))) ∧ (((type_of% @up_Block_diff) ∧ (type_of% @rd_Block_pdiff)) ∧ ((type_of% @up_Block_pdiff) ∧ (type_of% @rd_Block_just)))) ∧ ((((type_of% @up_Block_just) ∧ (type_of% @get_Block_just_epoch)) ∧ ((type_of% @up_Block_just_epoch) ∧ (type_of% @rd_Block_just_root))) ∧ (((type_of% @up_Block_just_root) ∧ (type_of% @rd_Block_fin)) ∧ ((type_of% @up_Block_fin) ∧ (type_of% @get_Block_fin_epoch))))))) ∧ ((((((type_of% @up_Block_fin_epoch) ∧ ((type_of% @rd_Block_fin_root) ∧ (type_of% @up_Block_fin_root))) ∧ (((type_of% @get_Block_timely) ∧ (type_of% @up_Block_timely)) ∧ ((type_of% @rd_Block_all) ∧ (type_of% @up_Block_all)))) ∧ (((type_of% @rd_Node_block) ∧ ((type_of% @up_Node_block) ∧ (type_of% @rd_Node_block_pulled))) ∧ (((type_of% @up_Node_block_pulled) ∧ (type_of% @rd_Node_block_pulled_pj)) ∧ ((type_of% @up_Node_block_pulled_pj) ∧ (type_of% @get_Node_block_pulled_pj_epoch))))) ∧ ((((type_of% @up_Node_block_pulled_pj_epoch) ∧ ((type_of% @rd_Node_block_pulled_pj_root) ∧ (type_of% @up_Node_block_pulled_pj_root))) ∧ (((type_of% @rd_Node_block_pulled_pf) ∧ (type_of% @up_Node_block_pulled_pf)) ∧ ((type_of% @get_Node_block_pulled_pf_epoch) ∧ (type_of% @up_Node_block_pulled_pf_epoch)))) ∧ ((((type_of% @rd_Node_block_pulled_pf_root) ∧ (type_of% @up_Node_block_pulled_pf_root)) ∧ ((type_of% @get_Node_block_slot) ∧ (type_of% @up_Node_block_slot))) ∧ (((type_of% @rd_Node_block_root) ∧ (type_of% @up_Node_block_root)) ∧ ((type_of% @rd_Node_block_parent) ∧ (type_of% @up_Node_block_parent)))))) ∧ (((((type_of% @rd_Node_block_payload) ∧ ((type_of% @up_Node_block_payload) ∧ (type_of% @rd_Node_block_diff))) ∧ (((type_of% @up_Node_block_diff) ∧ (type_of% @rd_Node_block_pdiff)) ∧ ((type_of% @up_Node_block_pdiff) ∧ (type_of% @rd_Node_block_just)))) ∧ ((((type_of% @up_Node_block_just) ∧ (type_of% @get_Node_block_just_epoch)) ∧ ((type_of% @up_Node_block_just_epoch) ∧ (type_of% @rd_Node_block_just_root))) ∧ (((type_of% @up_Node_block_just_root) ∧ (type_of% @rd_Node_block_fin)) ∧ ((type_of% @up_Node_block_fin) ∧ (type_of% @get_Node_block_fin_epoch))))) ∧ ((((type_of% @up_Node_block_fin_epoch) ∧ ((type_of% @rd_Node_block_fin_root) ∧ (type_of% @up_Node_block_fin_root))) ∧ (((type_of% @get_Node_block_timely) ∧ (type_of% @up_Node_block_timely)) ∧ ((type_of% @get_Node_up) ∧ (type_of% @up_Node_up)))) ∧ ((((type_of% @get_Node_status) ∧ (type_of% @up_Node_status)) ∧ ((type_of% @rd_Node_all) ∧ (type_of% @up_Node_all))) ∧ (((type_of% @get_Tree_nodes) ∧ (type_of% @up_Tree_nodes)) ∧ ((type_of% @rd_Tree_all) ∧ (type_of% @up_Tree_all))))))) := ⟨⟨⟨⟨⟨⟨@rd_Root_all, ⟨@up_Root_all, @rd_Wide_all⟩⟩, ⟨⟨@up_Wide_all, @get_Ckpt_epoch⟩, ⟨@up_Ckpt_epoch, @rd_Ckpt_root⟩⟩⟩, ⟨⟨@up_Ckpt_root, ⟨@rd_Ckpt_all, @up_Ckpt_all⟩⟩, ⟨⟨@rd_Pulled_pj, @up_Pulled_pj⟩, ⟨@get_Pulled_pj_epoch, @up_Pulled_pj_epoch⟩⟩⟩⟩, ⟨⟨⟨@rd_Pulled_pj_root, ⟨@up_Pulled_pj_root, @rd_Pulled_pf⟩⟩, ⟨⟨@up_Pulled_pf, @get_Pulled_pf_epoch⟩, ⟨@up_Pulled_pf_epoch, @rd_Pulled_pf_root⟩⟩⟩, ⟨⟨⟨@up_Pulled_pf_root, @rd_Pulled_all⟩, ⟨@up_Pulled_all, @rd_Block_pulled⟩⟩, ⟨⟨@up_Block_pulled, @rd_Block_pulled_pj⟩, ⟨@up_Block_pulled_pj, @get_Block_pulled_pj_epoch⟩⟩⟩⟩⟩, ⟨⟨⟨⟨@up_Block_pulled_pj_epoch, ⟨@rd_Block_pulled_pj_root, @up_Block_pulled_pj_root⟩⟩, ⟨⟨@rd_Block_pulled_pf, @up_Block_pulled_pf⟩, ⟨@get_Block_pulled_pf_epoch, @up_Block_pulled_pf_epoch⟩⟩⟩, ⟨⟨⟨@rd_Block_pulled_pf_root, @up_Block_pulled_pf_root⟩, ⟨@get_Block_slot, @up_Block_slot⟩⟩, ⟨⟨@rd_Block_root, @up_Block_root⟩, ⟨@rd_Block_parent, @up_Block_parent⟩⟩⟩⟩, ⟨⟨⟨@rd_Block_payload, ⟨@up_Block_payload, @rd_Block_diff⟩⟩, ⟨⟨@up_Block_diff, @rd_Block_pdiff⟩, ⟨@up_Block_pdiff, @rd_Block_just⟩⟩⟩, ⟨⟨⟨@up_Block_just, @get_Block_just_epoch⟩, ⟨@up_Block_just_epoch, @rd_Block_just_root⟩⟩, ⟨⟨@up_Block_just_root, @rd_Block_fin⟩, ⟨@up_Block_fin, @get_Block_fin_epoch⟩⟩⟩⟩⟩⟩, ⟨⟨⟨⟨⟨@up_Block_fin_epoch, ⟨@rd_Block_fin_root, @up_Block_fin_root⟩⟩, ⟨⟨@get_Block_timely, @up_Block_timely⟩, ⟨@rd_Block_all, @up_Block_all⟩⟩⟩, ⟨⟨@rd_Node_block, ⟨@up_Node_block, @rd_Node_block_pulled⟩⟩, ⟨⟨@up_Node_block_pulled, @rd_Node_block_pulled_pj⟩, ⟨@up_Node_block_pulled_pj, @get_Node_block_pulled_pj_epoch⟩⟩⟩⟩, ⟨⟨⟨@up_Node_block_pulled_pj_epoch, ⟨@rd_Node_block_pulled_pj_root, @up_Node_block_pulled_pj_root⟩⟩, ⟨⟨@rd_Node_block_pulled_pf, @up_Node_block_pulled_pf⟩, ⟨@get_Node_block_pulled_pf_epoch, @up_Node_block_pulled_pf_epoch⟩⟩⟩, ⟨⟨⟨@rd_Node_block_pulled_pf_root, @up_Node_block_pulled_pf_root⟩, ⟨@get_Node_block_slot, @up_Node_block_slot⟩⟩, ⟨⟨@rd_Node_block_root, @up_Node_block_root⟩, ⟨@rd_Node_block_parent, @up_Node_block_parent⟩⟩⟩⟩⟩, ⟨⟨⟨⟨@rd_Node_block_payload, ⟨@up_Node_block_payload, @rd_Node_block_diff⟩⟩, ⟨⟨@up_Node_block_diff, @rd_Node_block_pdiff⟩, ⟨@up_Node_block_pdiff, @rd_Node_block_just⟩⟩⟩, ⟨⟨⟨@up_Node_block_just, @get_Node_block_just_epoch⟩, ⟨@up_Node_block_just_epoch, @rd_Node_block_just_root⟩⟩, ⟨⟨@up_Node_block_just_root, @rd_Node_block_fin⟩, ⟨@up_Node_block_fin, @get_Node_block_fin_epoch⟩⟩⟩⟩, ⟨⟨⟨@up_Node_block_fin_epoch, ⟨@rd_Node_block_fin_root, @up_Node_block_fin_root⟩⟩, ⟨⟨@get_Node_block_timely, @up_Node_block_timely⟩, ⟨@get_Node_up, @up_Node_up⟩⟩⟩, ⟨⟨⟨@get_Node_status, @up_Node_status⟩, ⟨@rd_Node_all, @up_Node_all⟩⟩, ⟨⟨@get_Tree_nodes, @up_Tree_nodes⟩, ⟨@rd_Tree_all, @up_Tree_all⟩⟩⟩⟩⟩⟩⟩
theorem FA : (((((((type_of% @ld3) ∧ (type_of% @ik3)) ∧ ((type_of% @lk3) ∧ (type_of% @ze3))) ∧ (((type_of% @ld38) ∧ (type_of% @ik38)) ∧ ((type_of% @lk38) ∧ ((type_of% @ze38) ∧ (type_of% @ld58))))) ∧ ((((type_of% @ik58) ∧ (type_of% @lk58)) ∧ ((type_of% @ze58) ∧ (type_of% @ld5))) ∧ (((type_of% @ik5) ∧ (type_of% @lk5)) ∧ ((type_of% @ze5) ∧ ((type_of% @ld2) ∧ (type_of% @ik2)))))) ∧ (((((type_of% @lk2) ∧ (type_of% @ze2)) ∧ ((type_of% @ld27) ∧ (type_of% @ik27))) ∧ (((type_of% @lk27) ∧ (type_of% @ze27)) ∧ ((type_of% @ld4) ∧ ((type_of% @lk4) ∧ (type_of% @ze4))))) ∧ ((((type_of% @be4) ∧ (type_of% @bn4)) ∧ ((type_of% @ld44) ∧ (type_of% @lk44))) ∧ (((type_of% @ze44) ∧ (type_of% @eq44)) ∧ ((type_of% @be44) ∧ ((type_of% @bn44) ∧ (type_of% @ar44))))))) ∧ ((((((type_of% @bu44) ∧ (type_of% @ld50)) ∧ ((type_of% @lk50) ∧ (type_of% @ze50))) ∧ (((type_of% @eq50) ∧ (type_of% @be50)) ∧ ((type_of% @bn50) ∧ ((type_of% @ar50) ∧ (type_of% @bu50))))) ∧ ((((type_of% @ld46) ∧ (type_of% @lk46)) ∧ ((type_of% @fo46_0) ∧ (type_of% @fo46_1))) ∧ (((type_of% @ze46) ∧ (type_of% @eq46)) ∧ ((type_of% @be46) ∧ ((type_of% @bn46) ∧ (type_of% @bu46)))))) ∧ (((((type_of% @ld48) ∧ (type_of% @lk48)) ∧ ((type_of% @fo48_0) ∧ (type_of% @fo48_1))) ∧ (((type_of% @ze48) ∧ (type_of% @eq48)) ∧ ((type_of% @be48) ∧ ((type_of% @bn48) ∧ (type_of% @bu48))))) ∧ ((((type_of% @ld52) ∧ (type_of% @lk52)) ∧ ((type_of% @fo52_0) ∧ ((type_of% @fo52_1) ∧ (type_of% @fo52_2)))) ∧ (((type_of% @fo52_3) ∧ (type_of% @fo52_4)) ∧ ((type_of% @fo52_5) ∧ ((type_of% @fo52_6) ∧ (type_of% @fo52_7)))))))) ∧ (((((((type_of% @fo52_8) ∧ (type_of% @fo52_9)) ∧ ((type_of% @ze52) ∧ (type_of% @eq52))) ∧ (((type_of% @be52) ∧ (type_of% @bn52)) ∧ ((type_of% @bu52) ∧ ((type_of% @ld54) ∧ (type_of% @lk54))))) ∧ ((((type_of% @fo54_0) ∧ (type_of% @fo54_1)) ∧ ((type_of% @fo54_2) ∧ (type_of% @ze54))) ∧ (((type_of% @eq54) ∧ (type_of% @be54)) ∧ ((type_of% @bn54) ∧ ((type_of% @bu54) ∧ (type_of% @ld25)))))) ∧ (((((type_of% @lk25) ∧ (type_of% @fo25_0)) ∧ ((type_of% @ze25) ∧ (type_of% @bu25))) ∧ (((type_of% @sl22) ∧ (type_of% @na22)) ∧ ((type_of% @ld22) ∧ ((type_of% @lk22) ∧ (type_of% @ze22))))) ∧ ((((type_of% @ns22) ∧ (type_of% @nn22)) ∧ ((type_of% @sl23) ∧ ((type_of% @na23) ∧ (type_of% @ld23)))) ∧ (((type_of% @lk23) ∧ (type_of% @ze23)) ∧ ((type_of% @ns23) ∧ ((type_of% @nn23) ∧ (type_of% @sl36))))))) ∧ ((((((type_of% @na36) ∧ (type_of% @ld36)) ∧ ((type_of% @lk36) ∧ (type_of% @ze36))) ∧ (((type_of% @ns36) ∧ (type_of% @nn36)) ∧ ((type_of% @sl93) ∧ ((type_of% @na93) ∧ (type_of% @ld93))))) ∧ ((((type_of% @lk93) ∧ (type_of% @ze93)) ∧ ((type_of% @ns93) ∧ (type_of% @nn93))) ∧ (((type_of% @an22) ∧ (type_of% @ao22)) ∧ ((type_of% @ac22) ∧ ((type_of% @io22) ∧ (type_of% @b022)))))) ∧ (((((type_of% @b122) ∧ (type_of% @an23)) ∧ ((type_of% @ao23) ∧ (type_of% @ac23))) ∧ (((type_of% @io23) ∧ (type_of% @b023)) ∧ ((type_of% @b123) ∧ ((type_of% @an36) ∧ (type_of% @ao36))))) ∧ ((((type_of% @ac36) ∧ (type_of% @io36)) ∧ ((type_of% @b036) ∧ ((type_of% @b136) ∧ (type_of% @an93)))) ∧ (((type_of% @ao93) ∧ (type_of% @ac93)) ∧ ((type_of% @io93) ∧ ((type_of% @b093) ∧ (type_of% @b193)))))))) := ⟨⟨⟨⟨⟨⟨⟨@ld3, @ik3⟩, ⟨@lk3, @ze3⟩⟩, ⟨⟨@ld38, @ik38⟩, ⟨@lk38, ⟨@ze38, @ld58⟩⟩⟩⟩, ⟨⟨⟨@ik58, @lk58⟩, ⟨@ze58, @ld5⟩⟩, ⟨⟨@ik5, @lk5⟩, ⟨@ze5, ⟨@ld2, @ik2⟩⟩⟩⟩⟩, ⟨⟨⟨⟨@lk2, @ze2⟩, ⟨@ld27, @ik27⟩⟩, ⟨⟨@lk27, @ze27⟩, ⟨@ld4, ⟨@lk4, @ze4⟩⟩⟩⟩, ⟨⟨⟨@be4, @bn4⟩, ⟨@ld44, @lk44⟩⟩, ⟨⟨@ze44, @eq44⟩, ⟨@be44, ⟨@bn44, @ar44⟩⟩⟩⟩⟩⟩, ⟨⟨⟨⟨⟨@bu44, @ld50⟩, ⟨@lk50, @ze50⟩⟩, ⟨⟨@eq50, @be50⟩, ⟨@bn50, ⟨@ar50, @bu50⟩⟩⟩⟩, ⟨⟨⟨@ld46, @lk46⟩, ⟨@fo46_0, @fo46_1⟩⟩, ⟨⟨@ze46, @eq46⟩, ⟨@be46, ⟨@bn46, @bu46⟩⟩⟩⟩⟩, ⟨⟨⟨⟨@ld48, @lk48⟩, ⟨@fo48_0, @fo48_1⟩⟩, ⟨⟨@ze48, @eq48⟩, ⟨@be48, ⟨@bn48, @bu48⟩⟩⟩⟩, ⟨⟨⟨@ld52, @lk52⟩, ⟨@fo52_0, ⟨@fo52_1, @fo52_2⟩⟩⟩, ⟨⟨@fo52_3, @fo52_4⟩, ⟨@fo52_5, ⟨@fo52_6, @fo52_7⟩⟩⟩⟩⟩⟩⟩, ⟨⟨⟨⟨⟨⟨@fo52_8, @fo52_9⟩, ⟨@ze52, @eq52⟩⟩, ⟨⟨@be52, @bn52⟩, ⟨@bu52, ⟨@ld54, @lk54⟩⟩⟩⟩, ⟨⟨⟨@fo54_0, @fo54_1⟩, ⟨@fo54_2, @ze54⟩⟩, ⟨⟨@eq54, @be54⟩, ⟨@bn54, ⟨@bu54, @ld25⟩⟩⟩⟩⟩, ⟨⟨⟨⟨@lk25, @fo25_0⟩, ⟨@ze25, @bu25⟩⟩, ⟨⟨@sl22, @na22⟩, ⟨@ld22, ⟨@lk22, @ze22⟩⟩⟩⟩, ⟨⟨⟨@ns22, @nn22⟩, ⟨@sl23, ⟨@na23, @ld23⟩⟩⟩, ⟨⟨@lk23, @ze23⟩, ⟨@ns23, ⟨@nn23, @sl36⟩⟩⟩⟩⟩⟩, ⟨⟨⟨⟨⟨@na36, @ld36⟩, ⟨@lk36, @ze36⟩⟩, ⟨⟨@ns36, @nn36⟩, ⟨@sl93, ⟨@na93, @ld93⟩⟩⟩⟩, ⟨⟨⟨@lk93, @ze93⟩, ⟨@ns93, @nn93⟩⟩, ⟨⟨@an22, @ao22⟩, ⟨@ac22, ⟨@io22, @b022⟩⟩⟩⟩⟩, ⟨⟨⟨⟨@b122, @an23⟩, ⟨@ao23, @ac23⟩⟩, ⟨⟨@io23, @b023⟩, ⟨@b123, ⟨@an36, @ao36⟩⟩⟩⟩, ⟨⟨⟨@ac36, @io36⟩, ⟨@b036, ⟨@b136, @an93⟩⟩⟩, ⟨⟨@ao93, @ac93⟩, ⟨@io93, ⟨@b093, @b193⟩⟩⟩⟩⟩⟩⟩⟩
theorem ZZ : (type_of% EV) ∧ (type_of% LE) ∧ (type_of% RD) ∧ (type_of% FA) := ⟨EV, LE, RD, FA⟩
end Go.Ab.Try
end
section
set_option linter.unusedSimpArgs false
set_option linter.unusedVariables false
set_option maxRecDepth 20000
namespace Go.Ab.Try
open Classical Go.Proofs Go.Ab
theorem csU64_app (a b : List Int) : csU64 (a ++ b) = csU64 a ++ csU64 b := by simp [csU64]
theorem an_u1 (x : Int) : anE 38 1 8 (some (1, [.v (.int .u64 x)])) = some (none, .row 38 1 [x].length (csU64 [x])) := by
  simp [anE, maxLen]; rfl
theorem ao_u1 (l : List Int) (x : Int) (s g : Nat) (h : (l.length : Int) < 1000000) : aoE 38 1 8 (some (.row 38 1 l.length (csU64 l))) s g (some (1, [.v (.int .u64 x)])) = some (some (s, g), .row 38 1 (l ++ [x]).length (csU64 (l ++ [x]))) := by
  simp only [aoE]
  rw [if_pos ⟨by simp, by simp, by simp, by omega, by simp only [maxLen]; omega⟩, csU64_app]
  simp [csU64, cU64]
theorem up_csU (l : List Int) (i : Int) (x : Int) (h : i.toNat < l.length) : upd (csU64 l) i.toNat [.v (.int .u64 x)] (i.toNat + 1) = csU64 (l.set i.toNat x) := by
  rw [csU64_eq, csU64_eq, List.map_set]
  unfold upd
  rw [List.set_eq_take_append_cons_drop, if_pos (by simpa using h)]
  simp
theorem up_csI (l : List Int) (i : Int) (x : Int) (h : i.toNat < l.length) : upd (csInt l) i.toNat [.v (.int .i64 x)] (i.toNat + 1) = csInt (l.set i.toNat x) := by
  rw [csInt_eq, csInt_eq, List.map_set]
  unfold upd
  rw [List.set_eq_take_append_cons_drop, if_pos (by simpa using h)]
  simp
theorem idx36 (st : St) {l : List Int} {k : IntKind} {i : Int} (h0 : 0 ≤ i) (h1 : i < l.length) : indexAddrA Try.prog st 36 (.sl l.length (csU64 l)) (.v (.int k i)) = some (.ip (cU64 (it l i)) 0) := by
  obtain ⟨h, e⟩ := it_get h0 h1
  have : i.toNat * 1 + 1 ≤ l.length * 1 := by omega
  have hr := rd_csU64 l i.toNat h
  simp only [indexAddrA, na36, sl36, h0, h1, len_csU64, this, and_self, if_true, e, ← hr]
  rfl
theorem mem_csU64 (l : List Int) : ∀ c ∈ csU64 l, MemFree c := by rw [csU64_eq]; intro c hc; obtain ⟨x, _, rfl⟩ := List.mem_map.1 hc; exact .v _
theorem flatSlU (l : List Int) : Flat (.sl l.length (csU64 l)) := .sl _ _ (flat_csU64 l)
theorem nil_csU64 {l : List Int} (h : 0 < l.length) : csU64 l ≠ [] := by
  intro he
  have := congrArg List.length he
  rw [len_csU64] at this
  simp at this
  rw [this] at h
  simp at h
theorem flat_keys {x : AV} (h : Flat x) : ownKeys1 x = [] := by
  have one : ∀ c, Flat c → ownKey c = [] := fun c hc => by cases hc <;> rfl
  cases h with
  | agg cs h =>
    simp only [ownKeys1]
    rw [List.flatMap_eq_nil_iff]
    exact fun c hc => one c (h c hc)
  | _ => rfl
theorem flats_keys {args : List AV} (h : ∀ x ∈ args, Flat x) : args.flatMap ownKeys1 = [] := List.flatMap_eq_nil_iff.2 fun x hx => flat_keys (h x hx)
/-- A call with nothing to give away. -/
theorem eat_flat {call : Nat → List AV → Option AV} {g : Nat} {args : List AV} {st : St} {d : Option Nat} (h : ∀ x ∈ args, Flat x) : callEat call g args st d = callFn call g args st d := by
  unfold callEat
  rw [flats_keys h]
theorem eat_call {call : Nat → List AV → Option AV} {g : Nat} {args : List AV} {r : AV} {st : St} {d : Option Nat} (hf : ∀ x ∈ args, Flat x) (h : call g args = some r) (hr : Flat r) : callEat call g args st d = some { dst := d, val := r } := by
  rw [eat_flat hf]
  exact call_flat hf h hr
noncomputable def callEQ (call : Nat → List AV → Option AV) (g : Nat) (xs : Option (List AV)) (s k : Nat) (d : Option Nat) : Option Eff :=
  bnd xs fun xs => bnd (call g xs) fun r => if Flat r then some { dst := d, val := r, upd := some (s, k, none) } else none
theorem eat_one {call : Nat → List AV → Option AV} {g : Nat} {args : List AV} {st : St} {d : Option Nat} {s k : Nat} (hk : args.flatMap ownKeys1 = [(s, k)]) (he : ∀ x ∈ args, EatOk x) : callEat call g args st d = callEQ call g (optAll (args.map (expo st))) s k d := by
  unfold callEat callEQ
  rw [hk]
  simp only
  rw [if_pos he]
  cases optAll (args.map (expo st)) <;> rfl
theorem EQ_of {call : Nat → List AV → Option AV} {g : Nat} {xs : List AV} {r : AV} {s k : Nat} {d : Option Nat} (h : call g xs = some r) (hr : Flat r) : callEQ call g (some xs) s k d = some { dst := d, val := r, upd := some (s, k, none) } := by
  unfold callEQ
  simp only [bnd_some, h, if_pos hr]
end Go.Ab.Try
end
