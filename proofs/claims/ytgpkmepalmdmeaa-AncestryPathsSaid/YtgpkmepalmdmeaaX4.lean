/-
  Part X4 of the proof: equations of the evaluator at this program.
-/
import Derived.Test.YtgpkmepalmdmeaaX3
set_option linter.all false
set_option linter.unusedSimpArgs false
set_option linter.unusedVariables false
namespace Go.Ab
open Classical
/-- A call, its arguments as the callee reads them. -/
noncomputable def callQ (call : Nat → List AV → Option AV) (g : Nat) (xs : Option (List AV)) (fl : Bool) (st : St) (d : Option Nat) : Option Eff :=
  bnd xs fun xs => bnd (call g xs) fun r => if fl = true ∨ Fresh r then putRes r st d else none
theorem optAll_id {st : St} : ∀ (args : List AV), (∀ x ∈ args, Flat x) → optAll (args.map (expo st)) = some args
  | [], _ => rfl
  | x :: xs, h => by
    simp only [List.map_cons, expo_id (h x (by simp)), optAll, optAll_id xs fun y hy => h y (by simp [hy]), Option.map_some]
theorem callFn_Q (call : Nat → List AV → Option AV) (g : Nat) (args : List AV) (st : St) (d : Option Nat) : callFn call g args st d = callQ call g (optAll (args.map (expo st))) (decide (∀ x ∈ args, Flat x)) st d := by
  unfold callFn callQ
  by_cases h : ∀ x ∈ args, Flat x
  · rw [if_pos h, optAll_id args h]
    have hd : decide (∀ x ∈ args, Flat x) = true := decide_eq_true h
    rw [hd]
    simp only [bnd_some, true_or, if_true]
  · rw [if_neg h]
    cases optAll (args.map (expo st)) with
    | none => rfl
    | some xs =>
      have hd : decide (∀ x ∈ args, Flat x) = false := decide_eq_false h
      rw [hd]
      simp only [bnd_some, Bool.false_eq_true, false_or]
theorem Q_of {call : Nat → List AV → Option AV} {g : Nat} {xs : List AV} {r : AV} {fl : Bool} {st : St} {d : Option Nat} (h : call g xs = some r) (hr : Fresh r) (hf : Flat r) : callQ call g (some xs) fl st d = some { dst := d, val := r } := by
  unfold callQ
  simp only [bnd_some, h, hr, or_true, if_true, putRes, if_pos hf]
theorem Q_bool {call : Nat → List AV → Option AV} {g : Nat} {xs : List AV} {b : Bool} {fl : Bool} {st : St} {d : Option Nat} (h : call g xs = some (.v (.bool b))) : callQ call g (some xs) fl st d = some { dst := d, val := .v (.bool b) } := Q_of h (.v _) (.v _)
theorem Q_int {call : Nat → List AV → Option AV} {g : Nat} {xs : List AV} {k : IntKind} {b : Int} {fl : Bool} {st : St} {d : Option Nat} (h : call g xs = some (.v (.int k b))) : callQ call g (some xs) fl st d = some { dst := d, val := .v (.int k b) } := Q_of h (.v _) (.v _)
theorem Q_uniq {call : Nat → List AV → Option AV} {g : Nat} {xs : List AV} {e sz n : Nat} {cs : List AV} {fl : Bool} {st : St} {d : Nat} (h : call g xs = some (.uniq e sz n cs)) (hr : ∀ c ∈ cs, MemFree c) : callQ call g (some xs) fl st (some d) = some { dst := some d, val := .own d (st.cnt d), new := some (d, [.row e sz n cs]) } := by
  have hfr : Fresh (.uniq e sz n cs) := hr
  have hnf : ¬ Flat (.uniq e sz n cs) := by intro h; cases h
  unfold callQ
  simp only [bnd_some, h, hfr, or_true, if_true, putRes, if_neg hnf]
  rfl
def expoE (o : Option Ent) : Option AV :=
  match o with
  | some (.row _ _ n cs) => some (.sl n cs)
  | _ => none
noncomputable def expoF (o : Option Ent) : Option AV :=
  match o with
  | some (.row _ _ n cs) => if ∀ c ∈ cs, Flat c then some (.sl n cs) else none
  | _ => none
theorem expo_ownF (st : St) (s g : Nat) : expo st (.own s g) = expoF (st.heap s g) := by
  unfold expo expo1 expoF
  rw [if_neg (not_flat_own s g)]
  simp only [if_neg (not_flat_own s g)]
  cases st.heap s g with
  | none => rfl
  | some e => cases e <;> rfl
theorem expoF_int (e sz n : Nat) (l : List Int) : expoF (some (.row e sz n (csInt l))) = some (.sl n (csInt l)) := by
  unfold expoF; simp only; rw [if_pos (flat_csInt l)]
theorem expoF_u64 (e sz n : Nat) (l : List Int) : expoF (some (.row e sz n (csU64 l))) = some (.sl n (csU64 l)) := by
  unfold expoF; simp only; rw [if_pos (flat_csU64 l)]
theorem expoF_node (e sz n : Nat) (l : List Node) : expoF (some (.row e sz n (csNode l))) = some (.sl n (csNode l)) := by
  unfold expoF; simp only; rw [if_pos (flat_csNode l)]
theorem expoF_node1 (e sz : Nat) (x : Node) : expoF (some (.row e sz 1 (cNode x))) = some (.sl [x].length (csNode [x])) := by
  unfold expoF; simp only; rw [if_pos (flat_cNode x)]
  simp [csNode]
theorem expo_v (st : St) (x : Value) : expo st (.v x) = some (.v x) := expo_id (.v x)
theorem expo_tree (st : St) (t : Tree) : expo st (.agg (cTree t)) = some (.agg (cTree t)) := expo_id (flatT t)
theorem expo_root (st : St) (t : Root) : expo st (.agg (cRoot t)) = some (.agg (cRoot t)) := expo_id (flatR t)
theorem expo_block (st : St) (t : Block) : expo st (.agg (cBlock t)) = some (.agg (cBlock t)) := expo_id (flatB t)
theorem expo_slI (st : St) (n : Nat) (l : List Int) : expo st (.sl n (csInt l)) = some (.sl n (csInt l)) := expo_id (.sl _ _ (flat_csInt l))
theorem expo_slU (st : St) (n : Nat) (l : List Int) : expo st (.sl n (csU64 l)) = some (.sl n (csU64 l)) := expo_id (.sl _ _ (flat_csU64 l))
theorem expo_nt (st : St) : expo st (.agg [.v (.slice none 0 0)]) = some (.agg [.v (.slice none 0 0)]) := expo_id (.agg _ (by simp; exact .v _))
theorem optAll_nil {α : Type} : optAll ([] : List (Option α)) = some [] := rfl
theorem optAll_some {α : Type} (x : α) (r : List (Option α)) : optAll (some x :: r) = (optAll r).map (x :: ·) := rfl
/-- Appends, by what the appended slice and the old row are. -/
theorem an_int1 (x : Int) : anE 3 1 8 (some (1, [.v (.int .i64 x)])) = some (none, .row 3 1 [x].length (csInt [x])) := by
  simp [anE, maxLen]; rfl
theorem ao_int1 (l : List Int) (x : Int) (s g : Nat) (h : (l.length : Int) < 1000000) : aoE 3 1 8 (some (.row 3 1 l.length (csInt l))) s g (some (1, [.v (.int .i64 x)])) = some (some (s, g), .row 3 1 (l ++ [x]).length (csInt (l ++ [x]))) := by
  simp only [aoE]
  rw [if_pos ⟨by simp, by simp, by simp, by omega, by simp only [maxLen]; omega⟩, csInt_app]
  simp [csInt, cInt]
theorem an_node1 (x : Node) : anE 54 240 352 (some (1, cNode x)) = some (none, .row 54 240 [x].length (csNode [x])) := by
  simp [anE, maxLen, csNode]
theorem ao_node1 (l : List Node) (x : Node) (s g : Nat) (h : (l.length : Int) < 1000000) : aoE 54 240 352 (some (.row 54 240 l.length (csNode l))) s g (some (1, cNode x)) = some (some (s, g), .row 54 240 (l ++ [x]).length (csNode (l ++ [x]))) := by
  simp only [aoE]
  rw [if_pos ⟨by simp, by simp, by simp, by omega, by simp only [maxLen]; omega⟩, csNode_app]
  simp [csNode]
theorem an_nodes (l : List Node) (h : (l.length : Int) < 1000000) : anE 54 240 352 (some (l.length, csNode l)) = some (none, .row 54 240 l.length (csNode l)) := by
  simp only [anE]
  rw [if_pos (by refine ⟨by simp, ?_, ?_⟩ <;> (try simp only [maxLen]) <;> omega)]
theorem ac_nodes (l : List Node) (h : (l.length : Int) < 1000000) : acE 54 240 352 0 [] (some (l.length, csNode l)) = some (none, .row 54 240 l.length (csNode l)) := by
  simp only [acE]
  rw [if_pos ⟨by simp, by simp, by simp, by omega, by simp only [maxLen]; omega⟩]
  simp
theorem ac_node1 (l : List Node) (x : Node) (h : (l.length : Int) < 1000000) : acE 54 240 352 l.length (csNode l) (some (1, cNode x)) = some (none, .row 54 240 (l ++ [x]).length (csNode (l ++ [x]))) := by
  simp only [acE]
  rw [if_pos (by refine ⟨by simp, by simp, .inr (by omega), ?_, ?_⟩ <;> (try simp only [maxLen]) <;> omega), csNode_app]
  simp [csNode]
/-- A value that is an int. -/
def onI {α : Type} (x : AV) (k : Int → Option α) : Option α :=
  match x with
  | .v (.int .i64 v) => k v
  | _ => none
theorem onI_int {α : Type} (v : Int) (k : Int → Option α) : onI (.v (.int .i64 v)) k = k v := rfl
def onAgg {α : Type} (z : Nat) (x : AV) (k : List AV → Option α) : Option α :=
  match x with
  | .agg cs => if cs.length = z then k cs else none
  | _ => none
theorem onAgg_agg {α : Type} (z : Nat) (cs : List AV) (k : List AV → Option α) (h : cs.length = z) : onAgg z (.agg cs) k = k cs := if_pos h
@[congr] theorem onI_congr {α : Type} {x y : AV} {k : Int → Option α} (h : x = y) : onI x k = onI y k := by rw [h]
@[congr] theorem onAgg_congr {α : Type} {z : Nat} {x y : AV} {k : List AV → Option α} (h : x = y) : onAgg z x k = onAgg z y k := by rw [h]
/-- The same, with what is left where the value is no such one. -/
def elI {α : Type} (x : AV) (k : Int → Option α) (fb : Option α) : Option α :=
  match x with
  | .v (.int .i64 v) => k v
  | _ => fb
def elAgg {α : Type} (z : Nat) (x : AV) (k : List AV → Option α) (fb : Option α) : Option α :=
  match x with
  | .agg cs => if cs.length = z then k cs else fb
  | _ => fb
def elClo {α : Type} (x : AV) (k : Nat → List AV → Option α) (fb : Option α) : Option α :=
  match x with
  | .clo g cs => k g cs
  | _ => fb
theorem elI_int {α : Type} (v : Int) (k : Int → Option α) (fb : Option α) : elI (.v (.int .i64 v)) k fb = k v := rfl
theorem elAgg_agg {α : Type} (z : Nat) (cs : List AV) (k : List AV → Option α) (fb : Option α) (h : cs.length = z) : elAgg z (.agg cs) k fb = k cs := if_pos h
theorem elClo_clo {α : Type} (g : Nat) (cs : List AV) (k : Nat → List AV → Option α) (fb : Option α) : elClo (.clo g cs) k fb = k g cs := rfl
@[congr] theorem elI_congr {α : Type} {x y : AV} {k : Int → Option α} {fb : Option α} (h : x = y) : elI x k fb = elI y k fb := by rw [h]
@[congr] theorem elAgg_congr {α : Type} {z : Nat} {x y : AV} {k : List AV → Option α} {fb : Option α} (h : x = y) : elAgg z x k fb = elAgg z y k fb := by rw [h]
@[congr] theorem elClo_congr {α : Type} {x y : AV} {k : Nat → List AV → Option α} {fb : Option α} (h : x = y) : elClo x k fb = elClo y k fb := by rw [h]
namespace Try
open Go.Proofs
theorem app22_nil (st : St) (x : AV) : appendA Try.prog st 22 (.v (.slice none 0 0)) x = anE 3 1 8 (sliceView st x) := app_nil sl22 x
theorem app22_own (st : St) (s g : Nat) (x : AV) : appendA Try.prog st 22 (.own s g) x = aoE 3 1 8 (st.heap s g) s g (sliceView st x) := app_own sl22 s g x
theorem app23_nil (st : St) (x : AV) : appendA Try.prog st 23 (.v (.slice none 0 0)) x = anE 54 240 352 (sliceView st x) := app_nil sl23 x
theorem app23_own (st : St) (s g : Nat) (x : AV) : appendA Try.prog st 23 (.own s g) x = aoE 54 240 352 (st.heap s g) s g (sliceView st x) := app_own sl23 s g x
theorem app23_cl (st : St) (n : Nat) (cs : List AV) (x : AV) : appendA Try.prog st 23 (.cl n cs) x = acE 54 240 352 n cs (sliceView st x) := app_cl sl23 n cs x
theorem idx22_own (st : St) (s g : Nat) (k : IntKind) (i : Int) : indexAddrA Try.prog st 22 (.own s g) (.v (.int k i)) = ioE 3 1 (st.heap s g) s g i := by
  simp only [indexAddrA, na22, sl22, ioE]
  cases st.heap s g with
  | none => rfl
  | some e => cases e <;> rfl
theorem idx23_own (st : St) (s g : Nat) (k : IntKind) (i : Int) : indexAddrA Try.prog st 23 (.own s g) (.v (.int k i)) = ioE 54 240 (st.heap s g) s g i := by
  simp only [indexAddrA, na23, sl23, ioE]
  cases st.heap s g with
  | none => rfl
  | some e => cases e <;> rfl
theorem ioE_int (l : List Int) (s g : Nat) (i : Int) (h0 : 0 ≤ i) (h1 : i < l.length) : ioE 3 1 (some (.row 3 1 l.length (csInt l))) s g i = some (.ptr s g i.toNat) := by
  simp [ioE, h0, h1]
theorem ioE_node (l : List Node) (s g : Nat) (i : Int) (h0 : 0 ≤ i) (h1 : i < l.length) : ioE 54 240 (some (.row 54 240 l.length (csNode l))) s g i = some (.ptr s g (i.toNat * 240)) := by
  simp [ioE, h0, h1]
theorem expo_aggown (st : St) (s g : Nat) : expo st (.agg [.own s g]) = (expoF (st.heap s g)).map fun y => .agg [y] := by
  have hn : ¬ Flat (.agg [.own s g]) := by intro h; cases h with | agg _ h => exact not_flat_own s g (h _ (by simp))
  unfold expo expoF
  rw [if_neg hn]
  simp only [List.map_cons, List.map_nil]
  unfold expo1
  rw [if_neg (not_flat_own s g)]
  simp only
  cases st.heap s g with
  | none => rfl
  | some e => cases e with
    | row a b n cs =>
      by_cases h : ∀ c ∈ cs, Flat c
      · simp only [if_pos h, optAll, Option.map_some]
      · simp only [if_neg h, optAll, Option.map_none]
    | _ => rfl
theorem rd_one (x : AV) : rd [x] 0 1 = [x] := rfl
theorem up_one (x y : AV) : upd [x] 0 [y] 1 = [y] := rfl
theorem up_treeX (x : AV) (t : Tree) : upd [x] 0 (cTree t) 1 = cTree t := rfl
theorem up_treeY (x : AV) (t : Tree) : upd (cTree t) 0 [x] 1 = [x] := rfl
theorem cTree_c (ns : List Node) : cTree ⟨ns⟩ = [.sl ns.length (csNode ns)] := rfl
theorem get_csInt0 {l : List Int} {i : Int} (h0 : 0 ≤ i) (h1 : i < l.length) : (csInt l)[i.toNat]? = some (.v (.int .i64 (it l i))) := get_csInt h0 h1
def vow (o : Option Ent) : Option (Nat × List AV) :=
  match o with
  | some (.row _ _ n cs) => some (n, cs)
  | _ => none
theorem vow_row (e sz n : Nat) (cs : List AV) : vow (some (.row e sz n cs)) = some (n, cs) := rfl
theorem view_ownV (st : St) (s g : Nat) : sliceView st (.own s g) = vow (st.heap s g) := by
  simp only [sliceView, vow]
  cases st.heap s g with
  | none => rfl
  | some o => cases o <;> rfl
section
variable {call : Nat → List AV → Option AV} {ops : Array Oper} {st : St} {T : Nat} {pos : String} {aft : Array Edge}
theorem ev_bs22 (d : Nat) (x : Operand) {v : Int} (h : st.ev x = .v (.int .i64 v)) : evOp Try.prog call ops ⟨some d, .buildSlice 22 1 #[(0, x)], T, pos, aft, none⟩ st = some ((st.new d (.row 3 1 1 [.v (.int .i64 v)])).put (some d) (.own d (st.cnt d))) := by
  rw [ev_buildSlice]
  simp [sl22, ze3, bnd, h, AV.stor, Value.oneCell', fillA, AV.cells]
theorem ev_bs23 (d : Nat) (x : Operand) {cs : List AV} (h : st.ev x = .agg cs) (hl : cs.length = 240) : evOp Try.prog call ops ⟨some d, .buildSlice 23 1 #[(0, x)], T, pos, aft, none⟩ st = some ((st.new d (.row 54 240 1 cs)).put (some d) (.own d (st.cnt d))) := by
  rw [ev_buildSlice]
  have hz : (vNode.map AV.v).length = 240 := by rw [vNode_c]; simp
  simp only [sl23, ze54, bnd, List.toList_toArray, List.all_cons, List.all_nil, h, AV.stor, Bool.and_self, List.map_cons, List.map_nil, fillA, AV.cells, hl, Nat.zero_mul, Nat.zero_add, true_and, List.take_zero, List.nil_append]
  have h2 : ((List.range 1).flatMap fun _ => vNode.map AV.v) = vNode.map AV.v := by simp [List.range, List.range.loop]
  rw [h2, if_pos (by simp), if_pos (by rw [hz]; exact Nat.le_refl _)]
  rw [List.drop_of_length_le (by rw [hz]; exact Nat.le_refl _), List.append_nil]
theorem ev_bs22E (d : Nat) (x : Operand) : evOp Try.prog call ops ⟨some d, .buildSlice 22 1 #[(0, x)], T, pos, aft, none⟩ st =
    elI (st.ev x) (fun v => some ((st.new d (.row 3 1 1 [.v (.int .i64 v)])).put (some d) (.own d (st.cnt d)))) (evOp Try.prog call ops ⟨some d, .buildSlice 22 1 #[(0, x)], T, pos, aft, none⟩ st) := by
  unfold elI
  split
  · rename_i v h; exact ev_bs22 d x h
  · rfl
theorem ev_bs22_3 (d : Nat) (x y z : Operand) {a b c : Int} (h1 : st.ev x = .v (.int .i64 a)) (h2 : st.ev y = .v (.int .i64 b)) (h3 : st.ev z = .v (.int .i64 c)) : evOp Try.prog call ops ⟨some d, .buildSlice 22 3 #[(0, x), (1, y), (2, z)], T, pos, aft, none⟩ st =
    some ((st.new d (.row 3 1 [a, b, c].length (csInt [a, b, c]))).put (some d) (.own d (st.cnt d))) := by
  rw [ev_buildSlice]
  simp [sl22, ze3, bnd, h1, h2, h3, AV.stor, Value.oneCell', fillA, AV.cells, List.range, List.range.loop, csInt, cInt]
theorem ev_bs22_3E (d : Nat) (x y z : Operand) : evOp Try.prog call ops ⟨some d, .buildSlice 22 3 #[(0, x), (1, y), (2, z)], T, pos, aft, none⟩ st =
    elI (st.ev x) (fun a => elI (st.ev y) (fun b => elI (st.ev z) (fun c => some ((st.new d (.row 3 1 [a, b, c].length (csInt [a, b, c]))).put (some d) (.own d (st.cnt d)))) (evOp Try.prog call ops ⟨some d, .buildSlice 22 3 #[(0, x), (1, y), (2, z)], T, pos, aft, none⟩ st))
      (evOp Try.prog call ops ⟨some d, .buildSlice 22 3 #[(0, x), (1, y), (2, z)], T, pos, aft, none⟩ st)) (evOp Try.prog call ops ⟨some d, .buildSlice 22 3 #[(0, x), (1, y), (2, z)], T, pos, aft, none⟩ st) := by
  unfold elI
  split
  · rename_i a h1
    try dsimp only
    split
    · rename_i b h2
      try dsimp only
      split
      · rename_i c h3; exact ev_bs22_3 d x y z h1 h2 h3
      · rfl
    · rfl
  · rfl
theorem ev_bs23E (d : Nat) (x : Operand) : evOp Try.prog call ops ⟨some d, .buildSlice 23 1 #[(0, x)], T, pos, aft, none⟩ st =
    elAgg 240 (st.ev x) (fun cs => some ((st.new d (.row 54 240 1 cs)).put (some d) (.own d (st.cnt d)))) (evOp Try.prog call ops ⟨some d, .buildSlice 23 1 #[(0, x)], T, pos, aft, none⟩ st) := by
  unfold elAgg
  split
  · rename_i cs h
    split
    · rename_i hl; exact ev_bs23 d x h hl
    · rfl
  · rfl
theorem ev_makeSliceE (S d : Nat) (l c : Operand) : evOp Try.prog call ops ⟨some d, .makeSlice S l c, T, pos, aft, none⟩ st =
    elI (st.ev l) (fun n => elI (st.ev c) (fun m => if 0 ≤ n ∧ n = m then (bnd (slInfo Try.prog S) fun t => bnd (zeroL Try.prog t.1) fun z =>
      if n * t.2.2 ≤ 140737488355328 ∧ n ≤ maxLen then some ((st.new d (.row t.1 t.2.1 n.toNat ((List.range n.toNat).flatMap fun _ => z.map .v))).put (some d) (.own d (st.cnt d))) else none)
      else evOp Try.prog call ops ⟨some d, .makeSlice S l c, T, pos, aft, none⟩ st) (evOp Try.prog call ops ⟨some d, .makeSlice S l c, T, pos, aft, none⟩ st)) (evOp Try.prog call ops ⟨some d, .makeSlice S l c, T, pos, aft, none⟩ st) := by
  unfold elI
  split
  · rename_i n hl
    split
    · rename_i m hc
      dsimp only
      split
      · rename_i hnm
        obtain ⟨h0, rfl⟩ := hnm
        have hn : n = (n.toNat : Int) := by omega
        rw [ev_makeSlice S d l c (n := n.toNat) (by rw [hl, ← hn]) (by rw [hc, ← hn]), ← hn]
      · rfl
    · rfl
  · rfl
theorem ev_callCE (t : Nat) (args : Array Operand) (ats : Array Nat) (d : Option Nat) : evOp Try.prog call ops ⟨d, .call ⟨.value (.tmp t), args, ats⟩, T, pos, aft, none⟩ st =
    elClo (st.env t) (fun g caps => bnd (callFn call g (args.toList.map st.ev ++ caps) st d) fun e => some (e.apply st)) (evOp Try.prog call ops ⟨d, .call ⟨.value (.tmp t), args, ats⟩, T, pos, aft, none⟩ st) := by
  unfold elClo
  split
  · rename_i g caps h; exact ev_callC t args ats h
  · rfl
end
end Try
end Go.Ab
