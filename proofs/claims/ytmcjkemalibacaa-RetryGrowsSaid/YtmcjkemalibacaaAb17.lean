/-
  Part Ab17 of the proof: an evaluator of the programs written in Lean once, and its soundness.
-/
import Derived.Test.YtmcjkemalibacaaAb16
set_option linter.all false
set_option linter.unusedVariables false
set_option linter.unusedSimpArgs false
namespace Go.Ab
open Classical
variable [Ext]

def rd (cs : List AV) (o k : Nat) : List AV := (cs.drop o).take k
def wr (cs : List AV) (o : Nat) (xs : List AV) : List AV := cs.take o ++ xs ++ cs.drop (o + xs.length)

def onB {α : Type} (x : AV) (k : Bool → Option α) : Option α :=
  match x with
  | .v (.bool b) => k b
  | _ => none

section
variable (P : Program)

def ldAt (T : Nat) (cs : List AV) (o : Nat) : Option AV :=
  match ldInfo P T with
  | some (true, k) => if 0 < k ∧ k ≤ cs.length - o then some (.agg (rd cs o k)) else none
  | some (false, _) => cs[o]?
  | none => none

def loadA (st : St) (T : Nat) (x : AV) : Option AV :=
  match x with
  | .ip cs o => ldAt P T cs o
  | .ptr s g o =>
    match st.heap s g with
    | some (.cells cs) => ldAt P T cs o
    | some (.row _ _ _ cs) => ldAt P T cs o
    | _ => none
  | _ => none

theorem ldAt_eq (T : Nat) (cs : List AV) (o : Nat) : loadVal P T (cs.drop o) = ldAt P T cs o := by
  unfold loadVal ldAt
  cases ldInfo P T with
  | none => rfl
  | some bk =>
    obtain ⟨b, k⟩ := bk
    cases b
    · simp
    · simp [rd]

theorem loadA_eq (st : St) (T : Nat) (x : AV) : bnd (readAt st x) (loadVal P T) = loadA P st T x := by
  cases x <;> simp only [readAt, bnd, loadA, ldAt_eq]
  split <;> rename_i h
  · split at h
    · rename_i h'; cases h; rw [h']; exact ldAt_eq P T _ _
    · rename_i h'; cases h; rw [h']; exact ldAt_eq P T _ _
    · cases h
  · split at h
    · cases h
    · cases h
    · rename_i h1 h2
      split <;> first | rfl | (rename_i h'; first | exact absurd h' (h1 _) | exact absurd h' (h2 _ _ _ _))

/-- A store's effect on the state. -/
def storeSt (st : St) (T : Nat) (a x : AV) : Option St := (storeA P st T a x).map fun u => st.setH u.1 u.2.1 (some u.2.2)

variable {P}
variable {call : Nat → List AV → Option AV} {ops : Array Oper} {st : St} {d : Option Nat} {T : Nat} {pos : String} {aft : Array Edge}

@[congr] theorem bnd_congr {α β : Type} {x y : Option α} {f : α → Option β} (h : x = y) : bnd x f = bnd y f := by rw [h]
@[congr] theorem onB_congr {α : Type} {x y : AV} {k : Bool → Option α} (h : x = y) : onB x k = onB y k := by rw [h]
@[congr] theorem evOps_congr {l : List Oper} {s t : St} (h : s = t) : evOps P call ops l s = evOps P call ops l t := by rw [h]
@[congr] theorem evOp_congr {o : Oper} {s t : St} (h : s = t) : evOp P call ops o s = evOp P call ops o t := by rw [h]
@[congr] theorem evL_congr {c : Code} {s t : St} (h : s = t) : evL P c s = evL P c t := by rw [h]

theorem bnd_some {α β : Type} (a : α) (f : α → Option β) : bnd (some a) f = f a := rfl
theorem bnd_none {α β : Type} (f : α → Option β) : bnd none f = none := rfl
theorem bnd_ite {α β : Type} (c : Prop) [Decidable c] (x y : Option α) (f : α → Option β) : bnd (if c then x else y) f = if c then bnd x f else bnd y f := by split <;> rfl
theorem onB_bool {α : Type} (b : Bool) (k : Bool → Option α) : onB (.v (.bool b)) k = k b := rfl
theorem ite_vbool (c : Prop) [Decidable c] (p q : Bool) : (if c then AV.v (.bool p) else AV.v (.bool q)) = .v (.bool (if c then p else q)) := by split <;> rfl

theorem evOps_nil : evOps P call ops [] st = some st := rfl
theorem evOps_cons (o : Oper) (l : List Oper) : evOps P call ops (o :: l) st = bnd (evOp P call ops o st) (evOps P call ops l) := rfl

/-- The guard's slot, and what follows. -/
def onG (x : Option Nat) (st : St) (want : Bool) (y n : Option St) : Option St :=
  match x with
  | some d => onB (st.env d) fun b => if b = want then y else n
  | none => none

theorem ev_guard (op : Op) (j : Nat) (want : Bool) {dj : Nat} {bj : Bool} (hj : (ops[j]?).bind (·.dst) = some dj) (hb : st.env dj = .v (.bool bj)) :
    evOp P call ops ⟨d, op, T, pos, aft, some (j, want)⟩ st = if bj = want then evOp P call ops ⟨d, op, T, pos, aft, none⟩ st else some (st.put d (.v undef)) := by
  simp only [evOp, gv, hj, hb]
  cases bj <;> cases want <;> simp [opEff]

theorem evOp_none (op : Op) : evOp P call ops ⟨d, op, T, pos, aft, none⟩ st = (opEff P call ⟨d, op, T, pos, aft, none⟩ st).map fun e => e.apply st := rfl

theorem ev_move (x : Operand) : evOp P call ops ⟨d, .move x, T, pos, aft, none⟩ st = some (st.put d (st.ev x)) := rfl
theorem ev_assign (x : Operand) : evOp P call ops ⟨d, .assign x, T, pos, aft, none⟩ st = some (st.put d (st.ev x)) := rfl
theorem ev_pick (c a b : Operand) : evOp P call ops ⟨d, .pick c a b, T, pos, aft, none⟩ st = onB (st.ev c) fun t => some (st.put d (if t = true then st.ev a else st.ev b)) := by
  rw [evOp_none]
  simp only [opEff, opVal]
  cases st.ev c <;> try rfl
  rename_i x
  cases x <;> rfl
theorem ev_binOp (op : BinOp) (S : Nat) (x y : Operand) (yT : Nat) : evOp P call ops ⟨d, .binOp op S x y yT, T, pos, aft, none⟩ st = bnd (binA P op S (st.ev x) (st.ev y)) fun v => some (st.put d v) := by
  rw [evOp_none]
  simp only [opEff, opVal]
  cases binA P op S (st.ev x) (st.ev y) <;> rfl
theorem ev_unOp (op : UnOp) (S : Nat) (x : Operand) : evOp P call ops ⟨d, .unOp op S x, T, pos, aft, none⟩ st = bnd (unA op (st.ev x)) fun v => some (st.put d v) := by
  rw [evOp_none]
  simp only [opEff, opVal]
  cases unA op (st.ev x) <;> rfl
def convA (P : Program) (src dst : Nat) (x : AV) : Option AV :=
  match x, intKind P dst, intKind P src with
  | .v (.int _ n), some k, some _ => some (.v (.int k (k.wrap n)))
  | _, _, _ => none
theorem ev_convert (src dst : Nat) (x : Operand) : evOp P call ops ⟨d, .convert src dst x, T, pos, aft, none⟩ st = bnd (convA P src dst (st.ev x)) fun v => some (st.put d v) := by
  rw [evOp_none]
  simp only [opEff, opVal]
  show Option.map _ (Option.map _ (convA P src dst (st.ev x))) = _
  cases convA P src dst (st.ev x) <;> rfl
theorem ev_field (S : Nat) (x : Operand) (f : Nat) : evOp P call ops ⟨d, .field S x f, T, pos, aft, none⟩ st = bnd (fieldA P S f (st.ev x)) fun v => some (st.put d v) := by
  rw [evOp_none]
  simp only [opEff, opVal]
  cases fieldA P S f (st.ev x) <;> rfl
theorem fieldA_agg {S f off k : Nat} {cs : List AV} (h : fieldInfo P S f = some (off, true, k)) (hl : off + k ≤ cs.length) : fieldA P S f (.agg cs) = some (.agg (rd cs off k)) := by
  simp only [fieldA, h, if_pos hl]
  rfl
theorem fieldA_one {S f off k : Nat} {cs : List AV} (h : fieldInfo P S f = some (off, false, k)) : fieldA P S f (.agg cs) = cs[off]? := by
  simp only [fieldA, h]
theorem ev_fieldAddr (S : Nat) (x : Operand) (f : Nat) : evOp P call ops ⟨d, .fieldAddr S x f, T, pos, aft, none⟩ st = bnd (fieldOff P S f) fun k => bnd (addOff (st.ev x) k) fun v => some (st.put d v) := by
  rw [evOp_none]
  simp only [opEff, opVal]
  cases fieldOff P S f with
  | none => rfl
  | some k =>
    simp only [bnd]
    cases addOff (st.ev x) k <;> rfl
theorem ev_indexAddr (S : Nat) (x i : Operand) : evOp P call ops ⟨d, .indexAddr S x i, T, pos, aft, none⟩ st = bnd (indexAddrA P st S (st.ev x) (st.ev i)) fun v => some (st.put d v) := by
  rw [evOp_none]
  simp only [opEff, opVal]
  cases indexAddrA P st S (st.ev x) (st.ev i) <;> rfl
theorem ev_load (S : Nat) (x : Operand) : evOp P call ops ⟨d, .load S x, T, pos, aft, none⟩ st = bnd (loadA P st S (st.ev x)) fun v => some (st.put d v) := by
  rw [evOp_none]
  simp only [opEff, opVal, loadA_eq]
  cases loadA P st S (st.ev x) <;> rfl
def extA (x : AV) (i : Nat) : Option AV :=
  match x with
  | .tup vs => vs[i]?
  | _ => none
theorem ev_extract (t : Operand) (i : Nat) : evOp P call ops ⟨d, .extract t i, T, pos, aft, none⟩ st = bnd (extA (st.ev t) i) fun v => some (st.put d v) := by
  rw [evOp_none]
  simp only [opEff, opVal]
  show Option.map _ (Option.map _ (extA (st.ev t) i)) = _
  cases extA (st.ev t) i <;> rfl
theorem ev_build (S : Nat) (parts : Array (Nat × Operand)) : evOp P call ops ⟨d, .build S parts, T, pos, aft, none⟩ st = bnd (buildA P st S parts.toList) fun v => some (st.put d v) := by
  rw [evOp_none]
  simp only [opEff, opVal]
  cases buildA P st S parts.toList <;> rfl
theorem ev_slice (S : Nat) (x : Operand) (lo hi : Option Operand) : evOp P call ops ⟨d, .slice S x lo hi none, T, pos, aft, none⟩ st = bnd (sliceA P st S (st.ev x) lo hi) fun v => some (st.put d v) := by
  rw [evOp_none]
  simp only [opEff, opVal]
  cases sliceA P st S (st.ev x) lo hi <;> rfl
theorem ev_alloc (S d : Nat) : evOp P call ops ⟨some d, .alloc S, T, pos, aft, none⟩ st = bnd (zeroL P S) fun z => some ((st.new d (.cells (z.map .v))).put (some d) (.ptr d (st.cnt d) 0)) := by
  rw [evOp_none]
  simp only [opEff, bnd]
  cases zeroL P S with
  | none => rfl
  | some z => simp only [Option.map_some, apply_one]
theorem ev_box (S d : Nat) (x : Operand) : evOp P call ops ⟨some d, .box S x, T, pos, aft, none⟩ st = if (st.ev x).stor = true then some ((st.new d (.cells (st.ev x).cells)).put (some d) (.ptr d (st.cnt d) 0)) else none := by
  rw [evOp_none]
  simp only [opEff, bnd]
  split
  · simp only [Option.map_some, apply_one]
  · rfl
theorem ev_store (S : Nat) (x y : Operand) : evOp P call ops ⟨d, .store S x y, T, pos, aft, none⟩ st = bnd (storeSt P st S (st.ev x) (st.ev y)) fun s => some (s.put d (.v undef)) := by
  rw [evOp_none]
  simp only [opEff, storeSt]
  cases storeA P st S (st.ev x) (st.ev y) <;> rfl
theorem ev_call (g : Nat) (args : Array Operand) (ats : Array Nat) (h : Ext.mv g = false) (h2 : Ext.eat g d = false) : evOp P call ops ⟨d, .call ⟨.value (.func g), args, ats⟩, T, pos, aft, none⟩ st = bnd (callFn call g (args.toList.map st.ev) st d) fun e => some (e.apply st) := by
  rw [evOp_none]
  simp only [opEff, callEff, callVal, h, h2, Bool.false_eq_true, if_false]
  cases callFn call g (args.toList.map st.ev) st d <;> rfl
theorem ev_callM (g : Nat) (args : Array Operand) (ats : Array Nat) (h : Ext.mv g = true) : evOp P call ops ⟨d, .call ⟨.value (.func g), args, ats⟩, T, pos, aft, none⟩ st = bnd (callMv call g (args.toList.map st.ev) st d) fun e => some (e.apply st) := by
  rw [evOp_none]
  simp only [opEff, callEff, callVal, h, if_true]
  cases callMv call g (args.toList.map st.ev) st d <;> rfl
theorem ev_callEat (g : Nat) (args : Array Operand) (ats : Array Nat) (h : Ext.mv g = false) (h2 : Ext.eat g d = true) : evOp P call ops ⟨d, .call ⟨.value (.func g), args, ats⟩, T, pos, aft, none⟩ st = bnd (callEat call g (args.toList.map st.ev) st d) fun e => some (e.apply st) := by
  rw [evOp_none]
  simp only [opEff, callEff, callVal, h, h2, Bool.false_eq_true, if_false, if_true]
  cases callEat call g (args.toList.map st.ev) st d <;> rfl
noncomputable def callClo (call : Nat → List AV → Option AV) (f : AV) (args : List AV) (st : St) (d : Option Nat) : Option Eff :=
  match f with
  | .clo g caps => callFn call g (args ++ caps) st d
  | _ => none
theorem ev_callC (t : Nat) (args : Array Operand) (ats : Array Nat) {g : Nat} {caps : List AV} (h : st.env t = .clo g caps) : evOp P call ops ⟨d, .call ⟨.value (.tmp t), args, ats⟩, T, pos, aft, none⟩ st = bnd (callFn call g (args.toList.map st.ev ++ caps) st d) fun e => some (e.apply st) := by
  rw [evOp_none]
  simp only [opEff, callEff, callVal, St.ev, h, asFn]
  show Option.map _ (callFn call g (args.toList.map st.ev ++ caps) st d) = bnd (callFn call g (args.toList.map st.ev ++ caps) st d) _
  cases callFn call g (args.toList.map st.ev ++ caps) st d <;> rfl
theorem ev_slice3 (S : Nat) (x : Operand) (lo : Option Operand) (hi mx : Operand) : evOp P call ops ⟨d, .slice S x lo (some hi) (some mx), T, pos, aft, none⟩ st = bnd (sliceA3 P st S (st.ev x) lo hi mx) fun v => some (st.put d v) := by
  rw [evOp_none]
  simp only [opEff, opVal]
  cases sliceA3 P st S (st.ev x) lo hi mx <;> rfl
theorem ev_lookup (S : Nat) (x i : Operand) (ok : Bool) : evOp P call ops ⟨d, .lookup S x i ok, T, pos, aft, none⟩ st = bnd (lookA P st S (st.ev x) (st.ev i) ok) fun v => some (st.put d v) := by
  rw [evOp_none]
  simp only [opEff, opVal]
  cases lookA P st S (st.ev x) (st.ev i) ok <;> rfl
theorem ev_makeMap (S d : Nat) : evOp P call ops ⟨some d, .makeMap S none, T, pos, aft, none⟩ st = some ((st.new d (.map [])).put (some d) (.mp d (st.cnt d))) := by
  rw [evOp_none]
  simp only [opEff, bnd, Option.map_some, apply_one]
theorem ev_mapUpdate (S : Nat) (m x y : Operand) : evOp P call ops ⟨d, .mapUpdate S m x y, T, pos, aft, none⟩ st = bnd (mapSetA P st S (st.ev m) (st.ev x) (st.ev y)) fun u => some ((st.setH u.1 u.2.1 (some u.2.2)).put d (.v undef)) := by
  rw [evOp_none]
  simp only [opEff]
  cases mapSetA P st S (st.ev m) (st.ev x) (st.ev y) <;> rfl
theorem ev_makeFunc (g : Nat) (caps : Array Operand) : evOp P call ops ⟨d, .makeFunc (.func g) #[] caps, T, pos, aft, none⟩ st = some (st.put d (.clo g (caps.toList.map st.ev))) := by
  rw [evOp_none]
  simp only [opEff, opVal, if_true, Option.map_some]
  rfl
theorem ev_buildSlice (S n d : Nat) (parts : Array (Nat × Operand)) : evOp P call ops ⟨some d, .buildSlice S n parts, T, pos, aft, none⟩ st = bnd (slInfo P S) fun t => bnd (zeroL P t.1) fun z =>
      if (0 < n ∨ parts = #[]) ∧ n * t.2.1 ≤ 2 ^ 24 ∧ (parts.toList.all fun p => (st.ev p.2).stor) = true then
        bnd (fillA (fun i => some (i * t.2.1, t.2.1)) ((List.range n).flatMap fun _ => z.map .v) (parts.toList.map fun p => (p.1, st.ev p.2))) fun cs =>
          some ((st.new d (.row t.1 t.2.1 n cs)).put (some d) (.own d (st.cnt d)))
      else none := by
  rw [evOp_none]
  simp only [opEff, bnd]
  cases slInfo P S with
  | none => rfl
  | some t =>
    simp only
    cases zeroL P t.1 with
    | none => rfl
    | some z =>
      simp only
      split
      · cases fillA (fun i => some (i * t.2.1, t.2.1)) ((List.range n).flatMap fun _ => z.map .v) (parts.toList.map fun p => (p.1, st.ev p.2)) with
        | none => rfl
        | some cs => simp only [Option.map_some, apply_one]
      · rfl
theorem ev_makeSlice (S d : Nat) (l c : Operand) {n : Nat} (hl : st.ev l = .v (.int .i64 n)) (hc : st.ev c = .v (.int .i64 n)) : evOp P call ops ⟨some d, .makeSlice S l c, T, pos, aft, none⟩ st = bnd (slInfo P S) fun t => bnd (zeroL P t.1) fun z =>
      if (n : Int) * t.2.2 ≤ 140737488355328 ∧ (n : Int) ≤ maxLen then some ((st.new d (.row t.1 t.2.1 n ((List.range n).flatMap fun _ => z.map .v))).put (some d) (.own d (st.cnt d))) else none := by
  rw [evOp_none]
  simp only [opEff, bnd, hl, hc]
  cases slInfo P S with
  | none => rfl
  | some t =>
    simp only
    cases zeroL P t.1 with
    | none => rfl
    | some z =>
      simp only [Int.toNat_natCast, Int.natCast_nonneg, true_and]
      split
      · simp only [Option.map_some, apply_one]
      · rfl
theorem ev_len (x : Operand) (S : Nat) (ats : Array Nat) (h : ats = #[S]) : evOp P call ops ⟨d, .call ⟨.builtin .len, #[x], ats⟩, T, pos, aft, none⟩ st = bnd (slInfo P S) fun _ => bnd (sliceView st (st.ev x)) fun nc => some (st.put d (.v (.int .i64 nc.1))) := by
  subst h
  rw [evOp_none]
  simp only [opEff, callEff]
  cases slInfo P S with
  | none => rfl
  | some t => cases sliceView st (st.ev x) with
    | none => rfl
    | some nc => cases nc; rfl
theorem ev_lenT (x : Operand) (S : Nat) : evOp P call ops ⟨d, .call ⟨.builtin .len, #[x], #[S]⟩, T, pos, aft, none⟩ st = bnd (slInfo P S) fun _ => bnd (sliceView st (st.ev x)) fun nc => some (st.put d (.v (.int .i64 nc.1))) := ev_len x S #[S] rfl
theorem ev_append (s x : Operand) (S d : Nat) (ats : Array Nat) (h : ats = #[S, S]) (hv : Ext.va S d = false) (hp : ¬ (Ext.pa S d = true ∧ nilApp P st S (st.ev s) (st.ev x))) : evOp P call ops ⟨some d, .call ⟨.builtin .append, #[s, x], ats⟩, T, pos, aft, none⟩ st = bnd (appendA P st S (st.ev s) (st.ev x)) fun ur =>
    some (((match ur.1 with | some p => st.setH p.1 p.2 none | none => st).new d ur.2).put (some d) (.own d (st.cnt d))) := by
  subst h
  rw [evOp_none]
  simp only [opEff, callEff, bnd, if_true, hv, Bool.false_eq_true, if_false]
  rw [if_neg hp]
  cases appendA P st S (st.ev s) (st.ev x) with
  | none => rfl
  | some ur =>
    obtain ⟨u, r⟩ := ur
    cases u with
    | none => simp only [Option.map_some, Option.map_none, apply_one]
    | some p => simp only [Option.map_some, apply_two]

theorem ev_appendT (s x : Operand) (S d : Nat) (hv : Ext.va S d = false) (hp : Ext.pa S d = false) : evOp P call ops ⟨some d, .call ⟨.builtin .append, #[s, x], #[S, S]⟩, T, pos, aft, none⟩ st = bnd (appendA P st S (st.ev s) (st.ev x)) fun ur =>
    some (((match ur.1 with | some p => st.setH p.1 p.2 none | none => st).new d ur.2).put (some d) (.own d (st.cnt d))) := ev_append s x S d #[S, S] rfl hv (by rw [hp]; exact fun h => absurd h.1 (by simp))
theorem ev_appP1 (s x : Operand) (S d : Nat) (hv : Ext.va S d = false) (hp : Ext.pa S d = true) (hn : ¬ (st.ev s = .v (.slice none 0 0) ∧ (sliceView st (st.ev x)).map Prod.fst = some 0)) : evOp P call ops ⟨some d, .call ⟨.builtin .append, #[s, x], #[S, S]⟩, T, pos, aft, none⟩ st = bnd (appendA P st S (st.ev s) (st.ev x)) fun ur =>
    some (((match ur.1 with | some p => st.setH p.1 p.2 none | none => st).new d ur.2).put (some d) (.own d (st.cnt d))) := ev_append s x S d #[S, S] rfl hv (fun h => hn ⟨h.2.1, h.2.2.2⟩)
theorem ev_appP0 (s x : Operand) (S d : Nat) (hv : Ext.va S d = false) (hp : Ext.pa S d = true) (hi : (slInfo P S).isSome = true) (h1 : st.ev s = .v (.slice none 0 0)) (h2 : (sliceView st (st.ev x)).map Prod.fst = some 0) : evOp P call ops ⟨some d, .call ⟨.builtin .append, #[s, x], #[S, S]⟩, T, pos, aft, none⟩ st = some (st.put (some d) (.v (.slice none 0 0))) := by
  rw [evOp_none]
  simp only [opEff, callEff, bnd, if_true, hv, Bool.false_eq_true, if_false]
  rw [if_pos ⟨hp, h1, hi, h2⟩]
  simp only [Eff.apply]
  rfl

theorem ev_appendV (s x : Operand) (S d : Nat) (hv : Ext.va S d = true) : evOp P call ops ⟨some d, .call ⟨.builtin .append, #[s, x], #[S, S]⟩, T, pos, aft, none⟩ st = bnd (appendV P st S (st.ev s) (st.ev x)) fun u =>
    some ((st.setH u.1 u.2.1 (some u.2.2.1)).put (some d) (.vw u.1 u.2.1 0 u.2.2.2)) := by
  rw [evOp_none]
  simp only [opEff, callEff, bnd, if_true, hv]
  cases appendV P st S (st.ev s) (st.ev x) with
  | none => rfl
  | some u => rfl
theorem ev_clear (x : Operand) (S : Nat) : evOp P call ops ⟨d, .call ⟨.builtin .clear, #[x], #[S]⟩, T, pos, aft, none⟩ st = bnd (clearA P st S (st.ev x)) fun u =>
    some ((match u with | some p => st.setH p.1 p.2.1 (some p.2.2) | none => st).put d (.tup [])) := by
  rw [evOp_none]
  simp only [opEff, callEff]
  cases clearA P st S (st.ev x) with
  | none => rfl
  | some u => cases u <;> rfl
/-- Reading the state. -/
theorem ev_const (x : Value) : st.ev (.const x) = .v x := rfl
theorem ev_tmp (t : Nat) : st.ev (.tmp t) = st.env t := rfl
theorem env_put (t d : Nat) (x : AV) : (st.put (some d) x).env t = if t = d then x else st.env t := rfl
theorem env_put_none (t : Nat) (x : AV) : (st.put none x).env t = st.env t := rfl
theorem env_new (t d : Nat) (e : Ent) : (st.new d e).env t = st.env t := rfl
theorem env_setH (t s g : Nat) (e : Option Ent) : (st.setH s g e).env t = st.env t := rfl
theorem cnt_put (t : Nat) (d : Option Nat) (x : AV) : (st.put d x).cnt t = st.cnt t := by cases d <;> rfl
theorem cnt_new (t d : Nat) (e : Ent) : (st.new d e).cnt t = if t = d then st.cnt d + 1 else st.cnt t := rfl
theorem cnt_setH (t s g : Nat) (e : Option Ent) : (st.setH s g e).cnt t = st.cnt t := rfl
theorem heap_put (s g : Nat) (d : Option Nat) (x : AV) : (st.put d x).heap s g = st.heap s g := by cases d <;> rfl
theorem heap_new (s g d : Nat) (e : Ent) : (st.new d e).heap s g = if s = d ∧ g = st.cnt d then some e else st.heap s g := rfl
theorem heap_setH (s g s0 g0 : Nat) (e : Option Ent) : (st.setH s0 g0 e).heap s g = if s = s0 ∧ g = g0 then e else st.heap s g := rfl
theorem env_init (t : Nat) (xs : List AV) : (St.init xs).env t = (xs[t]?).getD (.v undef) := rfl
theorem cnt_init (t : Nat) (xs : List AV) : (St.init xs).cnt t = 0 := rfl
theorem heap_init (s g : Nat) (xs : List AV) : (St.init xs).heap s g = none := rfl

theorem put_none (x : AV) : st.put none x = st := rfl

theorem apply_plain (d : Option Nat) (x : AV) : ({ dst := d, val := x } : Eff).apply st = st.put d x := rfl
theorem apply_new (d : Option Nat) (x : AV) (n : Nat) (e : Ent) : ({ dst := d, val := x, new := some (n, [e]) } : Eff).apply st = (st.new n e).put d x := apply_one d x n e
theorem apply_upd (d : Option Nat) (x : AV) (s g : Nat) (e : Option Ent) : ({ dst := d, val := x, upd := some (s, g, e) } : Eff).apply st = (st.setH s g e).put d x := rfl
theorem apply_updnew (d : Option Nat) (x : AV) (s g n : Nat) (z : Option Ent) (e : Ent) : ({ dst := d, val := x, upd := some (s, g, z), new := some (n, [e]) } : Eff).apply st = ((st.setH s g z).new n e).put d x := apply_two d x s g n z e

/-- A call whose arguments hold no memory of the caller's own. -/
theorem call_flat {g : Nat} {args : List AV} {r : AV} (hf : ∀ x ∈ args, Flat x) (h : call g args = some r) (hr : Flat r) : callFn call g args st d = some { dst := d, val := r } := by
  unfold callFn
  rw [if_pos hf, h]
  simp only [bnd, putRes, if_pos hr]
theorem call_uniq {g : Nat} {args : List AV} {d e sz n : Nat} {cs : List AV} (hf : ∀ x ∈ args, Flat x) (h : call g args = some (.uniq e sz n cs)) :
    callFn call g args st (some d) = some { dst := some d, val := .own d (st.cnt d), new := some (d, [.row e sz n cs]) } := by
  unfold callFn
  rw [if_pos hf, h]
  have : ¬ Flat (.uniq e sz n cs) := by intro h; cases h
  simp only [bnd, putRes, if_neg this]
  rfl
/-- A call to which memory of the caller's own is lent. -/
theorem call_lend {g : Nat} {args xs : List AV} {r : AV} (hn : ∃ x ∈ args, ¬ Flat x) (hx : optAll (args.map (expo st)) = some xs) (h : call g xs = some r) (hr : Fresh r) (hf : Flat r) : callFn call g args st d = some { dst := d, val := r } := by
  unfold callFn
  have hne : ¬ ∀ x ∈ args, Flat x := fun h => by obtain ⟨x, hx, hn⟩ := hn; exact hn (h x hx)
  rw [if_neg hne, hx]
  simp only [h, bnd, if_pos hr, putRes, if_pos hf]
theorem call_lendU {g : Nat} {args xs : List AV} {d e sz n : Nat} {cs : List AV} (hn : ∃ x ∈ args, ¬ Flat x) (hx : optAll (args.map (expo st)) = some xs) (h : call g xs = some (.uniq e sz n cs)) (hr : ∀ c ∈ cs, MemFree c) :
    callFn call g args st (some d) = some { dst := some d, val := .own d (st.cnt d), new := some (d, [.row e sz n cs]) } := by
  unfold callFn
  have hne : ¬ ∀ x ∈ args, Flat x := fun h => by obtain ⟨x, hx, hn⟩ := hn; exact hn (h x hx)
  have hu : ¬ Flat (.uniq e sz n cs) := by intro h; cases h
  have hfr : Fresh (.uniq e sz n cs) := hr
  rw [if_neg hne, hx]
  simp only [h, bnd, if_pos hfr, putRes, if_neg hu]
  rfl
end
end Go.Ab
