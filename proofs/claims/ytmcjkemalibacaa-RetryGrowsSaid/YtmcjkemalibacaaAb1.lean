/-
  Part Ab1 of the proof: an evaluator of the programs written in Lean once, and its soundness.
-/
import Derived.WalkKit
import Derived.Laws.AppendOwn
set_option linter.all false
namespace Go.Ab
open Classical

/-- Abstract values: a value without addresses, an aggregate cell by cell, a slice that nobody writes any more (its length and all its
cells; the same with no spare room), a pointer into memory that nobody writes any more, a pointer into, or a slice over, memory of the call's own, a map of the call's own,
a closure, a tuple, a slice that is handed over with its memory, a slice over a part of a row of the call's own. -/
inductive AV where
  | v (x : Value)
  | agg (cs : List AV)
  | sl (n : Nat) (cs : List AV)
  | cl (n : Nat) (cs : List AV)
  | ip (cs : List AV) (o : Nat)
  | ptr (s g off : Nat)
  | own (s g : Nat)
  | mp (s g : Nat)
  | clo (f : Nat) (caps : List AV)
  | tup (vs : List AV)
  | uniq (e sz n : Nat) (cs : List AV)
  | vw (s g o n : Nat)

/-- What the program's functions beyond the evaluator are: those that work on the row of their first argument, those whose results hand over
the rows that they hold, those to which a row may be given away, those that are evaluated in the caller's own memory, the pairs of operations of a drawing region that are looked at while it runs, and what is known of calls that were proved elsewhere. -/
class Ext where
  mv : Nat → Bool
  keep : Nat → Bool
  eat : Nat → Option Nat → Bool
  inl : Nat → Option Nat → Bool
  dyn : Nat → Nat → Option Nat → List (Nat × Nat)
  pa : Nat → Nat → Bool
  va : Nat → Nat → Bool
  ext : Nat → List AV → Option AV

/-- What a piece of the call's own memory holds. -/
inductive Ent where
  | cells (cs : List AV)
  | row (e sz n : Nat) (cs : List AV)
  | map (es : List (AV × AV))

structure St where
  env : Nat → AV
  heap : Nat → Nat → Option Ent
  cnt : Nat → Nat

def St.put (st : St) (d : Option Nat) (x : AV) : St :=
  match d with
  | none => st
  | some d => { st with env := fun t => if t = d then x else st.env t }

def St.setH (st : St) (s g : Nat) (e : Option Ent) : St :=
  { st with heap := fun s' g' => if s' = s ∧ g' = g then e else st.heap s' g' }

def St.news (st : St) (d : Nat) (es : List Ent) : St :=
  { st with heap := fun s' g' => if s' = d ∧ st.cnt d ≤ g' ∧ g' - st.cnt d < es.length then es[g' - st.cnt d]? else st.heap s' g', cnt := fun s => if s = d then st.cnt d + es.length else st.cnt s }

def St.new (st : St) (d : Nat) (e : Ent) : St :=
  { st with heap := fun s' g' => if s' = d ∧ g' = st.cnt d then some e else st.heap s' g', cnt := fun s => if s = d then st.cnt d + 1 else st.cnt s }

def St.ev (st : St) : Operand → AV
  | .tmp t => st.env t
  | .const x => .v x
  | .global g => .v (.pointer (some ⟨g, 0, none⟩))
  | .func f => .v (.func (.func f) #[] #[])

/-- What an operation does: a slot's new value, one piece of memory set or given up, one piece made. -/
structure Eff where
  dst : Option Nat
  val : AV
  upd : Option (Nat × Nat × Option Ent) := none
  new : Option (Nat × List Ent) := none

def Eff.apply (e : Eff) (st : St) : St :=
  let s1 := match e.upd with
    | some (s, g, x) => st.setH s g x
    | none => st
  let s2 := match e.new with
    | some (d, x) => s1.news d x
    | none => s1
  s2.put e.dst e.val

def AV.cells : AV → List AV
  | .agg cs => cs
  | x => [x]

inductive Flat : AV → Prop
  | v (x : Value) : Flat (.v x)
  | agg (cs : List AV) (h : ∀ x ∈ cs, Flat x) : Flat (.agg cs)
  | sl (n : Nat) (cs : List AV) (h : ∀ x ∈ cs, Flat x) : Flat (.sl n cs)
  | cl (n : Nat) (cs : List AV) (h : ∀ x ∈ cs, Flat x) : Flat (.cl n cs)
  | ip (cs : List AV) (o : Nat) (h : ∀ x ∈ cs, Flat x) : Flat (.ip cs o)
  | clo (f : Nat) (cs : List AV) (h : ∀ x ∈ cs, Flat x) : Flat (.clo f cs)
  | tup (cs : List AV) (h : ∀ x ∈ cs, Flat x) : Flat (.tup cs)

inductive MemFree : AV → Prop
  | v (x : Value) : MemFree (.v x)
  | agg (cs : List AV) (h : ∀ x ∈ cs, MemFree x) : MemFree (.agg cs)
  | tup (cs : List AV) (h : ∀ x ∈ cs, MemFree x) : MemFree (.tup cs)

def bnd {α β : Type} (x : Option α) (f : α → Option β) : Option β :=
  match x with
  | some a => f a
  | none => none

section tables
variable (P : Program)

def fieldOff (T f : Nat) : Option Nat :=
  match P.underlying T with
  | some (.struct fs) =>
    match fs[f]? with
    | some fd => if P.cellsOf fd.type = 0 then none else some fd.offset
    | none => none
  | _ => none

def arrInfo (T : Nat) : Option (Nat × Nat) :=
  match P.underlying T with
  | some (.array n e) => if P.cellsOf e = 0 then none else some (n, P.cellsOf e)
  | _ => none

/-- Of a slice's type: the element's type, its cells, its bytes. -/
def slInfo (T : Nat) : Option (Nat × Nat × Nat) :=
  match P.underlying T with
  | some (.slice e) =>
    match P.info? e with
    | some i =>
      match i.zero with
      | some z => if i.size = 0 ∨ z.cells.size ≠ i.size then none else some (e, i.size, i.bytes)
      | none => none
    | none => none
  | _ => none

def ldInfo (T : Nat) : Option (Bool × Nat) :=
  match P.info? T with
  | none => none
  | some i =>
    match P.underlying T with
    | some (.struct _) => some (true, i.size)
    | some (.array _ _) => some (true, i.size)
    | some _ => some (false, i.size)
    | none => none

def zeroL (T : Nat) : Option (List Value) :=
  match P.info? T with
  | some i =>
    match i.zero with
    | some z => if (z.cells.toList.all fun y => y.oneCell') = true then some z.cells.toList else none
    | none => none
  | none => none

def intKind (T : Nat) : Option IntKind :=
  match P.underlying T with
  | some (.int k) => some k
  | _ => none

def isAggT (t : Nat) : Bool :=
  match P.underlying t with
  | some (.struct _) => true
  | some (.array _ _) => true
  | _ => false

/-- The leaves of a type that '==' compares leaf by leaf: true for an integer, false for a bool. -/
def leavesL (f : Nat → Option (List Bool)) : List Field → Nat → Option (List Bool)
  | [], _ => some []
  | fd :: r, off =>
    match f fd.type with
    | some m =>
      if fd.name ≠ "_" ∧ fd.offset = off ∧ P.cellsOf fd.type = m.length ∧ (P.info? fd.type).isSome = true then (leavesL f r (off + m.length)).map (m ++ ·) else none
    | none => none

def eqLeaves : Nat → Nat → Option (List Bool)
  | 0, _ => none
  | d + 1, t =>
    match P.underlying t with
    | some .bool => some [false]
    | some (.int _) => some [true]
    | some (.struct fs) => if P.stoodInHeld t = true then none else leavesL P (eqLeaves d) fs.toList 0
    | some (.array n e) =>
      match eqLeaves d e with
      | some m => if P.cellsOf e = m.length ∧ (P.info? e).isSome = true then some ((List.range n).flatMap fun _ => m) else none
      | none => none
    | _ => none
end tables

/-- Two lists of cells that '==' may compare at these leaves. -/
def Leafy : List Bool → List AV → List AV → Prop
  | [], [], [] => True
  | true :: l, .v (.int k _) :: xs, .v (.int k' _) :: ys => k = k' ∧ Leafy l xs ys
  | false :: l, .v (.bool _) :: xs, .v (.bool _) :: ys => Leafy l xs ys
  | _, _, _ => False

section ops
variable (P : Program)

noncomputable def eqAgg (T : Nat) (xs ys : List AV) : Option Bool :=
  match eqLeaves P 20 T with
  | some l => if isAggT P T = true ∧ P.eqGuardType P.depth T = false ∧ Leafy l xs ys then some (decide (xs = ys)) else none
  | none => none

/-- A slice compared with nil. -/
def nilCmp (op : BinOp) (T : Nat) (b : Bool) : Option AV :=
  match P.underlying T with
  | some (.slice _) =>
    match op with
    | .eql => some (.v (.bool b))
    | .neq => some (.v (.bool (!b)))
    | _ => none
  | _ => none

noncomputable def binA (op : BinOp) (T : Nat) (x y : AV) : Option AV :=
  match x, y with
  | .v (.int k a), .v (.int k' b) =>
    match op with
    | .shl => if b < 0 then none else some (.v (.int k (k.wrap (a * 2 ^ (min b.toNat k.bits)))))
    | .shr => if b < 0 then none else some (.v (.int k (a.fdiv (2 ^ (min b.toNat k.bits)))))
    | .add => if k = k' then some (.v (.int k (k.wrap (a + b)))) else none
    | .sub => if k = k' then some (.v (.int k (k.wrap (a - b)))) else none
    | .mul => if k = k' then some (.v (.int k (k.wrap (a * b)))) else none
    | .quo => if k = k' ∧ b ≠ 0 then some (.v (.int k (k.wrap (a.tdiv b)))) else none
    | .rem => if k = k' ∧ b ≠ 0 then some (.v (.int k (a.tmod b))) else none
    | .and => if k = k' then some (.v (.int k (k.wrap (BitVec.ofInt k.bits a &&& BitVec.ofInt k.bits b).toNat))) else none
    | .or => if k = k' then some (.v (.int k (k.wrap (BitVec.ofInt k.bits a ||| BitVec.ofInt k.bits b).toNat))) else none
    | .xor => if k = k' then some (.v (.int k (k.wrap (BitVec.ofInt k.bits a ^^^ BitVec.ofInt k.bits b).toNat))) else none
    | .andNot => if k = k' then some (.v (.int k (k.wrap (BitVec.ofInt k.bits a &&& ~~~ BitVec.ofInt k.bits b).toNat))) else none
    | .eql => if k = k' then some (.v (.bool (a == b))) else none
    | .neq => if k = k' then some (.v (.bool (a != b))) else none
    | .lss => if k = k' then some (.v (.bool (decide (a < b)))) else none
    | .leq => if k = k' then some (.v (.bool (decide (a ≤ b)))) else none
    | .gtr => if k = k' then some (.v (.bool (decide (a > b)))) else none
    | .geq => if k = k' then some (.v (.bool (decide (a ≥ b)))) else none
  | .v (.bool a), .v (.bool b) =>
    match P.underlying T with
    | some .bool =>
      match op with
      | .eql => some (.v (.bool (a == b)))
      | .neq => some (.v (.bool (!(a == b))))
      | _ => none
    | _ => none
  | .agg xs, .agg ys =>
    match op with
    | .eql => (eqAgg P T xs ys).map fun b => .v (.bool b)
    | .neq => (eqAgg P T xs ys).map fun b => .v (.bool (!b))
    | _ => none
  | .sl _ (_ :: _), .v (.slice none 0 0) => nilCmp P op T false
  | .v (.slice none 0 0), .v (.slice none 0 0) => nilCmp P op T true
  | _, _ => none

def unA (op : UnOp) (x : AV) : Option AV :=
  match op, x with
  | .not, .v (.bool b) => some (.v (.bool (!b)))
  | .neg, .v (.int k n) => some (.v (.int k (k.wrap (0 - n))))
  | .xor, .v (.int k n) => some (.v (.int k (k.wrap (BitVec.ofInt k.bits (if k.signed then -1 else k.max) ^^^ BitVec.ofInt k.bits n).toNat)))
  | _, _ => none

def addOff (x : AV) (k : Nat) : Option AV :=
  match x with
  | .ptr s g o => some (.ptr s g (o + k))
  | .ip cs o => if o + k ≤ cs.length then some (.ip cs (o + k)) else none
  | _ => none

def readAt (st : St) (x : AV) : Option (List AV) :=
  match x with
  | .ip cs o => some (cs.drop o)
  | .ptr s g o =>
    match st.heap s g with
    | some (.cells cs) => some (cs.drop o)
    | some (.row _ _ _ cs) => some (cs.drop o)
    | _ => none
  | _ => none

def loadVal (T : Nat) (cs : List AV) : Option AV :=
  match ldInfo P T with
  | some (true, k) => if 0 < k ∧ k ≤ cs.length then some (.agg (cs.take k)) else none
  | some (false, _) => cs.head?
  | none => none

def sliceView (st : St) (x : AV) : Option (Nat × List AV) :=
  match x with
  | .sl n cs => some (n, cs)
  | .cl n cs => some (n, cs)
  | .own s g =>
    match st.heap s g with
    | some (.row _ _ n cs) => some (n, cs)
    | _ => none
  | .vw s g o n =>
    match st.heap s g with
    | some (.row _ sz _ cs) => if o + n * sz ≤ cs.length then some (n, (cs.drop o).take (n * sz)) else none
    | some (.cells cs) => if o + n ≤ cs.length then some (n, (cs.drop o).take n) else none
    | _ => none
  | .v (.slice none 0 0) => some (0, [])
  | _ => none

def indexAddrA (st : St) (T : Nat) (x i : AV) : Option AV :=
  match i with
  | .v (.int _ i) =>
    match arrInfo P T with
    | some (n, sz) => if 0 ≤ i ∧ i < n then addOff x (i.toNat * sz) else none
    | none =>
      match slInfo P T with
      | some (e, sz, _) =>
        match x with
        | .sl n cs => if 0 ≤ i ∧ i < n ∧ i.toNat * sz + sz ≤ cs.length then some (.ip ((cs.drop (i.toNat * sz)).take sz) 0) else none
        | .own s g =>
          match st.heap s g with
          | some (.row e' sz' n _) => if 0 ≤ i ∧ i < n ∧ e' = e ∧ sz' = sz then some (.ptr s g (i.toNat * sz)) else none
          | _ => none
        | .vw s g o n => if 0 ≤ i ∧ i < n then some (.ptr s g (o + i.toNat * sz)) else none
        | _ => none
      | none => none
  | _ => none

/-- The parts of a struct or an array laid over its zero value. -/
def fillA (place : Nat → Option (Nat × Nat)) (cells : List AV) : List (Nat × AV) → Option (List AV)
  | [] => some cells
  | (i, x) :: rest =>
    match place i with
    | none => none
    | some (off, size) =>
      if x.cells.length = size ∧ off + size ≤ cells.length then fillA place (cells.take off ++ x.cells ++ cells.drop (off + size)) rest else none

def placeOf (T : Nat) : Option (Nat → Option (Nat × Nat)) :=
  match P.underlying T with
  | some (.struct fs) => if fs.all (fun f => (P.info? f.type).isSome) then some fun i => (fs[i]?).map fun f => (f.offset, P.cellsOf f.type) else none
  | some (.array _ e) => if (P.info? e).isSome then some fun i => some (i * P.cellsOf e, P.cellsOf e) else none
  | _ => none

/-- May a value be one cell, or an aggregate: no tuple, nothing that is handed over. -/
def AV.stor : AV → Bool
  | .v x => x.oneCell'
  | .tup _ => false
  | .uniq _ _ _ _ => false
  | _ => true

def buildA (st : St) (T : Nat) (parts : List (Nat × Operand)) : Option AV :=
  match zeroL P T, placeOf P T with
  | some z, some place =>
    if (parts.all fun p => (st.ev p.2).stor) = true then (fillA place (z.map .v) (parts.map fun p => (p.1, st.ev p.2))).map .agg else none
  | _, _ => none

def sliceA (st : St) (T : Nat) (x : AV) (lo hi : Option Operand) : Option AV :=
  match slInfo P T with
  | some (_, sz, _) =>
    match x with
    | .sl n cs =>
      match (match hi with | some h => st.ev h | none => .v (.int .i64 n)), (match lo with | some l => st.ev l | none => .v (.int .i64 0)) with
      | .v (.int _ h), .v (.int _ l) =>
        if 0 ≤ l ∧ l ≤ h ∧ h ≤ n ∧ cs.length = n * sz then some (.sl (h - l).toNat ((cs.drop (l.toNat * sz)).take ((h - l).toNat * sz))) else none
      | _, _ => none
    | .v (.slice none 0 0) =>
      match (match hi with | some h => st.ev h | none => .v (.int .i64 0)), (match lo with | some l => st.ev l | none => .v (.int .i64 0)) with
      | .v (.int _ h), .v (.int _ l) => if l = 0 ∧ h = 0 then some x else none
      | _, _ => none
    | .own s g =>
      match st.heap s g with
      | some (.row _ _ n _) =>
        match (match hi with | some h => st.ev h | none => .v (.int .i64 n)), (match lo with | some l => st.ev l | none => .v (.int .i64 0)) with
        | .v (.int _ h), .v (.int _ l) => if 0 ≤ l ∧ l ≤ h ∧ h ≤ n then (if l = h ∧ ¬ (l = 0 ∧ 0 < n) then some (.sl 0 []) else some (.vw s g (l.toNat * sz) (h - l).toNat)) else none
        | _, _ => none
      | _ => none
    | .vw s g 0 _ =>
      match st.heap s g, hi, lo with
      | some (.row _ _ n _), some hi, some lo =>
        match st.ev hi, st.ev lo with
        | .v (.int _ h), .v (.int _ l) => if 0 ≤ l ∧ l < h ∧ h ≤ n then some (.vw s g (l.toNat * sz) (h - l).toNat) else none
        | _, _ => none
      | _, _, _ => none
    | _ => none
  | none =>
    match arrInfo P T, x, lo, hi with
    | some (n, _), .ptr s g o, none, none =>
      match st.heap s g with
      | some (.cells _) => some (.vw s g o n)
      | _ => none
    | _, _, _, _ => none

/-- 'x[lo:hi:hi]'. -/
def sliceA3 (st : St) (T : Nat) (x : AV) (lo : Option Operand) (hi mx : Operand) : Option AV :=
  match slInfo P T with
  | some (_, sz, _) =>
    match st.ev hi, st.ev mx, (match lo with | some l => st.ev l | none => .v (.int .i64 0)) with
    | .v (.int _ h), .v (.int _ m), .v (.int _ l) =>
      match x with
      | .sl n cs => if 0 ≤ l ∧ l ≤ h ∧ h = m ∧ h ≤ n ∧ cs.length = n * sz then some (.cl (h - l).toNat ((cs.drop (l.toNat * sz)).take ((h - l).toNat * sz))) else none
      | .v (.slice none 0 0) => if l = 0 ∧ h = 0 ∧ m = 0 then some x else none
      | .own s g =>
        match st.heap s g with
        | some (.row _ _ n _) => if 0 ≤ l ∧ l ≤ h ∧ h ≤ m ∧ m ≤ n then some (.sl (h - l).toNat []) else none
        | _ => none
      | _ => none
    | _, _, _ => none
  | none => none

/-- A key's type whose values the machine's own look at keys passes over: leaves, or an array of them. -/
def mapKeyOk (l : List Bool) (k : Nat) : Bool :=
  match P.underlying k with
  | some (.int _) => true
  | some .bool => true
  | some (.array n e) =>
    match P.underlying e with
    | some (.int _) => decide (P.cellsOf e = 1) && decide (l.length = n) && (P.info? e).isSome && decide (n ≤ 10000)
    | _ => false
  | _ => false

/-- A type's zero value. -/
def zeroA (T : Nat) : Option AV :=
  match P.info? T with
  | some i =>
    match i.zero with
    | some (.agg cs) => if (cs.toList.all fun y => y.oneCell') = true then some (.agg (cs.toList.map .v)) else none
    | some y => if y.oneCell' = true then some (.v y) else none
    | none => none
  | none => none

/-- What a map's type holds: the key's type, and the element's zero value. -/
def mapInfo (T : Nat) : Option (Nat × AV) :=
  match P.underlying T with
  | some (.map k e) =>
    match eqLeaves P 20 k, zeroA P e with
    | some l, some z => if mapKeyOk P l k = true then some (k, z) else none
    | _, _ => none
  | _ => none

/-- May two values be keys of this type. -/
def keyOkA (k : Nat) (x y : AV) : Prop :=
  match eqLeaves P 20 k with
  | some l => Leafy l x.cells y.cells ∧ (isAggT P k = true → (∃ cs, x = .agg cs) ∧ ∃ cs, y = .agg cs) ∧ (isAggT P k = false → (∃ u, x = .v u) ∧ ∃ u, y = .v u)
  | none => False

noncomputable def mget : List (AV × AV) → AV → Option AV
  | [], _ => none
  | p :: r, x => if p.1 = x then some p.2 else mget r x

noncomputable def mset : List (AV × AV) → AV → AV → List (AV × AV)
  | [], x, y => [(x, y)]
  | p :: r, x, y => if p.1 = x then (x, y) :: r else p :: mset r x y

noncomputable def lookA (st : St) (T : Nat) (m x : AV) (ok : Bool) : Option AV :=
  match m with
  | .mp s g =>
    match st.heap s g, mapInfo P T with
    | some (.map es), some (k, z) =>
      if keyOkA P k x x ∧ ∀ p ∈ es, keyOkA P k x p.1 then
        match mget es x with
        | some v => some (if ok = true then .tup [v, .v (.bool true)] else v)
        | none => some (if ok = true then .tup [z, .v (.bool false)] else z)
      else none
    | _, _ => none
  | _ => none

noncomputable def mapSetA (st : St) (T : Nat) (m x y : AV) : Option (Nat × Nat × Ent) :=
  match m with
  | .mp s g =>
    match st.heap s g, mapInfo P T with
    | some (.map es), some (k, _) => if (keyOkA P k x x ∧ ∀ p ∈ es, keyOkA P k x p.1) ∧ y.stor = true then some (s, g, .map (mset es x y)) else none
    | _, _ => none
  | _ => none

/-- Of a field: its offset, whether it is an aggregate, its cells. -/
def fieldInfo (T f : Nat) : Option (Nat × Bool × Nat) :=
  match P.underlying T with
  | some (.struct fs) =>
    match fs[f]? with
    | some fd =>
      match ldInfo P fd.type with
      | some (b, k) => if b = true ∨ k = 1 then some (fd.offset, b, k) else none
      | none => none
    | none => none
  | _ => none
def fieldA (T f : Nat) (x : AV) : Option AV :=
  match x with
  | .agg cs =>
    match fieldInfo P T f with
    | some (off, true, k) => if off + k ≤ cs.length then some (.agg ((cs.drop off).take k)) else none
    | some (off, false, _) => cs[off]?
    | none => none
  | _ => none

/-- The operations that leave the state as it is but for the slot that they write. -/
noncomputable def opVal (st : St) : Op → Option AV
  | .move x => some (st.ev x)
  | .assign x => some (st.ev x)
  | .pick c a b =>
    match st.ev c with
    | .v (.bool t) => some (if t = true then st.ev a else st.ev b)
    | _ => none
  | .binOp op T x y _ => binA P op T (st.ev x) (st.ev y)
  | .unOp op _ x => unA op (st.ev x)
  | .convert src dst x =>
    match st.ev x, intKind P dst, intKind P src with
    | .v (.int _ n), some k, some _ => some (.v (.int k (k.wrap n)))
    | _, _, _ => none
  | .nilCheck x =>
    match st.ev x with
    | .ptr s g o => some (.ptr s g o)
    | .ip cs o => some (.ip cs o)
    | _ => none
  | .field T x f => fieldA P T f (st.ev x)
  | .fieldAddr T x f =>
    match fieldOff P T f with
    | some k => addOff (st.ev x) k
    | none => none
  | .indexAddr T x i => indexAddrA P st T (st.ev x) (st.ev i)
  | .load T a => bnd (readAt st (st.ev a)) (loadVal P T)
  | .extract t i =>
    match st.ev t with
    | .tup vs => vs[i]?
    | _ => none
  | .build T parts => buildA P st T parts.toList
  | .slice T x lo hi none => sliceA P st T (st.ev x) lo hi
  | .slice T x lo (some h) (some m) => sliceA3 P st T (st.ev x) lo h m
  | .lookup T x i ok => lookA P st T (st.ev x) (st.ev i) ok
  | .makeFunc (.func f) first captured => if first = #[] then some (.clo f (captured.toList.map st.ev)) else none
  | _ => none

/-- A store. -/
def storeA (st : St) (T : Nat) (a x : AV) : Option (Nat × Nat × Ent) :=
  match a with
  | .ptr s g o =>
    match ldInfo P T with
    | some (_, k) =>
      if x.cells.length = k ∧ x.stor = true then
        match st.heap s g with
        | some (.cells cs) => if o + k ≤ cs.length then some (s, g, .cells (cs.take o ++ x.cells ++ cs.drop (o + k))) else none
        | some (.row e sz n cs) => if o + k ≤ cs.length then some (s, g, .row e sz n (cs.take o ++ x.cells ++ cs.drop (o + k))) else none
        | _ => none
      else none
    | none => none
  | _ => none

/-- An append: to nil, or to a slice over memory of the call's own, which is used up. -/
def appendA (st : St) (T : Nat) (s x : AV) : Option (Option (Nat × Nat) × Ent) :=
  match slInfo P T with
  | some (e, sz, by_) =>
    match sliceView st x with
    | some (m, news) =>
      if news.length = m * sz then
        match s with
        | .v (.slice none 0 0) =>
          if m * by_ ≤ 140737488355328 ∧ m ≤ maxLen then some (none, .row e sz m news) else none
        | .own s' g' =>
          match st.heap s' g' with
          | some (.row e' sz' n cs) =>
            if e' = e ∧ sz' = sz ∧ (n + m) * by_ ≤ 140737488355328 ∧ n + m ≤ maxLen then
              some (some (s', g'), .row e sz (n + m) (cs ++ news))
            else none
          | _ => none
        | .cl n cs =>
          if cs.length = n * sz ∧ (n = 0 ∨ 0 < m) ∧ (n + m) * by_ ≤ 140737488355328 ∧ n + m ≤ maxLen then some (none, .row e sz (n + m) (cs ++ news)) else none
        | _ => none
      else none
    | none => none
  | none => none

/-- An append in place: to the first elements of a row of the call's own. -/
def appendV (st : St) (T : Nat) (s x : AV) : Option (Nat × Nat × Ent × Nat) :=
  match slInfo P T, sliceView st x, s with
  | some (e, sz, _), some (m, news), .vw s' g' 0 k =>
    match st.heap s' g' with
    | some (.row e' sz' n cs) =>
      if e' = e ∧ sz' = sz ∧ news.length = m * sz ∧ k + m ≤ n then some (s', g', .row e' sz' n (cs.take (k * sz) ++ news ++ cs.drop (k * sz + m * sz)), k + m) else none
    | _ => none
  | _, _, _ => none

/-- A part of a row is cleared. -/
def clearA (st : St) (T : Nat) (x : AV) : Option (Option (Nat × Nat × Ent)) :=
  match slInfo P T, x with
  | some (e, sz, _), .vw s g o k =>
    match zeroL P e, st.heap s g with
    | some z, some (.row e' sz' n cs) => if e' = e ∧ sz' = sz ∧ o + k * sz ≤ cs.length then some (some (s, g, .row e' sz' n (cs.take o ++ ((List.range k).flatMap fun _ => z.map .v) ++ cs.drop (o + k * sz)))) else none
    | _, _ => none
  | some _, .sl 0 _ => some none
  | some _, .v (.slice none 0 0) => some none
  | _, _ => none

/-- Nothing is appended to nil. -/
def nilApp (st : St) (T : Nat) (s x : AV) : Prop := s = .v (.slice none 0 0) ∧ (slInfo P T).isSome = true ∧ (sliceView st x).map Prod.fst = some 0

/-- A cell of memory of the call's own, as others read it. -/
noncomputable def expo0 (st : St) (x : AV) : Option AV :=
  if Flat x then some x else
  match x with
  | .own s g =>
    match st.heap s g with
    | some (.row _ _ n cs) => if ∀ c ∈ cs, Flat c then some (.sl n cs) else none
    | _ => none
  | .vw s g o n =>
    match st.heap s g with
    | some (.row _ sz _ cs) => if (∀ c ∈ cs, Flat c) ∧ o + n * sz ≤ cs.length then some (.sl n ((cs.drop o).take (n * sz))) else none
    | _ => none
  | _ => none

def optAll {α : Type} : List (Option α) → Option (List α)
  | [] => some []
  | some x :: r => (optAll r).map (x :: ·)
  | none :: _ => none

/-- What is handed on: memory of the call's own reads as memory that nobody writes. -/
noncomputable def expo1 (st : St) (x : AV) : Option AV :=
  if Flat x then some x else
  match x with
  | .own s g =>
    match st.heap s g with
    | some (.row _ _ n cs) => if ∀ c ∈ cs, Flat c then some (.sl n cs) else none
    | _ => none
  | .vw s g o n =>
    match st.heap s g with
    | some (.row _ sz _ cs) => if (∀ c ∈ cs, Flat c) ∧ o + n * sz ≤ cs.length then some (.sl n ((cs.drop o).take (n * sz))) else none
    | _ => none
  | .ptr s g o =>
    match st.heap s g with
    | some (.cells cs) => (optAll (cs.map (expo0 st))).map fun ds => .ip ds o
    | _ => none
  | _ => none

noncomputable def expo (st : St) (x : AV) : Option AV :=
  if Flat x then some x else
  match x with
  | .agg cs => (optAll (cs.map (expo1 st))).map .agg
  | .clo f caps => (optAll (caps.map (expo1 st))).map (.clo f)
  | x => expo1 st x

def asFn : AV → Option (Nat × List AV)
  | .v (.func (.func f) first caps) => if first = #[] ∧ caps = #[] then some (f, []) else none
  | .clo f caps => some (f, caps)
  | _ => none

/-- The rows that a result hands over become rows of the caller's. -/
def opnC (d c : Nat) : AV → AV × List Ent
  | .uniq e sz n cs => (.own d c, [.row e sz n cs])
  | x => (x, [])
def opnL (f : Nat → AV → AV × List Ent) : Nat → List AV → List AV × List Ent
  | _, [] => ([], [])
  | c, x :: xs => ((f c x).1 :: (opnL f (c + (f c x).2.length) xs).1, (f c x).2 ++ (opnL f (c + (f c x).2.length) xs).2)
def opn1 (d c : Nat) : AV → AV × List Ent
  | .agg cs => (.agg (opnL (opnC d) c cs).1, (opnL (opnC d) c cs).2)
  | x => opnC d c x
def opn (d c : Nat) : AV → AV × List Ent
  | .tup vs => (.tup (opnL (opn1 d) c vs).1, (opnL (opn1 d) c vs).2)
  | x => opn1 d c x

/-- A result that rests on no memory but rows that it hands over. -/
def FreshC : AV → Prop
  | .uniq _ _ _ cs => ∀ c ∈ cs, MemFree c
  | x => MemFree x
def Fresh1 : AV → Prop
  | .agg cs => ∀ c ∈ cs, FreshC c
  | x => FreshC x
def Fresh : AV → Prop
  | .tup vs => ∀ x ∈ vs, Fresh1 x
  | x => Fresh1 x

noncomputable def putRes (r : AV) (st : St) (dst : Option Nat) : Option Eff :=
  if Flat r then some { dst := dst, val := r } else
  match dst with
  | some d => some { dst := some d, val := (opn d (st.cnt d) r).1, new := some (d, (opn d (st.cnt d) r).2) }
  | none => none

noncomputable def callFn (call : Nat → List AV → Option AV) (g : Nat) (args : List AV) (st : St) (dst : Option Nat) : Option Eff :=
  if ∀ x ∈ args, Flat x then bnd (call g args) fun r => putRes r st dst
  else
    match optAll (args.map (expo st)) with
    | some xs => bnd (call g xs) fun r => if Fresh r then putRes r st dst else none
    | none => none

/-- A call of a function that works on the row of its first argument: it leaves the row with other cells, or uses it up and hands over another. -/
noncomputable def callMv (call : Nat → List AV → Option AV) (g : Nat) (args : List AV) (st : St) (dst : Option Nat) : Option Eff :=
  match args with
  | .own s k :: rest =>
    match st.heap s k with
    | some (.row e sz n cs) =>
      if (∀ c ∈ cs, Flat c) ∧ ∀ x ∈ rest, Flat x then
        match call g (.uniq e sz n cs :: rest) with
        | some (.uniq e' sz' n' cs') =>
          match dst with
          | some d => some { dst := some d, val := .own d (st.cnt d), upd := some (s, k, none), new := some (d, [.row e' sz' n' cs']) }
          | none => none
        | some (.tup [.uniq e' sz' n' cs']) => some { dst := dst, val := .tup [], upd := some (s, k, some (.row e' sz' n' cs')) }
        | _ => none
      else none
    | _ => none
  | args => if ∀ x ∈ args, Flat x then callFn call g args st dst else none

def ownKey : AV → List (Nat × Nat)
  | .own s g => [(s, g)]
  | _ => []
def ownKeys1 : AV → List (Nat × Nat)
  | .agg cs => cs.flatMap ownKey
  | x => ownKey x
def ownKeys : AV → List (Nat × Nat)
  | .tup vs => vs.flatMap ownKeys1
  | x => ownKeys1 x

def EatOk (x : AV) : Prop := Flat x ∨ (∃ s k, x = .own s k) ∨ ∃ cs, x = .agg cs ∧ ∀ c ∈ cs, Flat c ∨ ∃ s k, c = .own s k

/-- The result of a call that has eaten a row: without memory, or a row that is handed back. -/
noncomputable def eatRes (r : AV) (st : St) (dst : Option Nat) (s k : Nat) : Option Eff :=
  if Flat r then some { dst := dst, val := r, upd := some (s, k, none) } else
  match r, dst with
  | .uniq e sz n cs, some d => if ∀ c ∈ cs, MemFree c then some { dst := some d, val := .own d (st.cnt d), upd := some (s, k, none), new := some (d, [.row e sz n cs]) } else none
  | _, _ => none

/-- A call to which a row of the call's own is given: nobody writes it any more. -/
noncomputable def callEat (call : Nat → List AV → Option AV) (g : Nat) (args : List AV) (st : St) (dst : Option Nat) : Option Eff :=
  match args.flatMap ownKeys1 with
  | [(s, k)] =>
    if ∀ x ∈ args, EatOk x then
      match optAll (args.map (expo st)) with
      | some xs => bnd (call g xs) fun r => eatRes r st dst s k
      | none => none
    else none
  | _ => callFn call g args st dst

section ext
variable [Ext]
noncomputable def callVal (call : Nat → List AV → Option AV) (f : Operand) (args : List AV) (st : St) (dst : Option Nat) : Option Eff :=
  match f with
  | .func g => if Ext.mv g = true then callMv call g args st dst else if Ext.eat g dst = true then callEat call g args st dst else callFn call g args st dst
  | f =>
    match asFn (st.ev f) with
    | some (g, caps) => callFn call g (args ++ caps) st dst
    | none => none

noncomputable def callEff (call : Nat → List AV → Option AV) (c : Call) (dst : Option Nat) (st : St) : Option Eff :=
  match c.callee with
  | .value f => callVal call f (c.args.toList.map st.ev) st dst
  | .builtin .len =>
    match c.args.toList, c.argTypes.toList with
    | [x], [T] =>
      match slInfo P T, sliceView st (st.ev x) with
      | some _, some (n, _) => some { dst := dst, val := .v (.int .i64 n) }
      | _, _ => none
    | _, _ => none
  | .builtin .min =>
    match c.args.toList with
    | [x, y] =>
      match st.ev x, st.ev y with
      | .v (.int k a), .v (.int _ b) => some { dst := dst, val := .v (.int k (if b < a then b else a)) }
      | _, _ => none
    | _ => none
  | .builtin .max =>
    match c.args.toList with
    | [x, y] =>
      match st.ev x, st.ev y with
      | .v (.int k a), .v (.int _ b) => some { dst := dst, val := .v (.int k (if b > a then b else a)) }
      | _, _ => none
    | _ => none
  | .builtin .append =>
    bnd dst fun d =>
      match c.args.toList, c.argTypes.toList with
      | [s, x], [T, T'] =>
        if T = T' then
          if Ext.va T d = true then (appendV P st T (st.ev s) (st.ev x)).map fun u => { dst := some d, val := .vw u.1 u.2.1 0 u.2.2.2, upd := some (u.1, u.2.1, some u.2.2.1) } else
          if Ext.pa T d = true ∧ nilApp P st T (st.ev s) (st.ev x) then some { dst := some d, val := .v (.slice none 0 0) } else
          bnd (appendA P st T (st.ev s) (st.ev x)) fun ur => some { dst := some d, val := .own d (st.cnt d), upd := ur.1.map fun p => (p.1, p.2, none), new := some (d, [ur.2]) }
        else none
      | _, _ => none
  | .builtin .clear =>
    match c.args.toList, c.argTypes.toList with
    | [x], [T] => (clearA P st T (st.ev x)).map fun u => { dst := dst, val := .tup [], upd := u.map fun p => (p.1, p.2.1, some p.2.2) }
    | _, _ => none
  | _ => none

noncomputable def opEff (call : Nat → List AV → Option AV) (o : Oper) (st : St) : Option Eff :=
  match o.op with
  | .alloc T =>
    bnd o.dst fun d => bnd (zeroL P T) fun z => some { dst := some d, val := .ptr d (st.cnt d) 0, new := some (d, [.cells (z.map .v)]) }
  | .box _ x =>
    bnd o.dst fun d => if (st.ev x).stor = true then some { dst := some d, val := .ptr d (st.cnt d) 0, new := some (d, [.cells (st.ev x).cells]) } else none
  | .buildSlice T n parts =>
    bnd o.dst fun d => bnd (slInfo P T) fun t => bnd (zeroL P t.1) fun z =>
      if (0 < n ∨ parts = #[]) ∧ n * t.2.1 ≤ 2 ^ 24 ∧ (parts.toList.all fun p => (st.ev p.2).stor) = true then
        bnd (fillA (fun i => some (i * t.2.1, t.2.1)) ((List.range n).flatMap fun _ => z.map .v) (parts.toList.map fun p => (p.1, st.ev p.2))) fun cs =>
          some { dst := some d, val := .own d (st.cnt d), new := some (d, [.row t.1 t.2.1 n cs]) }
      else none
  | .makeSlice T l c =>
    bnd o.dst fun d => bnd (slInfo P T) fun t => bnd (zeroL P t.1) fun z =>
      match st.ev l, st.ev c with
      | .v (.int .i64 n), .v (.int .i64 m) =>
        if 0 ≤ n ∧ n = m ∧ n * t.2.2 ≤ 140737488355328 ∧ n ≤ maxLen then
          some { dst := some d, val := .own d (st.cnt d), new := some (d, [.row t.1 t.2.1 n.toNat ((List.range n.toNat).flatMap fun _ => z.map .v)]) }
        else none
      | _, _ => none
  | .store T a x => (storeA P st T (st.ev a) (st.ev x)).map fun u => { dst := o.dst, val := .v undef, upd := some (u.1, u.2.1, some u.2.2) }
  | .makeMap _ none => bnd o.dst fun d => some { dst := some d, val := .mp d (st.cnt d), new := some (d, [.map []]) }
  | .mapUpdate T m x y => (mapSetA P st T (st.ev m) (st.ev x) (st.ev y)).map fun u => { dst := o.dst, val := .v undef, upd := some (u.1, u.2.1, some u.2.2) }
  | .call c => callEff P call c o.dst st
  | op => (opVal P st op).map fun x => { dst := o.dst, val := x }

def gv (ops : Array Oper) (st : St) (g : Option (Nat × Bool)) : Option Bool :=
  match g with
  | none => some true
  | some (j, want) =>
    match (ops[j]?).bind (·.dst) with
    | some d =>
      match st.env d with
      | .v x => match x with
        | .bool b => some (b == want)
        | _ => some false
      | _ => none
    | none => some false

noncomputable def evOp (call : Nat → List AV → Option AV) (ops : Array Oper) (o : Oper) (st : St) : Option St :=
  match gv ops st o.guard with
  | some b => if b = true then (opEff P call o st).map fun e => e.apply st else some (st.put o.dst (.v undef))
  | none => none

noncomputable def evOps (call : Nat → List AV → Option AV) (ops : Array Oper) : List Oper → St → Option St
  | [], st => some st
  | o :: r, st => bnd (evOp P call ops o st) (evOps call ops r)

/-- A call that is run in the caller's own memory. -/
def isInl (o : Oper) : Option (Nat × List Operand) :=
  match o.op with
  | .call { callee := .value (.func g), args, .. } => if Ext.inl g o.dst = true then some (g, args.toList) else none
  | _ => none
def noI (o : Oper) : Bool := (isInl o).isNone
def noInl (ops : Array Oper) : Bool := ops.all noI
/-- What a region is known by: its first operation's register. -/
def firstDst (ops : Array Oper) : Option Nat := (ops[0]?).bind (·.dst)

/-- The registers stay, the memory is that of the end of the call. -/
def St.back (st : St) (s : St) : St := ⟨st.env, s.heap, s.cnt⟩

noncomputable def evOpI (b : Bool) (call : Nat → List AV → Option AV) (inl : Nat → List AV → St → Option (AV × St)) (ops : Array Oper) (o : Oper) (st : St) : Option St :=
  match (if b = true then isInl o else none) with
  | some (g, args) =>
    match gv ops st o.guard with
    | some t => if t = true then (inl g (args.map st.ev) st).map fun r => (st.back r.2).put o.dst r.1 else some (st.put o.dst (.v undef))
    | none => none
  | none => evOp P call ops o st

noncomputable def evOpsI (b : Bool) (call : Nat → List AV → Option AV) (inl : Nat → List AV → St → Option (AV × St)) (ops : Array Oper) : List Oper → St → Option St
  | [], st => some st
  | o :: r, st => bnd (evOpI P b call inl ops o st) (evOpsI b call inl ops r)

/-- The registers whose pieces of memory an operation reads or writes; it touches no others. -/
def keyRegs (o : Oper) : Option (List Nat) :=
  match o.guard with
  | some _ => none
  | none =>
    match o.op with
    | .load _ (.tmp a) => some [a]
    | .store _ (.tmp a) _ => some [a]
    | .indexAddr _ (.tmp a) _ => some [a]
    | .slice _ (.tmp a) _ _ _ => some [a]
    | .call { callee := .builtin .len, args, .. } =>
      match args.toList with
      | [.tmp a] => some [a]
      | _ => none
    | .call { callee := .builtin .append, args, .. } =>
      match args.toList with
      | [.tmp a, .tmp b] => some [a, b]
      | _ => none
    | .call { callee := .value (.func g), args, .. } =>
      match args.toList with
      | .tmp a :: _ => if Ext.mv g = true then some [a] else none
      | _ => none
    | _ => none
def keyOf : AV → Option (Option (Nat × Nat))
  | .ptr s g _ => some (some (s, g))
  | .own s g => some (some (s, g))
  | .vw s g _ _ => some (some (s, g))
  | .v _ => some none
  | .sl _ _ => some none
  | .cl _ _ => some none
  | .ip _ _ => some none
  | _ => none
def farKeys : Option (Option (Nat × Nat)) → Option (Option (Nat × Nat)) → Prop
  | some (some k), some (some k') => k ≠ k'
  | some _, some _ => True
  | _, _ => False
def farApart (x y : AV) : Prop := farKeys (keyOf x) (keyOf y)
def farAll (s : St) (as bs : List Nat) : Prop := ∀ a ∈ as, ∀ b ∈ bs, farApart (s.env a) (s.env b)
def SwapAt (ops : Array Oper) (s : St) (p : Nat × Nat) : Prop :=
  match (ops[p.1]?).bind keyRegs, (ops[p.2]?).bind keyRegs with
  | some as, some bs => farAll s as bs
  | _, _ => False
/-- The addresses of these pairs, at a region's end, lie in different pieces of memory. -/
def SwapsOk (ops : Array Oper) (s : St) : List (Nat × Nat) → Prop
  | [] => True
  | p :: l => SwapAt ops s p ∧ SwapsOk ops s l

inductive Ex where
  | normal
  | exit (id : Nat)
  | ret

def Ex.inBlock (id : Nat) : Ex → Ex
  | .exit i => if i = id then .normal else .exit i
  | e => e

noncomputable def evC (bi : Bool) (call : Nat → List AV → Option AV) (inl : Nat → List AV → St → Option (AV × St)) : Nat → Code → St → Option (Ex × St)
  | 0, _, _ => none
  | n + 1, c, st =>
    match c with
    | .skip => some (.normal, st)
    | .region id ops _ => bnd (evOpsI P bi call inl ops ops.toList st) fun s => if bi = true ∧ ¬ SwapsOk ops s (Ext.dyn id ops.size (firstDst ops)) then none else some (.normal, s)
    | .seq a b => bnd (evC bi call inl n a st) fun r => match r.1 with
      | .normal => evC bi call inl n b r.2
      | e => some (e, r.2)
    | .cond c a b =>
      match st.ev c with
      | .v (.bool t) => if t = true then evC bi call inl n a st else evC bi call inl n b st
      | _ => none
    | .block id b => bnd (evC bi call inl n b st) fun r => some (r.1.inBlock id, r.2)
    | .loop b => bnd (evC bi call inl n b st) fun r => match r.1 with
      | .normal => evC bi call inl n (.loop b) r.2
      | e => some (e, r.2)
    | .exit id => some (.exit id, st)
    | .ret => some (.ret, st)
    | _ => none

def resVal (st : St) : ResultVar → Option AV
  | .tmp t => some (st.env t)
  | .cell a T => bnd (readAt st (st.env a)) (loadVal P T)

noncomputable def expoR (st : St) (x : AV) : Option AV :=
  match x with
  | .own s g =>
    match st.heap s g with
    | some (.row e sz n cs) => if ∀ c ∈ cs, Flat c then some (.uniq e sz n cs) else none
    | _ => none
  | x => expo st x

/-- A row whose cells are rows themselves, as the caller reads it: results of a function that has several. -/
noncomputable def expo2 (st : St) (x : AV) : Option AV :=
  match x with
  | .own s g =>
    match st.heap s g with
    | some (.row _ _ n cs) => (optAll (cs.map (expo1 st))).map (.sl n)
    | _ => none
  | x => expo1 st x
noncomputable def expoD (st : St) (x : AV) : Option AV :=
  match x with
  | .agg cs => (optAll (cs.map (expo2 st))).map .agg
  | x => expo2 st x
noncomputable def expoS (st : St) (x : AV) : Option AV :=
  match expo st x with
  | some y => some y
  | none => expoD st x

noncomputable def finishA (fn : Func) (st : St) : Option AV :=
  match fn.results.toList with
  | [r] => bnd (resVal P st r) (expoR st)
  | rs => (optAll (rs.map fun r => bnd (resVal P st r) (expoS st))).map .tup

/-- The rows that a result holds, handed over. -/
noncomputable def expoUC (st : St) (x : AV) : Option AV :=
  if Flat x then some x else
  match x with
  | .own s g =>
    match st.heap s g with
    | some (.row e sz n cs) => if ∀ c ∈ cs, Flat c then some (.uniq e sz n cs) else none
    | _ => none
  | _ => none
noncomputable def expoU1 (st : St) : AV → Option AV
  | .agg cs => (optAll (cs.map (expoUC st))).map .agg
  | x => expoUC st x
noncomputable def expoU (st : St) : AV → Option AV
  | .tup vs => (optAll (vs.map (expoU1 st))).map .tup
  | x => expoU1 st x
noncomputable def finishK (fn : Func) (st : St) : Option AV :=
  match fn.results.toList with
  | [r] => bnd (resVal P st r) fun x => if (ownKeys x).Nodup then expoU st x else none
  | rs => bnd (optAll (rs.map fun r => resVal P st r)) fun xs => if (ownKeys (.tup xs)).Nodup then expoU st (.tup xs) else none

noncomputable def finishF (f : Nat) (fn : Func) (st : St) : Option AV := if Ext.keep f = true then finishK P fn st else finishA P fn st

def St.init (xs : List AV) : St := ⟨fun t => (xs[t]?).getD (.v undef), fun _ _ => none, fun _ => 0⟩

/-- May the orders of a drawing region be passed over? Every two operations that nothing orders are such that neither sees the other. -/
def opClass (ops : Array Oper) (o : Oper) : Nat :=      -- 0: touches no memory · 1: reads · 2: makes memory · 3: writes
  match o.op with
  | .load .. => 1
  | .indexAddr .. => 1
  | .slice .. => 1
  | .alloc _ | .box .. | .buildSlice .. | .makeSlice .. | .makeMap .. => 2
  | .store .. => 3
  | .mapUpdate .. => 3
  | .lookup .. => 1
  | .call { callee := .builtin .append, args, .. } => match args.toList with
    | .const (.slice none 0 0) :: _ => 1
    | _ => 3
  | .call { callee := .builtin .len, .. } => 1
  | .call { callee := .builtin .clear, .. } => 3
  | .call { callee := .value (.func g), args, .. } => if Ext.eat g o.dst = true then 3 else if Ext.mv g = true then (match args.toList with
    | .const (.slice none 0 0) :: _ => 1
    | _ => 3) else 1
  | .call _ => 1
  | .select .. => 4
  | _ => if ops.size = 0 then 0 else 0

def apartOk (ops : Array Oper) (x y : Oper) : Bool :=
  Oper.apart ops x y &&
  (match opClass ops x, opClass ops y with
   | 4, _ => false
   | _, 4 => false
   | 3, 1 => false
   | 1, 3 => false
   | 3, 3 => false
   | _, _ => true)

/-- Everything before an operation, as bits. -/
def maskOf (acc : Array Nat) (o : Oper) : Nat :=
  o.after.toList.foldl (fun s e => if Region.binds .any e = true then s ||| 2 ^ e.on ||| acc.getD e.on 0 else s) 0

def forced {α : Type} (n : Nat) (k : Nat → α) : α :=
  match n with
  | 0 => k 0
  | m + 1 => k (m + 1)

def masks : List Oper → Array Nat → Array Nat
  | [], acc => acc
  | o :: r, acc => forced (maskOf acc o) fun n => masks r (acc.push n)

/-- Every operation that writes a register comes before an operation. -/
def wroteBefore (b : Array Nat) (i : Nat) (as : List Nat) : List Oper → Nat → Bool
  | [], _ => true
  | o :: r, m => ((match o.dst with | some d => !as.contains d | none => true) || (b.getD i 0).testBit m) && wroteBefore b i as r (m + 1)
/-- Two operations that may change places if what they touch lies in different pieces of memory. -/
def swapSt (ops : Array Oper) (b : Array Nat) (i : Nat) (oi : Oper) (j : Nat) (oj : Oper) : Bool :=
  match keyRegs oi, keyRegs oj with
  | some as, some bs => Oper.apart ops oi oj && wroteBefore b i as ops.toList 0 && wroteBefore b j bs ops.toList 0
  | _, _ => false

def pairsOk (ops : Array Oper) (dy : List (Nat × Nat)) (b : Array Nat) (j : Nat) (oj : Oper) : List Oper → Nat → Bool
  | [], _ => true
  | oi :: r, i => (decide (j ≤ i) || (b.getD j 0).testBit i || (noI oi && noI oj && (apartOk ops oi oj || (dy.contains (i, j) && swapSt ops b i oi j oj)))) && pairsOk ops dy b j oj r (i + 1)

def rowsOk (ops : Array Oper) (dy : List (Nat × Nat)) (b : Array Nat) : List Oper → Nat → Bool
  | [], _ => true
  | oj :: r, j => (oj.after.toList.all fun e => !(Region.binds .any e) || decide (e.on < j)) && pairsOk ops dy b j oj ops.toList 0 && rowsOk ops dy b r (j + 1)

def drawOk (ops : Array Oper) (dy : List (Nat × Nat)) : Bool := rowsOk ops dy (masks ops.toList #[]) ops.toList 0

def codeOk (bi : Bool) (nt : Nat) : Code → Bool
  | .region id ops draw => (ops.all fun o => o.dst.all fun d => decide (d < nt)) && (!draw || (drawOk ops (if bi = true then Ext.dyn id ops.size (firstDst ops) else [])))
  | .seq a b => codeOk bi nt a && codeOk bi nt b
  | .cond _ a b => codeOk bi nt a && codeOk bi nt b
  | .block _ b => codeOk bi nt b
  | .loop b => codeOk bi nt b
  | _ => true

/-- Has the code a call that is run in its own memory, or a drawing region that is looked at while it runs? -/
def codeInl : Code → Bool
  | .region _ ops draw => !noInl ops || (draw && !drawOk ops [])
  | .seq a b => codeInl a || codeInl b
  | .cond _ a b => codeInl a || codeInl b
  | .block _ b => codeInl b
  | .loop b => codeInl b
  | _ => false

def fnOkB (bi : Bool) (fn : Func) : Bool := fn.name != "runtime.NumGoroutine" && (match fn.body with | some c => codeOk bi fn.ntmps c | none => false)
def fnOk (fn : Func) : Bool := fnOkB (match fn.body with | some c => codeInl c | none => false) fn

noncomputable def runF (call : Nat → List AV → Option AV) (inl : Nat → List AV → St → Option (AV × St)) (n f : Nat) (xs : List AV) : Option AV :=
  match P.funcs[f]? with
  | some fn =>
    if fnOk fn = true then
      match fn.body with
      | some c => bnd (evC P (codeInl c) call inl n c (St.init xs)) fun r => match r.1 with
        | .exit _ => none
        | _ => finishF P f fn r.2
      | none => none
    else none
  | none => none

/-- A call to which a row is handed over: it lies in the memory of register 0, and the result is a row that is handed back. -/
def St.initM (e sz n : Nat) (cs rest : List AV) : St :=
  ⟨fun t => match t with | 0 => .own 0 0 | t + 1 => (rest[t]?).getD (.v undef), fun s g => if s = 0 ∧ g = 0 then some (.row e sz n cs) else none, fun s => if s = 0 then 1 else 0⟩
noncomputable def finishM (fn : Func) (st : St) : Option AV :=
  match fn.results.toList with
  | [r] =>
    match resVal P st r with
    | some (.own s g) =>
      match st.heap s g with
      | some (.row e sz n cs) => if ∀ c ∈ cs, MemFree c then some (.uniq e sz n cs) else none
      | _ => none
    | some (.vw s g 0 k) =>
      match st.heap s g with
      | some (.row e sz n cs) => if k ≤ n ∧ cs.length = n * sz ∧ ∀ c ∈ cs, MemFree c then some (.uniq e sz k (cs.take (k * sz))) else none
      | _ => none
    | _ => none
  | _ => none
noncomputable def runM (call : Nat → List AV → Option AV) (inl : Nat → List AV → St → Option (AV × St)) (n f e sz m : Nat) (cs rest : List AV) : Option AV :=
  match P.funcs[f]? with
  | some fn =>
    if fnOk fn = true then
      match fn.body with
      | some c => bnd (evC P (codeInl c) call inl n c (St.initM e sz m cs rest)) fun r => match r.1 with
        | .exit _ => none
        | _ => finishM P fn r.2
      | none => none
    else none
  | none => none

/-- The results as they are, for a caller whose memory they lie in. -/
noncomputable def finishI (fn : Func) (st : St) : Option AV :=
  match fn.results.toList with
  | [r] => resVal P st r
  | rs => (optAll (rs.map fun r => resVal P st r)).map .tup

noncomputable def runI (call : Nat → List AV → Option AV) (inl : Nat → List AV → St → Option (AV × St)) (n f : Nat) (xs : List AV) (st : St) : Option (AV × St) :=
  match P.funcs[f]? with
  | some fn =>
    if fnOkB true fn = true then
      match fn.body with
      | some c => bnd (evC P true call inl n c ((St.init xs).back st)) fun r => match r.1 with
        | .exit _ => none
        | _ => (finishI P fn r.2).map fun x => (x, r.2)
      | none => none
    else none
  | none => none

def isUniq : AV → Bool
  | .uniq _ _ _ _ => true
  | _ => false

def headUniq : List AV → Option (Nat × Nat × Nat × List AV × List AV)
  | .uniq e sz m cs :: rest => some (e, sz, m, cs, rest)
  | _ => none

noncomputable def evFI : Nat → (Nat → List AV → Option AV) × (Nat → List AV → St → Option (AV × St))
  | 0 => (Ext.ext, fun _ _ _ => none)
  | n + 1 => (fun f xs => match Ext.ext f xs with
      | some r => some r
      | none =>
        match headUniq xs with
        | some u => runM P (evFI n).1 (evFI n).2 n f u.1 u.2.1 u.2.2.1 u.2.2.2.1 u.2.2.2.2
        | none => if xs.any isUniq = true then none else runF P (evFI n).1 (evFI n).2 n f xs,
    fun f xs st => runI P (evFI n).1 (evFI n).2 n f xs st)
noncomputable def evF (n : Nat) : Nat → List AV → Option AV := (evFI P n).1
noncomputable def evI (n : Nat) : Nat → List AV → St → Option (AV × St) := (evFI P n).2
theorem evF_zero (f : Nat) (xs : List AV) : evF P 0 f xs = Ext.ext f xs := rfl
theorem evF_succ (n f : Nat) (xs : List AV) : evF P (n + 1) f xs = match Ext.ext f xs with
    | some r => some r
    | none =>
      match headUniq xs with
      | some u => runM P (evF P n) (evI P n) n f u.1 u.2.1 u.2.2.1 u.2.2.2.1 u.2.2.2.2
      | none => if xs.any isUniq = true then none else runF P (evF P n) (evI P n) n f xs := rfl
theorem evI_zero (f : Nat) (xs : List AV) (st : St) : evI P 0 f xs st = none := rfl
theorem evI_succ (n f : Nat) (xs : List AV) (st : St) : evI P (n + 1) f xs st = runI P (evF P n) (evI P n) n f xs st := rfl
end ext
end ops
end Go.Ab
