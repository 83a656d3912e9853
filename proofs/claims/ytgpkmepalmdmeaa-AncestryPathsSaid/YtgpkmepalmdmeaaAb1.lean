/-
  Part Ab1 of the proof: an evaluator of the programs written in Lean once, and its soundness.
-/
import Derived.WalkKit
import Derived.Laws.AppendOwn
set_option linter.all false
namespace Go.Ab
open Classical

/-- Abstract values: a value without addresses, an aggregate cell by cell, a slice that nobody writes any more (its length and all its
cells; the same with no spare room), a pointer into memory that nobody writes any more, a pointer into, or a slice over, memory of the call's own, a map of the call's own,
a closure, a tuple, a slice that is handed over with its memory. -/
inductive AV where
  | v (x : Value)
  | agg (cs : List AV)
  | sl (n : Nat) (cs : List AV)
  | cl (n : Nat) (cs : List AV)
  | ip (cs : List AV) (o : Nat)
  | ptr (s g off : Nat)
  | own (s g : Nat)
  | mp (s g : Nat)
  | clo (f : Nat) (caps : List AV)
  | tup (vs : List AV)
  | uniq (e sz n : Nat) (cs : List AV)

/-- What the program's functions beyond the evaluator are: those that work on the row of their first argument, those whose results hand over
the rows that they hold, and what is known of calls that were proved elsewhere. -/
class Ext where
  mv : Nat → Bool
  keep : Nat → Bool
  ext : Nat → List AV → Option AV

/-- What a piece of the call's own memory holds. -/
inductive Ent where
  | cells (cs : List AV)
  | row (e sz n : Nat) (cs : List AV)
  | map (es : List (AV × AV))

structure St where
  env : Nat → AV
  heap : Nat → Nat → Option Ent
  cnt : Nat → Nat

def St.put (st : St) (d : Option Nat) (x : AV) : St :=
  match d with
  | none => st
  | some d => { st with env := fun t => if t = d then x else st.env t }

def St.setH (st : St) (s g : Nat) (e : Option Ent) : St :=
  { st with heap := fun s' g' => if s' = s ∧ g' = g then e else st.heap s' g' }

def St.news (st : St) (d : Nat) (es : List Ent) : St :=
  { st with heap := fun s' g' => if s' = d ∧ st.cnt d ≤ g' ∧ g' - st.cnt d < es.length then es[g' - st.cnt d]? else st.heap s' g', cnt := fun s => if s = d then st.cnt d + es.length else st.cnt s }

def St.new (st : St) (d : Nat) (e : Ent) : St :=
  { st with heap := fun s' g' => if s' = d ∧ g' = st.cnt d then some e else st.heap s' g', cnt := fun s => if s = d then st.cnt d + 1 else st.cnt s }

def St.ev (st : St) : Operand → AV
  | .tmp t => st.env t
  | .const x => .v x
  | .global g => .v (.pointer (some ⟨g, 0, none⟩))
  | .func f => .v (.func (.func f) #[] #[])

/-- What an operation does: a slot's new value, one piece of memory set or given up, one piece made. -/
structure Eff where
  dst : Option Nat
  val : AV
  upd : Option (Nat × Nat × Option Ent) := none
  new : Option (Nat × List Ent) := none

def Eff.apply (e : Eff) (st : St) : St :=
  let s1 := match e.upd with
    | some (s, g, x) => st.setH s g x
    | none => st
  let s2 := match e.new with
    | some (d, x) => s1.news d x
    | none => s1
  s2.put e.dst e.val

def AV.cells : AV → List AV
  | .agg cs => cs
  | x => [x]

inductive Flat : AV → Prop
  | v (x : Value) : Flat (.v x)
  | agg (cs : List AV) (h : ∀ x ∈ cs, Flat x) : Flat (.agg cs)
  | sl (n : Nat) (cs : List AV) (h : ∀ x ∈ cs, Flat x) : Flat (.sl n cs)
  | cl (n : Nat) (cs : List AV) (h : ∀ x ∈ cs, Flat x) : Flat (.cl n cs)
  | ip (cs : List AV) (o : Nat) (h : ∀ x ∈ cs, Flat x) : Flat (.ip cs o)
  | clo (f : Nat) (cs : List AV) (h : ∀ x ∈ cs, Flat x) : Flat (.clo f cs)
  | tup (cs : List AV) (h : ∀ x ∈ cs, Flat x) : Flat (.tup cs)

inductive MemFree : AV → Prop
  | v (x : Value) : MemFree (.v x)
  | agg (cs : List AV) (h : ∀ x ∈ cs, MemFree x) : MemFree (.agg cs)
  | tup (cs : List AV) (h : ∀ x ∈ cs, MemFree x) : MemFree (.tup cs)

def bnd {α β : Type} (x : Option α) (f : α → Option β) : Option β :=
  match x with
  | some a => f a
  | none => none

section tables
variable (P : Program)

def fieldOff (T f : Nat) : Option Nat :=
  match P.underlying T with
  | some (.struct fs) =>
    match fs[f]? with
    | some fd => if P.cellsOf fd.type = 0 then none else some fd.offset
    | none => none
  | _ => none

def arrInfo (T : Nat) : Option (Nat × Nat) :=
  match P.underlying T with
  | some (.array n e) => if P.cellsOf e = 0 then none else some (n, P.cellsOf e)
  | _ => none

/-- Of a slice's type: the element's type, its cells, its bytes. -/
def slInfo (T : Nat) : Option (Nat × Nat × Nat) :=
  match P.underlying T with
  | some (.slice e) =>
    match P.info? e with
    | some i =>
      match i.zero with
      | some z => if i.size = 0 ∨ z.cells.size ≠ i.size then none else some (e, i.size, i.bytes)
      | none => none
    | none => none
  | _ => none

def ldInfo (T : Nat) : Option (Bool × Nat) :=
  match P.info? T with
  | none => none
  | some i =>
    match P.underlying T with
    | some (.struct _) => some (true, i.size)
    | some (.array _ _) => some (true, i.size)
    | some _ => some (false, i.size)
    | none => none

def zeroL (T : Nat) : Option (List Value) :=
  match P.info? T with
  | some i =>
    match i.zero with
    | some z => if (z.cells.toList.all fun y => y.oneCell') = true then some z.cells.toList else none
    | none => none
  | none => none

def intKind (T : Nat) : Option IntKind :=
  match P.underlying T with
  | some (.int k) => some k
  | _ => none

def isAggT (t : Nat) : Bool :=
  match P.underlying t with
  | some (.struct _) => true
  | some (.array _ _) => true
  | _ => false

/-- The leaves of a type that '==' compares leaf by leaf: true for an integer, false for a bool. -/
def leavesL (f : Nat → Option (List Bool)) : List Field → Nat → Option (List Bool)
  | [], _ => some []
  | fd :: r, off =>
    match f fd.type with
    | some m =>
      if fd.name ≠ "_" ∧ fd.offset = off ∧ P.cellsOf fd.type = m.length ∧ (P.info? fd.type).isSome = true then (leavesL f r (off + m.length)).map (m ++ ·) else none
    | none => none

def eqLeaves : Nat → Nat → Option (List Bool)
  | 0, _ => none
  | d + 1, t =>
    match P.underlying t with
    | some .bool => some [false]
    | some (.int _) => some [true]
    | some (.struct fs) => if P.stoodInHeld t = true then none else leavesL P (eqLeaves d) fs.toList 0
    | some (.array n e) =>
      match eqLeaves d e with
      | some m => if P.cellsOf e = m.length ∧ (P.info? e).isSome = true then some ((List.range n).flatMap fun _ => m) else none
      | none => none
    | _ => none
end tables

/-- Two lists of cells that '==' may compare at these leaves. -/
def Leafy : List Bool → List AV → List AV → Prop
  | [], [], [] => True
  | true :: l, .v (.int k _) :: xs, .v (.int k' _) :: ys => k = k' ∧ Leafy l xs ys
  | false :: l, .v (.bool _) :: xs, .v (.bool _) :: ys => Leafy l xs ys
  | _, _, _ => False

section ops
variable (P : Program)

noncomputable def eqAgg (T : Nat) (xs ys : List AV) : Option Bool :=
  match eqLeaves P 20 T with
  | some l => if isAggT P T = true ∧ P.eqGuardType P.depth T = false ∧ Leafy l xs ys then some (decide (xs = ys)) else none
  | none => none

/-- A slice compared with nil. -/
def nilCmp (op : BinOp) (T : Nat) (b : Bool) : Option AV :=
  match P.underlying T with
  | some (.slice _) =>
    match op with
    | .eql => some (.v (.bool b))
    | .neq => some (.v (.bool (!b)))
    | _ => none
  | _ => none

noncomputable def binA (op : BinOp) (T : Nat) (x y : AV) : Option AV :=
  match x, y with
  | .v (.int k a), .v (.int k' b) =>
    match op with
    | .shl => if b < 0 then none else some (.v (.int k (k.wrap (a * 2 ^ (min b.toNat k.bits)))))
    | .shr => if b < 0 then none else some (.v (.int k (a.fdiv (2 ^ (min b.toNat k.bits)))))
    | .add => if k = k' then some (.v (.int k (k.wrap (a + b)))) else none
    | .sub => if k = k' then some (.v (.int k (k.wrap (a - b)))) else none
    | .mul => if k = k' then some (.v (.int k (k.wrap (a * b)))) else none
    | .quo => if k = k' ∧ b ≠ 0 then some (.v (.int k (k.wrap (a.tdiv b)))) else none
    | .rem => if k = k' ∧ b ≠ 0 then some (.v (.int k (a.tmod b))) else none
    | .and => if k = k' then some (.v (.int k (k.wrap (BitVec.ofInt k.bits a &&& BitVec.ofInt k.bits b).toNat))) else none
    | .or => if k = k' then some (.v (.int k (k.wrap (BitVec.ofInt k.bits a ||| BitVec.ofInt k.bits b).toNat))) else none
    | .xor => if k = k' then some (.v (.int k (k.wrap (BitVec.ofInt k.bits a ^^^ BitVec.ofInt k.bits b).toNat))) else none
    | .andNot => if k = k' then some (.v (.int k (k.wrap (BitVec.ofInt k.bits a &&& ~~~ BitVec.ofInt k.bits b).toNat))) else none
    | .eql => if k = k' then some (.v (.bool (a == b))) else none
    | .neq => if k = k' then some (.v (.bool (a != b))) else none
    | .lss => if k = k' then some (.v (.bool (decide (a < b)))) else none
    | .leq => if k = k' then some (.v (.bool (decide (a ≤ b)))) else none
    | .gtr => if k = k' then some (.v (.bool (decide (a > b)))) else none
    | .geq => if k = k' then some (.v (.bool (decide (a ≥ b)))) else none
  | .v (.bool a), .v (.bool b) =>
    match P.underlying T with
    | some .bool =>
      match op with
      | .eql => some (.v (.bool (a == b)))
      | .neq => some (.v (.bool (!(a == b))))
      | _ => none
    | _ => none
  | .agg xs, .agg ys =>
    match op with
    | .eql => (eqAgg P T xs ys).map fun b => .v (.bool b)
    | .neq => (eqAgg P T xs ys).map fun b => .v (.bool (!b))
    | _ => none
  | .sl _ (_ :: _), .v (.slice none 0 0) => nilCmp P op T false
  | .v (.slice none 0 0), .v (.slice none 0 0) => nilCmp P op T true
  | _, _ => none

def unA (op : UnOp) (x : AV) : Option AV :=
  match op, x with
  | .not, .v (.bool b) => some (.v (.bool (!b)))
  | .neg, .v (.int k n) => some (.v (.int k (k.wrap (0 - n))))
  | .xor, .v (.int k n) => some (.v (.int k (k.wrap (BitVec.ofInt k.bits (if k.signed then -1 else k.max) ^^^ BitVec.ofInt k.bits n).toNat)))
  | _, _ => none

def addOff (x : AV) (k : Nat) : Option AV :=
  match x with
  | .ptr s g o => some (.ptr s g (o + k))
  | .ip cs o => if o + k ≤ cs.length then some (.ip cs (o + k)) else none
  | _ => none

def readAt (st : St) (x : AV) : Option (List AV) :=
  match x with
  | .ip cs o => some (cs.drop o)
  | .ptr s g o =>
    match st.heap s g with
    | some (.cells cs) => some (cs.drop o)
    | some (.row _ _ _ cs) => some (cs.drop o)
    | _ => none
  | _ => none

def loadVal (T : Nat) (cs : List AV) : Option AV :=
  match ldInfo P T with
  | some (true, k) => if 0 < k ∧ k ≤ cs.length then some (.agg (cs.take k)) else none
  | some (false, _) => cs.head?
  | none => none

def sliceView (st : St) (x : AV) : Option (Nat × List AV) :=
  match x with
  | .sl n cs => some (n, cs)
  | .cl n cs => some (n, cs)
  | .own s g =>
    match st.heap s g with
    | some (.row _ _ n cs) => some (n, cs)
    | _ => none
  | .v (.slice none 0 0) => some (0, [])
  | _ => none

def indexAddrA (st : St) (T : Nat) (x i : AV) : Option AV :=
  match i with
  | .v (.int _ i) =>
    match arrInfo P T with
    | some (n, sz) => if 0 ≤ i ∧ i < n then addOff x (i.toNat * sz) else none
    | none =>
      match slInfo P T with
      | some (e, sz, _) =>
        match x with
        | .sl n cs => if 0 ≤ i ∧ i < n ∧ i.toNat * sz + sz ≤ cs.length then some (.ip ((cs.drop (i.toNat * sz)).take sz) 0) else none
        | .own s g =>
          match st.heap s g with
          | some (.row e' sz' n _) => if 0 ≤ i ∧ i < n ∧ e' = e ∧ sz' = sz then some (.ptr s g (i.toNat * sz)) else none
          | _ => none
        | _ => none
      | none => none
  | _ => none

/-- The parts of a struct or an array laid over its zero value. -/
def fillA (place : Nat → Option (Nat × Nat)) (cells : List AV) : List (Nat × AV) → Option (List AV)
  | [] => some cells
  | (i, x) :: rest =>
    match place i with
    | none => none
    | some (off, size) =>
      if x.cells.length = size ∧ off + size ≤ cells.length then fillA place (cells.take off ++ x.cells ++ cells.drop (off + size)) rest else none

def placeOf (T : Nat) : Option (Nat → Option (Nat × Nat)) :=
  match P.underlying T with
  | some (.struct fs) => if fs.all (fun f => (P.info? f.type).isSome) then some fun i => (fs[i]?).map fun f => (f.offset, P.cellsOf f.type) else none
  | some (.array _ e) => if (P.info? e).isSome then some fun i => some (i * P.cellsOf e, P.cellsOf e) else none
  | _ => none

/-- May a value be one cell, or an aggregate: no tuple, nothing that is handed over. -/
def AV.stor : AV → Bool
  | .v x => x.oneCell'
  | .tup _ => false
  | .uniq _ _ _ _ => false
  | _ => true

def buildA (st : St) (T : Nat) (parts : List (Nat × Operand)) : Option AV :=
  match zeroL P T, placeOf P T with
  | some z, some place =>
    if (parts.all fun p => (st.ev p.2).stor) = true then (fillA place (z.map .v) (parts.map fun p => (p.1, st.ev p.2))).map .agg else none
  | _, _ => none

def sliceA (st : St) (T : Nat) (x : AV) (lo hi : Option Operand) : Option AV :=
  match slInfo P T with
  | some (_, sz, _) =>
    match x with
    | .sl n cs =>
      match (match hi with | some h => st.ev h | none => .v (.int .i64 n)), (match lo with | some l => st.ev l | none => .v (.int .i64 0)) with
      | .v (.int _ h), .v (.int _ l) =>
        if 0 ≤ l ∧ l ≤ h ∧ h ≤ n ∧ cs.length = n * sz then some (.sl (h - l).toNat ((cs.drop (l.toNat * sz)).take ((h - l).toNat * sz))) else none
      | _, _ => none
    | .v (.slice none 0 0) =>
      match (match hi with | some h => st.ev h | none => .v (.int .i64 0)), (match lo with | some l => st.ev l | none => .v (.int .i64 0)) with
      | .v (.int _ h), .v (.int _ l) => if l = 0 ∧ h = 0 then some x else none
      | _, _ => none
    | _ => none
  | none => none

/-- 'x[lo:hi:hi]'. -/
def sliceA3 (st : St) (T : Nat) (x : AV) (lo : Option Operand) (hi mx : Operand) : Option AV :=
  match slInfo P T with
  | some (_, sz, _) =>
    match st.ev hi, st.ev mx, (match lo with | some l => st.ev l | none => .v (.int .i64 0)) with
    | .v (.int _ h), .v (.int _ m), .v (.int _ l) =>
      match x with
      | .sl n cs => if 0 ≤ l ∧ l ≤ h ∧ h = m ∧ h ≤ n ∧ cs.length = n * sz then some (.cl (h - l).toNat ((cs.drop (l.toNat * sz)).take ((h - l).toNat * sz))) else none
      | .v (.slice none 0 0) => if l = 0 ∧ h = 0 ∧ m = 0 then some x else none
      | _ => none
    | _, _, _ => none
  | none => none

/-- A key's type whose values the machine's own look at keys passes over: leaves, or an array of them. -/
def mapKeyOk (l : List Bool) (k : Nat) : Bool :=
  match P.underlying k with
  | some (.int _) => true
  | some .bool => true
  | some (.array n e) =>
    match P.underlying e with
    | some (.int _) => decide (P.cellsOf e = 1) && decide (l.length = n) && (P.info? e).isSome && decide (n ≤ 10000)
    | _ => false
  | _ => false

/-- A type's zero value. -/
def zeroA (T : Nat) : Option AV :=
  match P.info? T with
  | some i =>
    match i.zero with
    | some (.agg cs) => if (cs.toList.all fun y => y.oneCell') = true then some (.agg (cs.toList.map .v)) else none
    | some y => if y.oneCell' = true then some (.v y) else none
    | none => none
  | none => none

/-- What a map's type holds: the key's type, and the element's zero value. -/
def mapInfo (T : Nat) : Option (Nat × AV) :=
  match P.underlying T with
  | some (.map k e) =>
    match eqLeaves P 20 k, zeroA P e with
    | some l, some z => if mapKeyOk P l k = true then some (k, z) else none
    | _, _ => none
  | _ => none

/-- May two values be keys of this type. -/
def keyOkA (k : Nat) (x y : AV) : Prop :=
  match eqLeaves P 20 k with
  | some l => Leafy l x.cells y.cells ∧ (isAggT P k = true → (∃ cs, x = .agg cs) ∧ ∃ cs, y = .agg cs) ∧ (isAggT P k = false → (∃ u, x = .v u) ∧ ∃ u, y = .v u)
  | none => False

noncomputable def mget : List (AV × AV) → AV → Option AV
  | [], _ => none
  | p :: r, x => if p.1 = x then some p.2 else mget r x

noncomputable def mset : List (AV × AV) → AV → AV → List (AV × AV)
  | [], x, y => [(x, y)]
  | p :: r, x, y => if p.1 = x then (x, y) :: r else p :: mset r x y

noncomputable def lookA (st : St) (T : Nat) (m x : AV) (ok : Bool) : Option AV :=
  match m with
  | .mp s g =>
    match st.heap s g, mapInfo P T with
    | some (.map es), some (k, z) =>
      if keyOkA P k x x ∧ ∀ p ∈ es, keyOkA P k x p.1 then
        match mget es x with
        | some v => some (if ok = true then .tup [v, .v (.bool true)] else v)
        | none => some (if ok = true then .tup [z, .v (.bool false)] else z)
      else none
    | _, _ => none
  | _ => none

noncomputable def mapSetA (st : St) (T : Nat) (m x y : AV) : Option (Nat × Nat × Ent) :=
  match m with
  | .mp s g =>
    match st.heap s g, mapInfo P T with
    | some (.map es), some (k, _) => if (keyOkA P k x x ∧ ∀ p ∈ es, keyOkA P k x p.1) ∧ y.stor = true then some (s, g, .map (mset es x y)) else none
    | _, _ => none
  | _ => none

/-- The operations that leave the state as it is but for the slot that they write. -/
noncomputable def opVal (st : St) : Op → Option AV
  | .move x => some (st.ev x)
  | .assign x => some (st.ev x)
  | .pick c a b =>
    match st.ev c with
    | .v (.bool t) => some (if t = true then st.ev a else st.ev b)
    | _ => none
  | .binOp op T x y _ => binA P op T (st.ev x) (st.ev y)
  | .unOp op _ x => unA op (st.ev x)
  | .convert src dst x =>
    match st.ev x, intKind P dst, intKind P src with
    | .v (.int _ n), some k, some _ => some (.v (.int k (k.wrap n)))
    | _, _, _ => none
  | .nilCheck x =>
    match st.ev x with
    | .ptr s g o => some (.ptr s g o)
    | .ip cs o => some (.ip cs o)
    | _ => none
  | .fieldAddr T x f =>
    match fieldOff P T f with
    | some k => addOff (st.ev x) k
    | none => none
  | .indexAddr T x i => indexAddrA P st T (st.ev x) (st.ev i)
  | .load T a => bnd (readAt st (st.ev a)) (loadVal P T)
  | .extract t i =>
    match st.ev t with
    | .tup vs => vs[i]?
    | _ => none
  | .build T parts => buildA P st T parts.toList
  | .slice T x lo hi none => sliceA P st T (st.ev x) lo hi
  | .slice T x lo (some h) (some m) => sliceA3 P st T (st.ev x) lo h m
  | .lookup T x i ok => lookA P st T (st.ev x) (st.ev i) ok
  | .makeFunc (.func f) first captured => if first = #[] then some (.clo f (captured.toList.map st.ev)) else none
  | _ => none

/-- A store. -/
def storeA (st : St) (T : Nat) (a x : AV) : Option (Nat × Nat × Ent) :=
  match a with
  | .ptr s g o =>
    match ldInfo P T with
    | some (_, k) =>
      if x.cells.length = k ∧ x.stor = true then
        match st.heap s g with
        | some (.cells cs) => if o + k ≤ cs.length then some (s, g, .cells (cs.take o ++ x.cells ++ cs.drop (o + k))) else none
        | some (.row e sz n cs) => if o + k ≤ cs.length then some (s, g, .row e sz n (cs.take o ++ x.cells ++ cs.drop (o + k))) else none
        | _ => none
      else none
    | none => none
  | _ => none

/-- An append: to nil, or to a slice over memory of the call's own, which is used up. -/
def appendA (st : St) (T : Nat) (s x : AV) : Option (Option (Nat × Nat) × Ent) :=
  match slInfo P T with
  | some (e, sz, by_) =>
    match sliceView st x with
    | some (m, news) =>
      if news.length = m * sz then
        match s with
        | .v (.slice none 0 0) =>
          if m * by_ ≤ 140737488355328 ∧ m ≤ maxLen then some (none, .row e sz m news) else none
        | .own s' g' =>
          match st.heap s' g' with
          | some (.row e' sz' n cs) =>
            if e' = e ∧ sz' = sz ∧ (n + m) * by_ ≤ 140737488355328 ∧ n + m ≤ maxLen then
              some (some (s', g'), .row e sz (n + m) (cs ++ news))
            else none
          | _ => none
        | .cl n cs =>
          if cs.length = n * sz ∧ (n = 0 ∨ 0 < m) ∧ (n + m) * by_ ≤ 140737488355328 ∧ n + m ≤ maxLen then some (none, .row e sz (n + m) (cs ++ news)) else none
        | _ => none
      else none
    | none => none
  | none => none

/-- What is handed on: memory of the call's own reads as memory that nobody writes. -/
noncomputable def expo1 (st : St) (x : AV) : Option AV :=
  if Flat x then some x else
  match x with
  | .own s g =>
    match st.heap s g with
    | some (.row _ _ n cs) => if ∀ c ∈ cs, Flat c then some (.sl n cs) else none
    | _ => none
  | .ptr s g o =>
    match st.heap s g with
    | some (.cells cs) => if ∀ c ∈ cs, Flat c then some (.ip cs o) else none
    | _ => none
  | _ => none

def optAll {α : Type} : List (Option α) → Option (List α)
  | [] => some []
  | some x :: r => (optAll r).map (x :: ·)
  | none :: _ => none

noncomputable def expo (st : St) (x : AV) : Option AV :=
  if Flat x then some x else
  match x with
  | .agg cs => (optAll (cs.map (expo1 st))).map .agg
  | .clo f caps => (optAll (caps.map (expo1 st))).map (.clo f)
  | x => expo1 st x

def asFn : AV → Option (Nat × List AV)
  | .v (.func (.func f) first caps) => if first = #[] ∧ caps = #[] then some (f, []) else none
  | .clo f caps => some (f, caps)
  | _ => none

/-- The rows that a result hands over become rows of the caller's. -/
def opnC (d c : Nat) : AV → AV × List Ent
  | .uniq e sz n cs => (.own d c, [.row e sz n cs])
  | x => (x, [])
def opnL (f : Nat → AV → AV × List Ent) : Nat → List AV → List AV × List Ent
  | _, [] => ([], [])
  | c, x :: xs => ((f c x).1 :: (opnL f (c + (f c x).2.length) xs).1, (f c x).2 ++ (opnL f (c + (f c x).2.length) xs).2)
def opn1 (d c : Nat) : AV → AV × List Ent
  | .agg cs => (.agg (opnL (opnC d) c cs).1, (opnL (opnC d) c cs).2)
  | x => opnC d c x
def opn (d c : Nat) : AV → AV × List Ent
  | .tup vs => (.tup (opnL (opn1 d) c vs).1, (opnL (opn1 d) c vs).2)
  | x => opn1 d c x

/-- A result that rests on no memory but rows that it hands over. -/
def FreshC : AV → Prop
  | .uniq _ _ _ cs => ∀ c ∈ cs, MemFree c
  | x => MemFree x
def Fresh1 : AV → Prop
  | .agg cs => ∀ c ∈ cs, FreshC c
  | x => FreshC x
def Fresh : AV → Prop
  | .tup vs => ∀ x ∈ vs, Fresh1 x
  | x => Fresh1 x

noncomputable def putRes (r : AV) (st : St) (dst : Option Nat) : Option Eff :=
  if Flat r then some { dst := dst, val := r } else
  match dst with
  | some d => some { dst := some d, val := (opn d (st.cnt d) r).1, new := some (d, (opn d (st.cnt d) r).2) }
  | none => none

noncomputable def callFn (call : Nat → List AV → Option AV) (g : Nat) (args : List AV) (st : St) (dst : Option Nat) : Option Eff :=
  if ∀ x ∈ args, Flat x then bnd (call g args) fun r => putRes r st dst
  else
    match optAll (args.map (expo st)) with
    | some xs => bnd (call g xs) fun r => if Fresh r then putRes r st dst else none
    | none => none

/-- A call of a function that works on the row of its first argument: it leaves the row with other cells, or uses it up and hands over another. -/
noncomputable def callMv (call : Nat → List AV → Option AV) (g : Nat) (args : List AV) (st : St) (dst : Option Nat) : Option Eff :=
  match args with
  | .own s k :: rest =>
    match st.heap s k with
    | some (.row e sz n cs) =>
      if (∀ c ∈ cs, Flat c) ∧ ∀ x ∈ rest, Flat x then
        match call g (.uniq e sz n cs :: rest) with
        | some (.uniq e' sz' n' cs') =>
          match dst with
          | some d => some { dst := some d, val := .own d (st.cnt d), upd := some (s, k, none), new := some (d, [.row e' sz' n' cs']) }
          | none => none
        | some (.tup [.uniq e' sz' n' cs']) => some { dst := dst, val := .tup [], upd := some (s, k, some (.row e' sz' n' cs')) }
        | _ => none
      else none
    | _ => none
  | args => callFn call g args st dst

section ext
variable [Ext]
noncomputable def callVal (call : Nat → List AV → Option AV) (f : Operand) (args : List AV) (st : St) (dst : Option Nat) : Option Eff :=
  match f with
  | .func g => if Ext.mv g = true then callMv call g args st dst else callFn call g args st dst
  | f =>
    match asFn (st.ev f) with
    | some (g, caps) => callFn call g (args ++ caps) st dst
    | none => none

noncomputable def callEff (call : Nat → List AV → Option AV) (c : Call) (dst : Option Nat) (st : St) : Option Eff :=
  match c.callee with
  | .value f => callVal call f (c.args.toList.map st.ev) st dst
  | .builtin .len =>
    match c.args.toList, c.argTypes.toList with
    | [x], [T] =>
      match slInfo P T, sliceView st (st.ev x) with
      | some _, some (n, _) => some { dst := dst, val := .v (.int .i64 n) }
      | _, _ => none
    | _, _ => none
  | .builtin .min =>
    match c.args.toList with
    | [x, y] =>
      match st.ev x, st.ev y with
      | .v (.int k a), .v (.int _ b) => some { dst := dst, val := .v (.int k (if b < a then b else a)) }
      | _, _ => none
    | _ => none
  | .builtin .append =>
    bnd dst fun d =>
      match c.args.toList, c.argTypes.toList with
      | [s, x], [T, T'] =>
        if T = T' then
          bnd (appendA P st T (st.ev s) (st.ev x)) fun ur => some { dst := some d, val := .own d (st.cnt d), upd := ur.1.map fun p => (p.1, p.2, none), new := some (d, [ur.2]) }
        else none
      | _, _ => none
  | _ => none

noncomputable def opEff (call : Nat → List AV → Option AV) (o : Oper) (st : St) : Option Eff :=
  match o.op with
  | .alloc T =>
    bnd o.dst fun d => bnd (zeroL P T) fun z => some { dst := some d, val := .ptr d (st.cnt d) 0, new := some (d, [.cells (z.map .v)]) }
  | .box _ x =>
    bnd o.dst fun d => if (st.ev x).stor = true then some { dst := some d, val := .ptr d (st.cnt d) 0, new := some (d, [.cells (st.ev x).cells]) } else none
  | .buildSlice T n parts =>
    bnd o.dst fun d => bnd (slInfo P T) fun t => bnd (zeroL P t.1) fun z =>
      if (0 < n ∨ parts = #[]) ∧ n * t.2.1 ≤ 2 ^ 24 ∧ (parts.toList.all fun p => (st.ev p.2).stor) = true then
        bnd (fillA (fun i => some (i * t.2.1, t.2.1)) ((List.range n).flatMap fun _ => z.map .v) (parts.toList.map fun p => (p.1, st.ev p.2))) fun cs =>
          some { dst := some d, val := .own d (st.cnt d), new := some (d, [.row t.1 t.2.1 n cs]) }
      else none
  | .makeSlice T l c =>
    bnd o.dst fun d => bnd (slInfo P T) fun t => bnd (zeroL P t.1) fun z =>
      match st.ev l, st.ev c with
      | .v (.int .i64 n), .v (.int .i64 m) =>
        if 0 ≤ n ∧ n = m ∧ n * t.2.2 ≤ 140737488355328 ∧ n ≤ maxLen then
          some { dst := some d, val := .own d (st.cnt d), new := some (d, [.row t.1 t.2.1 n.toNat ((List.range n.toNat).flatMap fun _ => z.map .v)]) }
        else none
      | _, _ => none
  | .store T a x => (storeA P st T (st.ev a) (st.ev x)).map fun u => { dst := o.dst, val := .v undef, upd := some (u.1, u.2.1, some u.2.2) }
  | .makeMap _ none => bnd o.dst fun d => some { dst := some d, val := .mp d (st.cnt d), new := some (d, [.map []]) }
  | .mapUpdate T m x y => (mapSetA P st T (st.ev m) (st.ev x) (st.ev y)).map fun u => { dst := o.dst, val := .v undef, upd := some (u.1, u.2.1, some u.2.2) }
  | .call c => callEff P call c o.dst st
  | op => (opVal P st op).map fun x => { dst := o.dst, val := x }

def gv (ops : Array Oper) (st : St) (g : Option (Nat × Bool)) : Option Bool :=
  match g with
  | none => some true
  | some (j, want) =>
    match (ops[j]?).bind (·.dst) with
    | some d =>
      match st.env d with
      | .v x => match x with
        | .bool b => some (b == want)
        | _ => some false
      | _ => none
    | none => some false

noncomputable def evOp (call : Nat → List AV → Option AV) (ops : Array Oper) (o : Oper) (st : St) : Option St :=
  match gv ops st o.guard with
  | some b => if b = true then (opEff P call o st).map fun e => e.apply st else some (st.put o.dst (.v undef))
  | none => none

noncomputable def evOps (call : Nat → List AV → Option AV) (ops : Array Oper) : List Oper → St → Option St
  | [], st => some st
  | o :: r, st => bnd (evOp P call ops o st) (evOps call ops r)

inductive Ex where
  | normal
  | exit (id : Nat)
  | ret

def Ex.inBlock (id : Nat) : Ex → Ex
  | .exit i => if i = id then .normal else .exit i
  | e => e

noncomputable def evC (call : Nat → List AV → Option AV) : Nat → Code → St → Option (Ex × St)
  | 0, _, _ => none
  | n + 1, c, st =>
    match c with
    | .skip => some (.normal, st)
    | .region _ ops _ => bnd (evOps P call ops ops.toList st) fun s => some (.normal, s)
    | .seq a b => bnd (evC call n a st) fun r => match r.1 with
      | .normal => evC call n b r.2
      | e => some (e, r.2)
    | .cond c a b =>
      match st.ev c with
      | .v (.bool t) => if t = true then evC call n a st else evC call n b st
      | _ => none
    | .block id b => bnd (evC call n b st) fun r => some (r.1.inBlock id, r.2)
    | .loop b => bnd (evC call n b st) fun r => match r.1 with
      | .normal => evC call n (.loop b) r.2
      | e => some (e, r.2)
    | .exit id => some (.exit id, st)
    | .ret => some (.ret, st)
    | _ => none

def resVal (st : St) : ResultVar → Option AV
  | .tmp t => some (st.env t)
  | .cell a T => bnd (readAt st (st.env a)) (loadVal P T)

noncomputable def expoR (st : St) (x : AV) : Option AV :=
  match x with
  | .own s g =>
    match st.heap s g with
    | some (.row e sz n cs) => if ∀ c ∈ cs, Flat c then some (.uniq e sz n cs) else none
    | _ => none
  | x => expo st x

noncomputable def finishA (fn : Func) (st : St) : Option AV :=
  match fn.results.toList with
  | [r] => bnd (resVal P st r) (expoR st)
  | rs => (optAll (rs.map fun r => bnd (resVal P st r) (expo st))).map .tup

/-- The rows that a result holds, handed over. -/
noncomputable def expoUC (st : St) (x : AV) : Option AV :=
  if Flat x then some x else
  match x with
  | .own s g =>
    match st.heap s g with
    | some (.row e sz n cs) => if ∀ c ∈ cs, Flat c then some (.uniq e sz n cs) else none
    | _ => none
  | _ => none
noncomputable def expoU1 (st : St) : AV → Option AV
  | .agg cs => (optAll (cs.map (expoUC st))).map .agg
  | x => expoUC st x
noncomputable def expoU (st : St) : AV → Option AV
  | .tup vs => (optAll (vs.map (expoU1 st))).map .tup
  | x => expoU1 st x
def ownKey : AV → List (Nat × Nat)
  | .own s g => [(s, g)]
  | _ => []
def ownKeys1 : AV → List (Nat × Nat)
  | .agg cs => cs.flatMap ownKey
  | x => ownKey x
def ownKeys : AV → List (Nat × Nat)
  | .tup vs => vs.flatMap ownKeys1
  | x => ownKeys1 x

noncomputable def finishK (fn : Func) (st : St) : Option AV :=
  match fn.results.toList with
  | [r] => bnd (resVal P st r) fun x => if (ownKeys x).Nodup then expoU st x else none
  | rs => bnd (optAll (rs.map fun r => resVal P st r)) fun xs => if (ownKeys (.tup xs)).Nodup then expoU st (.tup xs) else none

noncomputable def finishF (f : Nat) (fn : Func) (st : St) : Option AV := if Ext.keep f = true then finishK P fn st else finishA P fn st

def St.init (xs : List AV) : St := ⟨fun t => (xs[t]?).getD (.v undef), fun _ _ => none, fun _ => 0⟩

/-- May the orders of a drawing region be passed over? Every two operations that nothing orders are such that neither sees the other. -/
def opClass (ops : Array Oper) (o : Oper) : Nat :=      -- 0: touches no memory · 1: reads · 2: makes memory · 3: writes
  match o.op with
  | .load .. => 1
  | .indexAddr .. => 1
  | .slice .. => 0
  | .alloc _ | .box .. | .buildSlice .. | .makeSlice .. | .makeMap .. => 2
  | .store .. => 3
  | .mapUpdate .. => 3
  | .lookup .. => 1
  | .call { callee := .builtin .append, args, .. } => match args.toList with
    | .const (.slice none 0 0) :: _ => 1
    | _ => 3
  | .call { callee := .builtin .len, .. } => 1
  | .call { callee := .value (.func g), .. } => if Ext.mv g = true then 3 else 1
  | .call _ => 1
  | .select .. => 4
  | _ => if ops.size = 0 then 0 else 0

def apartOk (ops : Array Oper) (x y : Oper) : Bool :=
  Oper.apart ops x y &&
  (match opClass ops x, opClass ops y with
   | 4, _ => false
   | _, 4 => false
   | 3, 1 => false
   | 1, 3 => false
   | 3, 3 => false
   | _, _ => true)

/-- Everything before an operation, as bits. -/
def maskOf (acc : Array Nat) (o : Oper) : Nat :=
  o.after.toList.foldl (fun s e => if Region.binds .any e = true then s ||| 2 ^ e.on ||| acc.getD e.on 0 else s) 0

def forced {α : Type} (n : Nat) (k : Nat → α) : α :=
  match n with
  | 0 => k 0
  | m + 1 => k (m + 1)

def masks : List Oper → Array Nat → Array Nat
  | [], acc => acc
  | o :: r, acc => forced (maskOf acc o) fun n => masks r (acc.push n)

def pairsOk (ops : Array Oper) (b : Array Nat) (j : Nat) (oj : Oper) : List Oper → Nat → Bool
  | [], _ => true
  | oi :: r, i => (decide (j ≤ i) || (b.getD j 0).testBit i || apartOk ops oi oj) && pairsOk ops b j oj r (i + 1)

def rowsOk (ops : Array Oper) (b : Array Nat) : List Oper → Nat → Bool
  | [], _ => true
  | oj :: r, j => (oj.after.toList.all fun e => !(Region.binds .any e) || decide (e.on < j)) && pairsOk ops b j oj ops.toList 0 && rowsOk ops b r (j + 1)

def drawOk (ops : Array Oper) : Bool := rowsOk ops (masks ops.toList #[]) ops.toList 0

def codeOk (nt : Nat) : Code → Bool
  | .region _ ops draw => (ops.all fun o => o.dst.all fun d => decide (d < nt)) && (!draw || drawOk ops)
  | .seq a b => codeOk nt a && codeOk nt b
  | .cond _ a b => codeOk nt a && codeOk nt b
  | .block _ b => codeOk nt b
  | .loop b => codeOk nt b
  | _ => true

def fnOk (fn : Func) : Bool := fn.name != "runtime.NumGoroutine" && (match fn.body with | some c => codeOk fn.ntmps c | none => false)

noncomputable def runF (call : Nat → List AV → Option AV) (n f : Nat) (xs : List AV) : Option AV :=
  match P.funcs[f]? with
  | some fn =>
    if fnOk fn = true then
      match fn.body with
      | some c => bnd (evC P call n c (St.init xs)) fun r => match r.1 with
        | .exit _ => none
        | _ => finishF P f fn r.2
      | none => none
    else none
  | none => none

def isUniq : AV → Bool
  | .uniq _ _ _ _ => true
  | _ => false

noncomputable def evF : Nat → Nat → List AV → Option AV
  | 0, f, xs => Ext.ext f xs
  | n + 1, f, xs =>
    match Ext.ext f xs with
    | some r => some r
    | none => if xs.any isUniq = true then none else runF P (evF n) n f xs
end ext
end ops
end Go.Ab
