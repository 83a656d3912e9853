/-
  Part Ab23 of the proof: an evaluator of the programs written in Lean once, and its soundness.
-/
import Derived.Test.YtmcjkemalibacaaAb18
set_option linter.all false
set_option linter.unusedVariables false
set_option linter.unusedSimpArgs false
namespace Go.Ab
open Classical
def anE (e sz by_ : Nat) (v : Option (Nat × List AV)) : Option (Option (Nat × Nat) × Ent) :=
  match v with
  | some (m, news) => if news.length = m * sz ∧ m * by_ ≤ 140737488355328 ∧ m ≤ maxLen then some (none, .row e sz m news) else none
  | none => none
def aoE (e sz by_ : Nat) (o : Option Ent) (s g : Nat) (v : Option (Nat × List AV)) : Option (Option (Nat × Nat) × Ent) :=
  match o, v with
  | some (.row e' sz' n cs), some (m, news) => if news.length = m * sz ∧ e' = e ∧ sz' = sz ∧ (n + m) * by_ ≤ 140737488355328 ∧ n + m ≤ maxLen then some (some (s, g), .row e sz (n + m) (cs ++ news)) else none
  | _, _ => none
def acE (e sz by_ n : Nat) (cs : List AV) (v : Option (Nat × List AV)) : Option (Option (Nat × Nat) × Ent) :=
  match v with
  | some (m, news) => if news.length = m * sz ∧ cs.length = n * sz ∧ (n = 0 ∨ 0 < m) ∧ (n + m) * by_ ≤ 140737488355328 ∧ n + m ≤ maxLen then some (none, .row e sz (n + m) (cs ++ news)) else none
  | none => none
section
variable {P : Program} {st : St} {T e sz by_ : Nat}
theorem app_nil (hs : slInfo P T = some (e, sz, by_)) (x : AV) : appendA P st T (.v (.slice none 0 0)) x = anE e sz by_ (sliceView st x) := by
  simp only [appendA, hs, anE]
  cases sliceView st x with
  | none => rfl
  | some v =>
    obtain ⟨m, news⟩ := v
    by_cases h1 : news.length = m * sz <;> simp [h1]
theorem app_own (hs : slInfo P T = some (e, sz, by_)) (s g : Nat) (x : AV) : appendA P st T (.own s g) x = aoE e sz by_ (st.heap s g) s g (sliceView st x) := by
  simp only [appendA, hs, aoE]
  cases sliceView st x with
  | none => cases st.heap s g with
    | none => rfl
    | some o => cases o <;> rfl
  | some v =>
    obtain ⟨m, news⟩ := v
    cases st.heap s g with
    | none => by_cases h1 : news.length = m * sz <;> simp [h1]
    | some o =>
      cases o with
      | row a b n cs => by_cases h1 : news.length = m * sz <;> simp [h1]
      | _ => by_cases h1 : news.length = m * sz <;> simp [h1]
theorem app_cl (hs : slInfo P T = some (e, sz, by_)) (n : Nat) (cs : List AV) (x : AV) : appendA P st T (.cl n cs) x = acE e sz by_ n cs (sliceView st x) := by
  simp only [appendA, hs, acE]
  cases sliceView st x with
  | none => rfl
  | some v =>
    obtain ⟨m, news⟩ := v
    by_cases h1 : news.length = m * sz <;> simp [h1]
end
def ioE (e sz : Nat) (o : Option Ent) (s g : Nat) (i : Int) : Option AV :=
  match o with
  | some (.row e' sz' n _) => if 0 ≤ i ∧ i < n ∧ e' = e ∧ sz' = sz then some (.ptr s g (i.toNat * sz)) else none
  | _ => none
theorem idx_own {P : Program} {st : St} {T e sz by_ : Nat} (hn : arrInfo P T = none) (hs : slInfo P T = some (e, sz, by_)) (s g : Nat) (k : IntKind) (i : Int) : indexAddrA P st T (.own s g) (.v (.int k i)) = ioE e sz (st.heap s g) s g i := by
  simp only [indexAddrA, hn, hs, ioE]
  cases st.heap s g with
  | none => rfl
  | some e => cases e <;> rfl
theorem ioE_row (e sz n : Nat) (cs : List AV) (s g : Nat) (i : Int) (h0 : 0 ≤ i) (h1 : i < n) : ioE e sz (some (.row e sz n cs)) s g i = some (.ptr s g (i.toNat * sz)) := by
  simp [ioE, h0, h1]
theorem ev_bs0 [Ext] {P : Program} {S e sz by_ : Nat} {z : List Value} (hs : slInfo P S = some (e, sz, by_)) (hz : zeroL P e = some z) {call : Nat → List AV → Option AV} {ops : Array Oper} {st : St} {T : Nat} {pos : String} {aft : Array Edge} (d : Nat) :
    evOp P call ops ⟨some d, .buildSlice S 0 #[], T, pos, aft, none⟩ st = some ((st.new d (.row e sz 0 [])).put (some d) (.own d (st.cnt d))) := by
  rw [ev_buildSlice, hs]
  simp [bnd, hz, fillA]
/-- A value of one cell. -/
def elV {α : Type} (x : AV) (k : Value → Option α) (fb : Option α) : Option α :=
  match x with
  | .v y => if y.oneCell' = true then k y else fb
  | _ => fb
theorem elV_int {α : Type} (kk : IntKind) (n : Int) (k : Value → Option α) (fb : Option α) : elV (.v (.int kk n)) k fb = k (.int kk n) := rfl
theorem elV_bool {α : Type} (n : Bool) (k : Value → Option α) (fb : Option α) : elV (.v (.bool n)) k fb = k (.bool n) := rfl
@[congr] theorem elV_congr {α : Type} {x y : AV} {k : Value → Option α} {fb : Option α} (h : x = y) : elV x k fb = elV y k fb := by rw [h]
theorem ev_bs1E [Ext] {P : Program} {S e by_ : Nat} {z : Value} (hs : slInfo P S = some (e, 1, by_)) (hz : zeroL P e = some [z]) {call : Nat → List AV → Option AV} {ops : Array Oper} {st : St} {T : Nat} {pos : String} {aft : Array Edge} (d : Nat) (x : Operand) :
    evOp P call ops ⟨some d, .buildSlice S 1 #[(0, x)], T, pos, aft, none⟩ st = elV (st.ev x) (fun y => some ((st.new d (.row e 1 1 [.v y])).put (some d) (.own d (st.cnt d)))) (evOp P call ops ⟨some d, .buildSlice S 1 #[(0, x)], T, pos, aft, none⟩ st) := by
  unfold elV
  split
  · rename_i y h
    split
    · rename_i hy
      rw [ev_buildSlice, hs]
      simp [hz, bnd, h, AV.stor, hy, fillA, AV.cells]
    · rfl
  · rfl
def elA {α : Type} (z : Nat) (x : AV) (k : List AV → Option α) (fb : Option α) : Option α :=
  match x with
  | .agg cs => if cs.length = z then k cs else fb
  | _ => fb
theorem elA_agg {α : Type} (z : Nat) (cs : List AV) (k : List AV → Option α) (fb : Option α) (h : cs.length = z) : elA z (.agg cs) k fb = k cs := if_pos h
@[congr] theorem elA_congr {α : Type} {z : Nat} {x y : AV} {k : List AV → Option α} {fb : Option α} (h : x = y) : elA z x k fb = elA z y k fb := by rw [h]
theorem ev_bsAE [Ext] {P : Program} {S e sz by_ : Nat} {z : List Value} (hs : slInfo P S = some (e, sz, by_)) (hz : zeroL P e = some z) (hl : z.length = sz) (hm : sz ≤ 2 ^ 24) {call : Nat → List AV → Option AV} {ops : Array Oper} {st : St} {T : Nat} {pos : String} {aft : Array Edge} (d : Nat) (x : Operand) :
    evOp P call ops ⟨some d, .buildSlice S 1 #[(0, x)], T, pos, aft, none⟩ st = elA sz (st.ev x) (fun cs => some ((st.new d (.row e sz 1 cs)).put (some d) (.own d (st.cnt d)))) (evOp P call ops ⟨some d, .buildSlice S 1 #[(0, x)], T, pos, aft, none⟩ st) := by
  unfold elA
  split
  · rename_i cs h
    split
    · rename_i hc
      have h2 : ((List.range 1).flatMap fun _ => z.map AV.v) = z.map AV.v := by simp [List.range, List.range.loop]
      have hzl : (z.map AV.v).length = sz := by simpa using hl
      rw [ev_buildSlice, hs]
      simp only [hz, bnd, List.toList_toArray, List.all_cons, List.all_nil, h, AV.stor, Bool.and_self, List.map_cons, List.map_nil, fillA, AV.cells, hc, Nat.zero_mul, Nat.zero_add, List.take_zero, List.nil_append]
      rw [h2, if_pos (by simpa using hm), if_pos (by simp [hzl])]
      rw [List.drop_of_length_le (by rw [hzl]; exact Nat.le_refl _), List.append_nil]
    · rfl
  · rfl
/-- An append to a row without elements. -/
theorem ao_zero {e sz by_ s g n : Nat} {cs : List AV} (hl : cs.length = n * sz) (hb : (n : Int) * by_ ≤ 140737488355328) (hm : (n : Int) ≤ maxLen) : aoE e sz by_ (some (.row e sz 0 [])) s g (some (n, cs)) = some (some (s, g), .row e sz n cs) := by
  simp only [aoE]
  simp only [Nat.zero_add, true_and, List.nil_append]
  have hb' : n * by_ ≤ 140737488355328 := by
    have : ((n * by_ : Nat) : Int) ≤ 140737488355328 := by rw [Int.natCast_mul]; exact hb
    omega
  rw [if_pos ⟨hl, hb', by omega⟩]
end Go.Ab
