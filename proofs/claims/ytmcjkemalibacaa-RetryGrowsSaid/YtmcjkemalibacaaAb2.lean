/-
  Part Ab2 of the proof: an evaluator of the programs written in Lean once, and its soundness.
-/
import Derived.Test.YtmcjkemalibacaaAb1
set_option linter.all false
namespace Go.Ab
open Classical

structure Ctx where
  h : Nat → Obj → Prop
  ρ : Nat → Nat → Value
  cnt : Nat → Nat

def blkOf : Value → Option Nat
  | .pointer (some a) => some a.block
  | .slice (some a) _ (_ + 1) => some a.block
  | .map (some r) => some r
  | _ => none

inductive RelV (C : Ctx) : AV → Value → Prop
  | v (x : Value) : RelV C (.v x) x
  | agg (cs : List AV) (a : Array Value) (hl : cs.length = a.size) (h : ∀ (i : Nat) (x : AV) (y : Value), cs[i]? = some x → a[i]? = some y → RelV C x y)
      (h1 : ∀ (i : Nat) (y : Value), a[i]? = some y → y.oneCell' = true) : RelV C (.agg cs) (.agg a)
  | sl0 (n cap : Nat) (p : Option Addr) (hcap : n ≤ cap) : RelV C (.sl n []) (.slice p n cap)
  | sl (n : Nat) (cs : List AV) (b off cap : Nat) (arr : Array Value) (T : Nat) (fr : Nat × Nat) (hcap : n ≤ cap) (hb : C.h b (.cells arr T fr)) (hle : off + cs.length ≤ arr.size)
      (h : ∀ (i : Nat) (x : AV) (y : Value), cs[i]? = some x → arr[off + i]? = some y → RelV C x y)
      (h1 : ∀ (i : Nat) (y : Value), i < cs.length → arr[off + i]? = some y → y.oneCell' = true) : RelV C (.sl n cs) (.slice (some ⟨b, off, none⟩) n cap)
  | cl0 (n : Nat) (p : Option Addr) : RelV C (.cl n []) (.slice p n n)
  | cl (n : Nat) (cs : List AV) (b off : Nat) (arr : Array Value) (T : Nat) (fr : Nat × Nat) (hb : C.h b (.cells arr T fr)) (hle : off + cs.length ≤ arr.size)
      (h : ∀ (i : Nat) (x : AV) (y : Value), cs[i]? = some x → arr[off + i]? = some y → RelV C x y)
      (h1 : ∀ (i : Nat) (y : Value), i < cs.length → arr[off + i]? = some y → y.oneCell' = true) : RelV C (.cl n cs) (.slice (some ⟨b, off, none⟩) n n)
  | ip (cs : List AV) (o b off : Nat) (arr : Array Value) (T : Nat) (fr : Nat × Nat) (hb : C.h b (.cells arr T fr)) (hle : off + cs.length ≤ arr.size)
      (h : ∀ (i : Nat) (x : AV) (y : Value), cs[i]? = some x → arr[off + i]? = some y → RelV C x y)
      (h1 : ∀ (i : Nat) (y : Value), i < cs.length → arr[off + i]? = some y → y.oneCell' = true) : RelV C (.ip cs o) (.pointer (some ⟨b, off + o, none⟩))
  | ptr (s g off b : Nat) (hg : g < C.cnt s) (hb : blkOf (C.ρ s g) = some b) : RelV C (.ptr s g off) (.pointer (some ⟨b, off, none⟩))
  | own (s g : Nat) (hg : g < C.cnt s) (ho : (C.ρ s g).oneCell' = true) : RelV C (.own s g) (C.ρ s g)
  | mp (s g : Nat) (hg : g < C.cnt s) (ho : (C.ρ s g).oneCell' = true) : RelV C (.mp s g) (C.ρ s g)
  | vw (s g o n b cap : Nat) (hg : g < C.cnt s) (hb : blkOf (C.ρ s g) = some b) (hcap : n ≤ cap) (hfull : o = 0 → ∀ p n0 c0, C.ρ s g = .slice p n0 c0 → cap = c0) : RelV C (.vw s g o n) (.slice (some ⟨b, o, none⟩) n cap)
  | clo (f : Nat) (cs : List AV) (a : Array Value) (hl : cs.length = a.size) (h : ∀ (i : Nat) (x : AV) (y : Value), cs[i]? = some x → a[i]? = some y → RelV C x y) :
      RelV C (.clo f cs) (.func (.func f) #[] a)
  | tup (cs : List AV) (a : Array Value) (hl : cs.length = a.size) (h : ∀ (i : Nat) (x : AV) (y : Value), cs[i]? = some x → a[i]? = some y → RelV C x y) :
      RelV C (.tup cs) (.tuple a)

structure Ctx.Le (C D : Ctx) : Prop where
  h : ∀ b o, C.h b o → D.h b o
  cnt : ∀ s, C.cnt s ≤ D.cnt s
  ρ : ∀ s g, g < C.cnt s → D.ρ s g = C.ρ s g

theorem Ctx.Le.refl (C : Ctx) : C.Le C := ⟨fun _ _ h => h, fun _ => Nat.le_refl _, fun _ _ _ => rfl⟩
theorem Ctx.Le.trans {C D E : Ctx} (h : C.Le D) (k : D.Le E) : C.Le E :=
  ⟨fun b o x => k.h b o (h.h b o x), fun s => Nat.le_trans (h.cnt s) (k.cnt s), fun s g x => (k.ρ s g (Nat.lt_of_lt_of_le x (h.cnt s))).trans (h.ρ s g x)⟩

theorem RelV.le {C D : Ctx} {x : AV} {y : Value} (hr : RelV C x y) (k : C.Le D) : RelV D x y := by
  induction hr with
  | v x => exact .v x
  | agg cs a hl _ h1 ih => exact .agg cs a hl ih h1
  | sl0 n cap p hcap => exact .sl0 n cap p hcap
  | sl n cs b off cap arr T fr hcap hb hle _ h1 ih => exact .sl n cs b off cap arr T fr hcap (k.h _ _ hb) hle ih h1
  | cl0 n p => exact .cl0 n p
  | cl n cs b off arr T fr hb hle _ h1 ih => exact .cl n cs b off arr T fr (k.h _ _ hb) hle ih h1
  | ip cs o b off arr T fr hb hle _ h1 ih => exact .ip cs o b off arr T fr (k.h _ _ hb) hle ih h1
  | ptr s g off b hg hb => exact .ptr s g off b (Nat.lt_of_lt_of_le hg (k.cnt s)) (by rw [k.ρ s g hg]; exact hb)
  | own s g hg ho => rw [← k.ρ s g hg]; exact .own s g (Nat.lt_of_lt_of_le hg (k.cnt s)) (by rw [k.ρ s g hg]; exact ho)
  | vw s g o n b cap hg hb hcap hfull => exact .vw s g o n b cap (Nat.lt_of_lt_of_le hg (k.cnt s)) (by rw [k.ρ s g hg]; exact hb) hcap (by rw [k.ρ s g hg]; exact hfull)
  | mp s g hg ho => rw [← k.ρ s g hg]; exact .mp s g (Nat.lt_of_lt_of_le hg (k.cnt s)) (by rw [k.ρ s g hg]; exact ho)
  | clo f cs a hl _ ih => exact .clo f cs a hl ih
  | tup cs a hl _ ih => exact .tup cs a hl ih

/-- Cells, one by one. -/
structure CellL (C : Ctx) (cs : List AV) (ys : List Value) : Prop where
  len : cs.length = ys.length
  rel : ∀ (i : Nat) (x : AV) (y : Value), cs[i]? = some x → ys[i]? = some y → RelV C x y
  one : ∀ (i : Nat) (y : Value), ys[i]? = some y → y.oneCell' = true

/-- Values, one by one. -/
structure RelL (C : Ctx) (cs : List AV) (ys : List Value) : Prop where
  len : cs.length = ys.length
  rel : ∀ (i : Nat) (x : AV) (y : Value), cs[i]? = some x → ys[i]? = some y → RelV C x y

theorem CellL.le {C D : Ctx} {cs : List AV} {ys : List Value} (h : CellL C cs ys) (k : C.Le D) : CellL D cs ys := ⟨h.len, fun i x y hx hy => (h.rel i x y hx hy).le k, h.one⟩
theorem RelL.le {C D : Ctx} {cs : List AV} {ys : List Value} (h : RelL C cs ys) (k : C.Le D) : RelL D cs ys := ⟨h.len, fun i x y hx hy => (h.rel i x y hx hy).le k⟩
theorem CellL.relL {C : Ctx} {cs : List AV} {ys : List Value} (h : CellL C cs ys) : RelL C cs ys := ⟨h.len, h.rel⟩
theorem CellL.nil (C : Ctx) : CellL C [] [] := ⟨rfl, by simp, by simp⟩
theorem RelL.nil (C : Ctx) : RelL C [] [] := ⟨rfl, by simp⟩

theorem RelL.cons {C : Ctx} {x : AV} {y : Value} {cs : List AV} {ys : List Value} (h : RelV C x y) (k : RelL C cs ys) : RelL C (x :: cs) (y :: ys) :=
  ⟨by simp [k.len], fun i a b ha hb => by
    cases i with
    | zero => simp at ha hb; subst ha; subst hb; exact h
    | succ i => exact k.rel i a b (by simpa using ha) (by simpa using hb)⟩
theorem RelL.head {C : Ctx} {x : AV} {y : Value} {cs : List AV} {ys : List Value} (k : RelL C (x :: cs) (y :: ys)) : RelV C x y := k.rel 0 x y rfl rfl
theorem RelL.tail {C : Ctx} {x : AV} {y : Value} {cs : List AV} {ys : List Value} (k : RelL C (x :: cs) (y :: ys)) : RelL C cs ys :=
  ⟨by simpa using k.len, fun i a b ha hb => k.rel (i + 1) a b (by simpa using ha) (by simpa using hb)⟩
theorem RelL.app {C : Ctx} {cs ds : List AV} {ys zs : List Value} (h : RelL C cs ys) (k : RelL C ds zs) : RelL C (cs ++ ds) (ys ++ zs) := by
  induction cs generalizing ys with
  | nil => cases ys with
    | nil => exact k
    | cons y ys => have := h.len; simp at this
  | cons c cs ih => cases ys with
    | nil => have := h.len; simp at this
    | cons y ys => exact RelL.cons h.head (ih h.tail)
theorem RelL.map {C : Ctx} {α : Type} (l : List α) (f : α → AV) (g : α → Value) (h : ∀ a ∈ l, RelV C (f a) (g a)) : RelL C (l.map f) (l.map g) := by
  induction l with
  | nil => exact .nil C
  | cons a l ih => exact .cons (h a (by simp)) (ih fun b hb => h b (by simp [hb]))

theorem CellL.app {C : Ctx} {cs ds : List AV} {ys zs : List Value} (h : CellL C cs ys) (k : CellL C ds zs) : CellL C (cs ++ ds) (ys ++ zs) :=
  ⟨(h.relL.app k.relL).len, (h.relL.app k.relL).rel, fun i y hy => by
    rw [List.getElem?_append] at hy
    split at hy
    · exact h.one _ _ hy
    · exact k.one _ _ hy⟩
theorem CellL.take {C : Ctx} {cs : List AV} {ys : List Value} (h : CellL C cs ys) (n : Nat) : CellL C (cs.take n) (ys.take n) := by
  refine ⟨by simp [h.len], fun i x y hx hy => ?_, fun i y hy => ?_⟩
  · rw [List.getElem?_take] at hx hy
    by_cases hi : i < n
    · rw [if_pos hi] at hx hy; exact h.rel i x y hx hy
    · rw [if_neg hi] at hx; cases hx
  · rw [List.getElem?_take] at hy
    by_cases hi : i < n
    · rw [if_pos hi] at hy; exact h.one i y hy
    · rw [if_neg hi] at hy; cases hy
theorem CellL.drop {C : Ctx} {cs : List AV} {ys : List Value} (h : CellL C cs ys) (n : Nat) : CellL C (cs.drop n) (ys.drop n) :=
  ⟨by simp [h.len], fun i x y hx hy => by rw [List.getElem?_drop] at hx hy; exact h.rel _ x y hx hy, fun i y hy => by rw [List.getElem?_drop] at hy; exact h.one _ y hy⟩
theorem CellL.vs (C : Ctx) (l : List Value) (h1 : ∀ y ∈ l, y.oneCell' = true) : CellL C (l.map .v) l :=
  ⟨by simp, fun i x y hx hy => by
    rw [List.getElem?_map, hy] at hx
    simp at hx; subst hx; exact .v y, fun i y hy => h1 y (List.mem_of_getElem? hy)⟩

theorem CellL.single {C : Ctx} {x : AV} {y : Value} (h : RelV C x y) (h1 : y.oneCell' = true) : CellL C [x] [y] :=
  ⟨rfl, fun i a b ha hb => by
    cases i with
    | zero => simp at ha hb; subst ha; subst hb; exact h
    | succ i => simp at ha, fun i b hb => by
    cases i with
    | zero => simp at hb; subst hb; exact h1
    | succ i => simp at hb⟩

theorem Value.cells_one {y : Value} (h : y.oneCell' = true) : y.cells = #[y] := by
  cases y <;> first | rfl | (simp [Value.oneCell'] at h; done)

theorem RelV.one_of_stor {C : Ctx} {x : AV} {y : Value} (h : RelV C x y) (hs : x.stor = true) (hn : ∀ cs, x ≠ .agg cs) : y.oneCell' = true := by
  cases h with
  | v => exact hs
  | agg cs a hl h h1 => exact absurd rfl (hn cs)
  | own s g hg ho => exact ho
  | mp s g hg ho => exact ho
  | tup cs a hl h => simp [AV.stor] at hs
  | _ => rfl

/-- The cells of a value that may be stored. -/
theorem RelV.cells {C : Ctx} {x : AV} {y : Value} (h : RelV C x y) (hs : x.stor = true) : CellL C x.cells y.cells.toList := by
  by_cases hn : ∃ cs, x = .agg cs
  · obtain ⟨cs, rfl⟩ := hn
    cases h with
    | agg cs a hl h h1 => exact ⟨by simpa [AV.cells, Value.cells] using hl, fun i x y hx hy => h i x y (by simpa [AV.cells] using hx) (by simpa [Value.cells] using hy), fun i y hy => h1 i y (by simpa [Value.cells] using hy)⟩
  · have hn' : ∀ cs, x ≠ .agg cs := fun cs e => hn ⟨cs, e⟩
    have h1 := h.one_of_stor hs hn'
    have hx : x.cells = [x] := by
      cases x <;> first | rfl | exact absurd rfl (hn' _)
    rw [hx, Value.cells_one h1]
    exact .single h h1

/-- A row of the call's own; one without room may lie anywhere. -/
def ownsR (w : World) (base e sz : Nat) (v : Value) (n : Nat) (xs : List Value) : Prop :=
  xs.length = n * sz ∧ ((∃ p, v = .slice p 0 0 ∧ n = 0) ∨
   ∃ g cap cur, v = .slice (some ⟨g, 0, none⟩) n cap ∧ base ≤ g ∧ w.heap[g]? = some (.cells cur e (0, 0)) ∧ n ≤ cap ∧ cap ≤ maxLen ∧ cur.size = cap * sz ∧ cur.toList.take (n * sz) = xs ∧ 0 < cap)
theorem blkOf_sl {a : Addr} {n cap : Nat} (h : 0 < cap) : blkOf (.slice (some a) n cap) = some a.block := by
  cases cap with
  | zero => omega
  | succ c => rfl
theorem blkOf_sl0 (p : Option Addr) (n : Nat) : blkOf (.slice p n 0) = none := by cases p <;> rfl
theorem ownsR_of {w : World} {base e sz : Nat} {v : Value} {n : Nat} {xs : List Value} (h : w.ownsRow base e sz v n xs) : ownsR w base e sz v n xs := by
  refine ⟨h.1, ?_⟩
  rcases h.2 with ⟨rfl, rfl⟩ | ⟨g, cap, cur, rfl, h1, h2, h3, h4, h5, h6⟩
  · exact .inl ⟨none, rfl, rfl⟩
  · by_cases hc : cap = 0
    · subst hc
      have : n = 0 := by omega
      subst this
      exact .inl ⟨_, rfl, rfl⟩
    · exact .inr ⟨g, cap, cur, rfl, h1, h2, h3, h4, h5, h6, by omega⟩
theorem ownsR_base {w : World} {b b' e sz n : Nat} {v : Value} {xs : List Value} (h : ownsR w b e sz v n xs) (hb : b' ≤ b) : ownsR w b' e sz v n xs :=
  ⟨h.1, h.2.imp id fun ⟨g, cap, cur, h1, h2, h3⟩ => ⟨g, cap, cur, h1, Nat.le_trans hb h2, h3⟩⟩
theorem ownsR_blk {w : World} {base e sz n : Nat} {v : Value} {xs : List Value} (h : ownsR w base e sz v n xs) : ∀ b, blkOf v = some b → base ≤ b ∧ b < w.heap.size := by
  intro b hb
  rcases h.2 with ⟨p, rfl, _⟩ | ⟨g, cap, cur, rfl, h1, h2, _, _, _, _, hc⟩
  · rw [blkOf_sl0] at hb; cases hb
  · rw [blkOf_sl hc] at hb
    simp only [Option.some.injEq] at hb
    subst hb
    exact ⟨h1, (Array.getElem?_eq_some_iff.1 h2).1⟩
theorem ownsR_one {w : World} {base e sz n : Nat} {v : Value} {xs : List Value} (h : ownsR w base e sz v n xs) : v.oneCell' = true := by
  rcases h.2 with ⟨p, rfl, _⟩ | ⟨g, cap, cur, rfl, _⟩ <;> rfl
theorem ownsR.kept {w w' : World} {base e sz n : Nat} {v : Value} {xs : List Value} {row : Option Nat} (h : ownsR w base e sz v n xs) (hg : w.grownBy w' row) (hne : blkOf v = none ∨ blkOf v ≠ row) : ownsR w' base e sz v n xs := by
  refine ⟨h.1, ?_⟩
  rcases h.2 with h | ⟨g, cap, cur, rfl, h1, h2, h3, h4, h5, h6, hc⟩
  · exact .inl h
  · refine .inr ⟨g, cap, cur, rfl, h1, ?_, h3, h4, h5, h6, hc⟩
    rw [blkOf_sl hc] at hne
    rw [hg.block g (Array.getElem?_eq_some_iff.1 h2).1 (by rcases hne with h | h; cases h; exact h)]
    exact h2

/-- A map's entries, one by one. -/
def MapL (C : Ctx) : List (AV × AV) → List MapEntry → Prop
  | [], [] => True
  | p :: es, m :: ms => RelV C p.1 m.key ∧ RelV C p.2 m.val ∧ MapL C es ms
  | _, _ => False
theorem MapL.le {C D : Ctx} (k : C.Le D) : ∀ {es : List (AV × AV)} {ms : List MapEntry}, MapL C es ms → MapL D es ms
  | [], [], _ => trivial
  | _ :: _, _ :: _, h => ⟨h.1.le k, h.2.1.le k, MapL.le k h.2.2⟩
  | [], _ :: _, h => h.elim
  | _ :: _, [], h => h.elim

/-- The call's own memory: what each piece is in the world. -/
def EntRel (C : Ctx) (w : World) (base : Nat) (v : Value) : Ent → Prop
  | .cells cs => ∃ b arr T, v = .pointer (some ⟨b, 0, none⟩) ∧ base ≤ b ∧ w.heap[b]? = some (.cells arr T (0, 0)) ∧ CellL C cs arr.toList
  | .row e sz n cs => ∃ xs, ownsR w base e sz v n xs ∧ CellL C cs xs
  | .map es => ∃ b arr clock, v = .map (some b) ∧ base ≤ b ∧ w.heap[b]? = some (.map arr clock) ∧ MapL C es arr.toList

def ctx (h0 : Nat → Obj → Prop) (w0 : World) (ρ : Nat → Nat → Value) (st : St) (w : World) : Ctx where
  h := fun b o => w.heap[b]? = some o ∧ (b < w0.heap.size → h0 b o) ∧ ∀ s g e, st.heap s g = some e → blkOf (ρ s g) ≠ some b
  ρ := ρ
  cnt := st.cnt

/-- What else keeps its meaning while a piece of code runs. -/
structure Frm where
  fr : AV → Value → Prop
  hb : Nat → Obj → Prop
  sz : Nat
def Frm.none : Frm := ⟨fun _ _ => False, fun _ _ => False, 0⟩

structure Sim (F : Frm) (h0 : Nat → Obj → Prop) (w0 : World) (nt : Nat) (ρ : Nat → Nat → Value) (st : St) (a : Act) (w : World) : Prop where
  env : ∀ t, RelV (ctx h0 w0 ρ st w) (st.env t) (a.tmps.getD t undef)
  ent : ∀ s g e, st.heap s g = some e → g < st.cnt s ∧ (ρ s g).oneCell' = true ∧ EntRel (ctx h0 w0 ρ st w) w w0.heap.size (ρ s g) e
  inj : ∀ s g s' g' e e' b, st.heap s g = some e → st.heap s' g' = some e' → blkOf (ρ s g) = some b → blkOf (ρ s' g') = some b → s = s' ∧ g = g'
  ext : w0.grownBy w none
  size : nt ≤ a.tmps.size
  defers : a.defers = []
  frm : (∀ x v, F.fr x v → RelV (ctx h0 w0 ρ st w) x v) ∧ (∀ b o, F.hb b o → (ctx h0 w0 ρ st w).h b o) ∧ F.sz ≤ w.heap.size

section
variable {h0 : Nat → Obj → Prop} {w0 : World} {F : Frm} {nt : Nat} {ρ : Nat → Nat → Value} {st : St} {a : Act} {w : World}

theorem ctx_put (d : Option Nat) (x : AV) : ctx h0 w0 ρ (st.put d x) w = ctx h0 w0 ρ st w := by cases d <;> rfl
theorem put_heap (d : Option Nat) (x : AV) : (st.put d x).heap = st.heap := by cases d <;> rfl
theorem new_heap (st : St) (d : Nat) (x : Ent) (s g : Nat) : (st.new d x).heap s g = if s = d ∧ g = st.cnt d then some x else st.heap s g := rfl
theorem setH_heap (st : St) (s0 g0 : Nat) (x : Option Ent) (s g : Nat) : (st.setH s0 g0 x).heap s g = if s = s0 ∧ g = g0 then x else st.heap s g := rfl
theorem put_cnt (d : Option Nat) (x : AV) : (st.put d x).cnt = st.cnt := by cases d <;> rfl

theorem Sim.put (S : Sim F h0 w0 nt ρ st a w) (d : Option Nat) {x : AV} {v : Value} (hd : ∀ t, d = some t → t < nt) (h : RelV (ctx h0 w0 ρ st w) x v) :
    Sim F h0 w0 nt ρ (st.put d x) (a.put d v) w := by
  refine ⟨fun t => ?_, fun s g e he => ?_, fun s g s' g' e e' b he he' => ?_, S.ext, ?_, ?_, ⟨fun x v h => by rw [ctx_put]; exact S.frm.1 x v h, fun b o h => by rw [ctx_put]; exact S.frm.2.1 b o h, S.frm.2.2⟩⟩
  · rw [ctx_put]
    cases d with
    | none => exact S.env t
    | some d =>
      have hlt : d < a.tmps.size := Nat.lt_of_lt_of_le (hd d rfl) S.size
      simp only [St.put, Act.put]
      by_cases htd : t = d
      · subst htd
        rw [if_pos rfl]
        simp [hlt]
        exact h
      · rw [if_neg htd]
        have : (a.tmps.setIfInBounds d v).getD t undef = a.tmps.getD t undef := by
          simp [Array.getElem?_setIfInBounds_ne (Ne.symm htd)]
        rw [this]
        exact S.env t
  · rw [put_heap] at he; rw [ctx_put, put_cnt]; exact S.ent s g e he
  · rw [put_heap] at he he'; exact S.inj s g s' g' e e' b he he'
  · cases d <;> simp [Act.put, S.size]
  · cases d <;> exact S.defers

theorem grown_trans {w w1 w2 : World} {r : Option Nat} (h : w.grownBy w1 none) (k : w1.grownBy w2 r) (hr : ∀ b, r = some b → w.heap.size ≤ b) : w.grownBy w2 none :=
  ⟨k.os.trans h.os, k.tape.trans h.tape, k.output.trans h.output, Nat.le_trans h.size k.size, fun b hb _ => by
    rw [k.block b (Nat.lt_of_lt_of_le hb h.size) (fun e => by have := hr b e.symm; omega)]
    exact h.block b hb (by simp)⟩

theorem EntRel.world {C D : Ctx} {w w' : World} {base : Nat} {v : Value} {e : Ent} {r : Option Nat} (h : EntRel C w base v e) (k : C.Le D) (hg : w.grownBy w' r) (hr : blkOf v = none ∨ blkOf v ≠ r) : EntRel D w' base v e := by
  cases e with
  | cells cs =>
    obtain ⟨b, arr, T, rfl, hb, hh, hc⟩ := h
    refine ⟨b, arr, T, rfl, hb, ?_, hc.le k⟩
    have hne : some b ≠ r := by
      rcases hr with hr | hr
      · simp [blkOf] at hr
      · simpa [blkOf] using hr
    rw [hg.block b (Array.getElem?_eq_some_iff.1 hh).1 hne]
    exact hh
  | row e sz n cs =>
    obtain ⟨xs, ho, hc⟩ := h
    exact ⟨xs, ho.kept hg hr, hc.le k⟩
  | map es =>
    obtain ⟨b, arr, clock, rfl, hb, hh, hc⟩ := h
    refine ⟨b, arr, clock, rfl, hb, ?_, hc.le k⟩
    have hne : some b ≠ r := by
      rcases hr with hr | hr
      · simp [blkOf] at hr
      · simpa [blkOf] using hr
    rw [hg.block b (Array.getElem?_eq_some_iff.1 hh).1 hne]
    exact hh

theorem EntRel.blk {C : Ctx} {w : World} {base : Nat} {v : Value} {e : Ent} (h : EntRel C w base v e) : ∀ b, blkOf v = some b → base ≤ b ∧ b < w.heap.size := by
  intro b hb
  cases e with
  | cells cs =>
    obtain ⟨b', arr, T, rfl, hb', hh, hc⟩ := h
    simp [blkOf] at hb; subst hb
    exact ⟨hb', (Array.getElem?_eq_some_iff.1 hh).1⟩
  | row e sz n cs =>
    obtain ⟨xs, ho, hc⟩ := h
    exact ownsR_blk ho b hb
  | map es =>
    obtain ⟨b', arr, clock, rfl, hb', hh, _⟩ := h
    simp [blkOf] at hb; subst hb
    exact ⟨hb', (Array.getElem?_eq_some_iff.1 hh).1⟩

/-- The world grows, the state stays. -/
theorem Sim.grow (S : Sim F h0 w0 nt ρ st a w) {w' : World} (hg : w.grownBy w' none) : Sim F h0 w0 nt ρ st a w' ∧ (ctx h0 w0 ρ st w).Le (ctx h0 w0 ρ st w') := by
  have k : (ctx h0 w0 ρ st w).Le (ctx h0 w0 ρ st w') := ⟨fun b o hb => ⟨by
    rw [hg.block b (Array.getElem?_eq_some_iff.1 hb.1).1 (by simp)]; exact hb.1, hb.2.1, hb.2.2⟩, fun _ => Nat.le_refl _, fun _ _ _ => rfl⟩
  exact ⟨⟨fun t => (S.env t).le k, fun s g e he => ⟨(S.ent s g e he).1, (S.ent s g e he).2.1, (S.ent s g e he).2.2.world k hg (by cases blkOf (ρ s g) <;> simp)⟩, S.inj, grown_trans S.ext hg (by simp), S.size, S.defers, ⟨fun x v h => (S.frm.1 x v h).le k, fun b o h => k.h b o (S.frm.2.1 b o h), Nat.le_trans S.frm.2.2 hg.size⟩⟩, k⟩

def upρ (ρ : Nat → Nat → Value) (d g : Nat) (v : Value) : Nat → Nat → Value := fun s' g' => if s' = d ∧ g' = g then v else ρ s' g'

theorem blkOf_ne_fresh (S : Sim F h0 w0 nt ρ st a w) {s g : Nat} {e : Ent} (he : st.heap s g = some e) {b : Nat} (hb : w.heap.size ≤ b) : blkOf (ρ s g) ≠ some b := by
  intro h
  have := ((S.ent s g e he).2.2.blk b h).2
  omega

def upρs (ρ : Nat → Nat → Value) (d c : Nat) (vs : List Value) : Nat → Nat → Value := fun s' g' => if s' = d ∧ c ≤ g' ∧ g' - c < vs.length then vs.getD (g' - c) undef else ρ s' g'

/-- New pieces of memory in new blocks. -/
theorem Sim.news (S : Sim F h0 w0 nt ρ st a w) {w' : World} (hg : w.grownBy w' none) (d : Nat) (xs : List Ent) (vs : List Value) (hl : xs.length = vs.length) (h1 : ∀ v ∈ vs, v.oneCell' = true)
    (hfresh : ∀ v ∈ vs, ∀ b, blkOf v = some b → w.heap.size ≤ b)
    (hinj : ∀ (i j : Nat) (x y : Value) (b : Nat), vs[i]? = some x → vs[j]? = some y → blkOf x = some b → blkOf y = some b → i = j)
    (hx : ∀ C, (ctx h0 w0 ρ st w).Le C → (∀ b o, w.heap.size ≤ b → w'.heap[b]? = some o → (∀ v ∈ vs, blkOf v ≠ some b) → C.h b o) →
      (∀ (i : Nat) (x : Value), vs[i]? = some x → st.cnt d + i < C.cnt d ∧ C.ρ d (st.cnt d + i) = x) → ∀ (i : Nat) (e : Ent) (x : Value), xs[i]? = some e → vs[i]? = some x → EntRel C w' w0.heap.size x e) :
    Sim F h0 w0 nt (upρs ρ d (st.cnt d) vs) (st.news d xs) a w' ∧ (ctx h0 w0 ρ st w).Le (ctx h0 w0 (upρs ρ d (st.cnt d) vs) (st.news d xs) w') ∧
      (∀ b o, w.heap.size ≤ b → w'.heap[b]? = some o → (∀ v ∈ vs, blkOf v ≠ some b) → (ctx h0 w0 (upρs ρ d (st.cnt d) vs) (st.news d xs) w').h b o) ∧
      (∀ (i : Nat) (x : Value), vs[i]? = some x → st.cnt d + i < (st.news d xs).cnt d ∧ upρs ρ d (st.cnt d) vs d (st.cnt d + i) = x) := by
  have hold : ∀ s g, g < st.cnt s → upρs ρ d (st.cnt d) vs s g = ρ s g := fun s g hlt => by
    unfold upρs
    rw [if_neg]
    rintro ⟨rfl, h, _⟩
    omega
  have hcd : (st.news d xs).cnt d = st.cnt d + xs.length := by simp [St.news]
  have hnew : ∀ (i : Nat) (x : Value), vs[i]? = some x → st.cnt d + i < (st.news d xs).cnt d ∧ upρs ρ d (st.cnt d) vs d (st.cnt d + i) = x := fun i x hi => by
    have hlt : i < vs.length := (List.getElem?_eq_some_iff.1 hi).1
    refine ⟨by rw [hcd]; omega, ?_⟩
    unfold upρs
    rw [if_pos ⟨rfl, by omega, by omega⟩, show st.cnt d + i - st.cnt d = i by omega]
    simp [List.getD_eq_getElem?_getD, hi]
  have hcase : ∀ s g e, (st.news d xs).heap s g = some e → (∃ i x, s = d ∧ g = st.cnt d + i ∧ xs[i]? = some e ∧ vs[i]? = some x) ∨ st.heap s g = some e := fun s g e he => by
    simp only [St.news] at he
    split at he
    · rename_i hc
      obtain ⟨rfl, c1, c2⟩ := hc
      exact .inl ⟨g - st.cnt s, vs[g - st.cnt s]'(by omega), rfl, by omega, he, by simp⟩
    · exact .inr he
  have k : (ctx h0 w0 ρ st w).Le (ctx h0 w0 (upρs ρ d (st.cnt d) vs) (st.news d xs) w') := by
    refine ⟨fun b o hb => ⟨?_, hb.2.1, fun s g e he => ?_⟩, fun s => ?_, hold⟩
    · rw [hg.block b (Array.getElem?_eq_some_iff.1 hb.1).1 (by simp)]; exact hb.1
    · rcases hcase s g e he with ⟨i, x, rfl, rfl, _, hi⟩ | he
      · rw [(hnew i x hi).2]
        intro hbv
        have := hfresh x (List.mem_of_getElem? hi) b hbv
        have := (Array.getElem?_eq_some_iff.1 hb.1).1
        omega
      · rw [hold s g (S.ent s g e he).1]
        exact hb.2.2 s g e he
    · simp only [ctx, St.news]
      split
      · rename_i h; subst h; omega
      · exact Nat.le_refl _
  have hh : ∀ b o, w.heap.size ≤ b → w'.heap[b]? = some o → (∀ v ∈ vs, blkOf v ≠ some b) → (ctx h0 w0 (upρs ρ d (st.cnt d) vs) (st.news d xs) w').h b o := fun b o hb ho hne =>
    ⟨ho, fun hlt => by have := S.ext.size; omega, fun s g e he => by
      rcases hcase s g e he with ⟨i, x, rfl, rfl, _, hi⟩ | he
      · rw [(hnew i x hi).2]; exact hne x (List.mem_of_getElem? hi)
      · rw [hold s g (S.ent s g e he).1]
        exact blkOf_ne_fresh S he hb⟩
  refine ⟨⟨fun t => (S.env t).le k, fun s g e he => ?_, fun s g s' g' e e' b he he' hb hb' => ?_, grown_trans S.ext hg (by simp), S.size, S.defers, ⟨fun x v h => (S.frm.1 x v h).le k, fun b o h => k.h b o (S.frm.2.1 b o h), Nat.le_trans S.frm.2.2 hg.size⟩⟩, k, hh, hnew⟩
  · rcases hcase s g e he with ⟨i, x, rfl, rfl, hxi, hi⟩ | he
    · refine ⟨(hnew i x hi).1, by rw [(hnew i x hi).2]; exact h1 x (List.mem_of_getElem? hi), ?_⟩
      rw [(hnew i x hi).2]
      exact hx _ k hh hnew i e x hxi hi
    · obtain ⟨e1, e2, e3⟩ := S.ent s g e he
      refine ⟨by simp only [St.news]; split <;> (try subst_vars) <;> omega, by rw [hold s g e1]; exact e2, ?_⟩
      rw [hold s g e1]
      exact e3.world k hg (by cases blkOf (ρ s g) <;> simp)
  · rcases hcase s g e he with ⟨i, x, rfl, rfl, _, hi⟩ | hq <;> rcases hcase s' g' e' he' with ⟨j, y, rfl, rfl, _, hj⟩ | hq'
    · rw [(hnew i x hi).2] at hb
      rw [(hnew j y hj).2] at hb'
      exact ⟨rfl, by rw [hinj i j x y b hi hj hb hb']⟩
    · rw [(hnew i x hi).2] at hb
      rw [hold s' g' (S.ent s' g' e' hq').1] at hb'
      exact absurd hb' (blkOf_ne_fresh S hq' (hfresh x (List.mem_of_getElem? hi) b hb))
    · rw [(hnew j y hj).2] at hb'
      rw [hold s g (S.ent s g e hq).1] at hb
      exact absurd hb (blkOf_ne_fresh S hq (hfresh y (List.mem_of_getElem? hj) b hb'))
    · rw [hold s g (S.ent s g e hq).1] at hb
      rw [hold s' g' (S.ent s' g' e' hq').1] at hb'
      exact S.inj s g s' g' e e' b hq hq' hb hb'

theorem news_one (st : St) (d : Nat) (e : Ent) : st.news d [e] = st.new d e := by
  unfold St.news St.new
  congr 1
  funext s g
  by_cases h : s = d ∧ g = st.cnt d
  · obtain ⟨rfl, rfl⟩ := h
    simp
  · rw [if_neg h]
    split
    · rename_i hc
      exact absurd ⟨hc.1, by simp at hc; omega⟩ h
    · rfl

/-- A new piece of memory in new blocks. -/
theorem Sim.new (S : Sim F h0 w0 nt ρ st a w) {w' : World} (hg : w.grownBy w' none) (d : Nat) (x : Ent) (v : Value) (h1 : v.oneCell' = true)
    (hfresh : ∀ b, blkOf v = some b → w.heap.size ≤ b)
    (hx : ∀ C, (ctx h0 w0 ρ st w).Le C → (∀ b o, w.heap.size ≤ b → w'.heap[b]? = some o → blkOf v ≠ some b → C.h b o) → EntRel C w' w0.heap.size v x) :
    Sim F h0 w0 nt (upρ ρ d (st.cnt d) v) (st.new d x) a w' ∧ (ctx h0 w0 ρ st w).Le (ctx h0 w0 (upρ ρ d (st.cnt d) v) (st.new d x) w') ∧ upρ ρ d (st.cnt d) v d (st.cnt d) = v := by
  have hold : ∀ s g, g < st.cnt s → upρ ρ d (st.cnt d) v s g = ρ s g := fun s g hlt => by
    unfold upρ
    rw [if_neg]
    rintro ⟨rfl, rfl⟩
    omega
  have hnew : upρ ρ d (st.cnt d) v d (st.cnt d) = v := by simp [upρ]
  have k : (ctx h0 w0 ρ st w).Le (ctx h0 w0 (upρ ρ d (st.cnt d) v) (st.new d x) w') := by
    refine ⟨fun b o hb => ⟨?_, hb.2.1, fun s g e he => ?_⟩, fun s => ?_, hold⟩
    · rw [hg.block b (Array.getElem?_eq_some_iff.1 hb.1).1 (by simp)]; exact hb.1
    · simp only [St.new] at he
      split at he
      · rename_i hsg
        obtain ⟨rfl, rfl⟩ := hsg
        rw [hnew]
        intro hbv
        have := hfresh b hbv
        have := (Array.getElem?_eq_some_iff.1 hb.1).1
        omega
      · rw [hold s g (S.ent s g e he).1]
        exact hb.2.2 s g e he
    · simp only [ctx, St.new]
      split
      · rename_i h; subst h; omega
      · exact Nat.le_refl _
  refine ⟨⟨fun t => (S.env t).le k, fun s g e he => ?_, fun s g s' g' e e' b he he' hb hb' => ?_, grown_trans S.ext hg (by simp), S.size, S.defers, ⟨fun x v h => (S.frm.1 x v h).le k, fun b o h => k.h b o (S.frm.2.1 b o h), Nat.le_trans S.frm.2.2 hg.size⟩⟩, k, hnew⟩
  · simp only [St.new] at he
    split at he
    · rename_i hsg
      obtain ⟨rfl, rfl⟩ := hsg
      cases he
      refine ⟨by simp [St.new], by rw [hnew]; exact h1, ?_⟩
      rw [hnew]
      refine hx _ k fun b o hb ho hne => ⟨ho, fun hlt => by have := S.ext.size; omega, fun s2 g2 e2 he2 => ?_⟩
      rw [new_heap] at he2
      by_cases hsg : s2 = s ∧ g2 = st.cnt s
      · obtain ⟨rfl, rfl⟩ := hsg
        rw [hnew]; exact hne
      · rw [if_neg hsg] at he2
        rw [hold s2 g2 (S.ent s2 g2 e2 he2).1]
        exact blkOf_ne_fresh S he2 hb
    · obtain ⟨e1, e2, e3⟩ := S.ent s g e he
      refine ⟨by simp only [St.new]; split <;> (try subst_vars) <;> omega, by rw [hold s g e1]; exact e2, ?_⟩
      rw [hold s g e1]
      exact e3.world k hg (by cases blkOf (ρ s g) <;> simp)
  · simp only [St.new] at he he'
    split at he
    · rename_i hsg
      obtain ⟨rfl, rfl⟩ := hsg
      split at he'
      · rename_i hsg'; exact ⟨hsg'.1.symm, hsg'.2.symm⟩
      · rw [hnew] at hb
        rw [hold s' g' (S.ent s' g' e' he').1] at hb'
        exact absurd hb' (blkOf_ne_fresh S he' (hfresh b hb))
    · split at he'
      · rename_i hsg'
        obtain ⟨rfl, rfl⟩ := hsg'
        rw [hnew] at hb'
        rw [hold s g (S.ent s g e he).1] at hb
        exact absurd hb (blkOf_ne_fresh S he (hfresh b hb'))
      · rw [hold s g (S.ent s g e he).1] at hb
        rw [hold s' g' (S.ent s' g' e' he').1] at hb'
        exact S.inj s g s' g' e e' b he he' hb hb'
/-- A piece of memory is written. -/
theorem Sim.storeR (S : Sim F h0 w0 nt ρ st a w) {s g : Nat} {e e' : Ent} (he : st.heap s g = some e) {w' : World} (hg : w.grownBy w' (blkOf (ρ s g)))
    (hx : ∀ C, (ctx h0 w0 ρ st w).Le C → EntRel C w' w0.heap.size (ρ s g) e') :
    Sim F h0 w0 nt ρ (st.setH s g (some e')) a w' := by
  have k : (ctx h0 w0 ρ st w).Le (ctx h0 w0 ρ (st.setH s g (some e')) w') := by
    refine ⟨fun b' o hb' => ⟨?_, hb'.2.1, fun s' g' e'' h => ?_⟩, fun _ => Nat.le_refl _, fun _ _ _ => rfl⟩
    · rw [hg.block b' (Array.getElem?_eq_some_iff.1 hb'.1).1 (fun h => hb'.2.2 s g e he h.symm)]; exact hb'.1
    · simp only [St.setH] at h
      split at h
      · rename_i h'; obtain ⟨rfl, rfl⟩ := h'; exact hb'.2.2 _ _ e he
      · exact hb'.2.2 _ _ _ h
  refine ⟨fun t => (S.env t).le k, fun s' g' x h => ?_, fun s1 g1 s2 g2 e1 e2 b' h1 h2 hb1 hb2 => ?_, grown_trans S.ext hg (fun b hb => ((S.ent s g e he).2.2.blk b hb).1), S.size, S.defers, ⟨fun x v h => (S.frm.1 x v h).le k, fun b o h => k.h b o (S.frm.2.1 b o h), Nat.le_trans S.frm.2.2 hg.size⟩⟩
  · simp only [St.setH] at h
    split at h
    · rename_i h'
      obtain ⟨rfl, rfl⟩ := h'
      cases h
      exact ⟨(S.ent _ _ e he).1, (S.ent _ _ e he).2.1, hx _ k⟩
    · rename_i h'
      obtain ⟨x1, x2, x3⟩ := S.ent _ _ _ h
      refine ⟨x1, x2, x3.world k hg ?_⟩
      cases hbb : blkOf (ρ s' g') with
      | none => exact .inl rfl
      | some b =>
        right
        intro hq
        exact h' (S.inj _ _ _ _ _ _ b h he hbb hq.symm)
  · have old : ∀ s1 g1 e1, (st.setH s g (some e')).heap s1 g1 = some e1 → ∃ e2, st.heap s1 g1 = some e2 := fun s1 g1 e1 h => by
      simp only [St.setH] at h
      split at h
      · rename_i h'; obtain ⟨rfl, rfl⟩ := h'; exact ⟨e, he⟩
      · exact ⟨_, h⟩
    obtain ⟨x1, y1⟩ := old _ _ _ h1
    obtain ⟨x2, y2⟩ := old _ _ _ h2
    exact S.inj _ _ _ _ _ _ b' y1 y2 hb1 hb2
theorem Sim.store (S : Sim F h0 w0 nt ρ st a w) {s g b : Nat} {e e' : Ent} (he : st.heap s g = some e) (hb : blkOf (ρ s g) = some b) {w' : World} (hg : w.grownBy w' (some b))
    (hx : ∀ C, (ctx h0 w0 ρ st w).Le C → EntRel C w' w0.heap.size (ρ s g) e') :
    Sim F h0 w0 nt ρ (st.setH s g (some e')) a w' := S.storeR he (by rw [hb]; exact hg) hx

/-- A piece of memory is used up, and a new one takes over its block, or a new block. -/
theorem Sim.regrow (S : Sim F h0 w0 nt ρ st a w) {s g : Nat} {e : Ent} (he : st.heap s g = some e) {w' : World} (hg : w.grownBy w' (blkOf (ρ s g))) (d : Nat) (x : Ent) (v : Value) (h1 : v.oneCell' = true)
    (hfresh : ∀ b, blkOf v = some b → blkOf (ρ s g) = some b ∨ w.heap.size ≤ b)
    (hx : ∀ C, (ctx h0 w0 ρ st w).Le C → EntRel C w' w0.heap.size v x) :
    Sim F h0 w0 nt (upρ ρ d (st.cnt d) v) ((st.setH s g none).new d x) a w' ∧ (ctx h0 w0 ρ st w).Le (ctx h0 w0 (upρ ρ d (st.cnt d) v) ((st.setH s g none).new d x) w') ∧ upρ ρ d (st.cnt d) v d (st.cnt d) = v := by
  have hlo : ∀ b, blkOf (ρ s g) = some b → w0.heap.size ≤ b := fun b hb => ((S.ent s g e he).2.2.blk b hb).1
  have hold : ∀ s g, g < st.cnt s → upρ ρ d (st.cnt d) v s g = ρ s g := fun s g hlt => by
    unfold upρ
    rw [if_neg]
    rintro ⟨rfl, rfl⟩
    omega
  have hnew : upρ ρ d (st.cnt d) v d (st.cnt d) = v := by simp [upρ]
  have hcase : ∀ s1 g1 e1, ((st.setH s g none).new d x).heap s1 g1 = some e1 → (s1 = d ∧ g1 = st.cnt d ∧ e1 = x) ∨ (st.heap s1 g1 = some e1 ∧ ¬ (s1 = s ∧ g1 = g)) := fun s1 g1 e1 h => by
    rw [new_heap] at h
    by_cases c1 : s1 = d ∧ g1 = (st.setH s g none).cnt d
    · rw [if_pos c1] at h; cases h; exact .inl ⟨c1.1, c1.2, rfl⟩
    · rw [if_neg c1, setH_heap] at h
      by_cases c2 : s1 = s ∧ g1 = g
      · rw [if_pos c2] at h; cases h
      · rw [if_neg c2] at h; exact .inr ⟨h, c2⟩
  have k : (ctx h0 w0 ρ st w).Le (ctx h0 w0 (upρ ρ d (st.cnt d) v) ((st.setH s g none).new d x) w') := by
    refine ⟨fun b o hb => ⟨?_, hb.2.1, fun s1 g1 e1 h => ?_⟩, fun s => ?_, hold⟩
    · rw [hg.block b (Array.getElem?_eq_some_iff.1 hb.1).1 (fun h => hb.2.2 s g e he h.symm)]; exact hb.1
    · rcases hcase _ _ _ h with ⟨rfl, rfl, rfl⟩ | ⟨h, _⟩
      · rw [hnew]
        intro hbv
        rcases hfresh b hbv with h' | h'
        · exact hb.2.2 s g e he h'
        · have := (Array.getElem?_eq_some_iff.1 hb.1).1
          omega
      · rw [hold _ _ (S.ent _ _ _ h).1]
        exact hb.2.2 _ _ _ h
    · simp only [ctx, St.new, St.setH]
      split
      · rename_i h; subst h; omega
      · exact Nat.le_refl _
  refine ⟨⟨fun t => (S.env t).le k, fun s1 g1 e1 h => ?_, fun s1 g1 s2 g2 e1 e2 b h1' h2' hb1 hb2 => ?_, grown_trans S.ext hg hlo, S.size, S.defers, ⟨fun x v h => (S.frm.1 x v h).le k, fun b o h => k.h b o (S.frm.2.1 b o h), Nat.le_trans S.frm.2.2 hg.size⟩⟩, k, hnew⟩
  · rcases hcase _ _ _ h with ⟨rfl, rfl, rfl⟩ | ⟨h, hn⟩
    · refine ⟨by simp [St.new, St.setH], by rw [hnew]; exact h1, ?_⟩
      rw [hnew]
      exact hx _ k
    · obtain ⟨x1, x2, x3⟩ := S.ent _ _ _ h
      refine ⟨by simp only [St.new, St.setH]; split <;> (try subst_vars) <;> omega, by rw [hold _ _ x1]; exact x2, ?_⟩
      rw [hold _ _ x1]
      refine x3.world k hg ?_
      cases hbb : blkOf (ρ s1 g1) with
      | none => exact .inl rfl
      | some b1 =>
        right
        intro heq
        exact hn (S.inj _ _ _ _ _ _ b1 h he hbb heq.symm)
  · rcases hcase _ _ _ h1' with ⟨rfl, rfl, rfl⟩ | ⟨h1, n1⟩ <;> rcases hcase _ _ _ h2' with ⟨rfl, rfl, rfl⟩ | ⟨h2, n2⟩ <;> clear h1' h2'
    · exact ⟨rfl, rfl⟩
    · rw [hnew] at hb1
      rw [hold _ _ (S.ent _ _ _ h2).1] at hb2
      rcases hfresh b hb1 with h' | h'
      · exact absurd (S.inj _ _ _ _ _ _ b h2 he hb2 h') n2
      · exact absurd hb2 (blkOf_ne_fresh S h2 h')
    · rw [hnew] at hb2
      rw [hold _ _ (S.ent _ _ _ h1).1] at hb1
      rcases hfresh b hb2 with h' | h'
      · exact absurd (S.inj _ _ _ _ _ _ b h1 he hb1 h') n1
      · exact absurd hb1 (blkOf_ne_fresh S h1 h')
    · rw [hold _ _ (S.ent _ _ _ h1).1] at hb1
      rw [hold _ _ (S.ent _ _ _ h2).1] at hb2
      exact S.inj _ _ _ _ _ _ b h1 h2 hb1 hb2
end
end Go.Ab
