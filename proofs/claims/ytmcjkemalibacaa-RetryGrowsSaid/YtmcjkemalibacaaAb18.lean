/-
  Part Ab18 of the proof: an evaluator of the programs written in Lean once, and its soundness.
-/
import Derived.Test.YtmcjkemalibacaaAb17
set_option linter.all false
set_option linter.unusedSimpArgs false
set_option linter.unusedVariables false
namespace Go.Ab
open Classical

abbrev Root := Vector Int 32
abbrev Wide := Vector Int 4

def cU64 (x : Int) : List AV := [.v (.int .u64 x)]
def cInt (x : Int) : List AV := [.v (.int .i64 x)]
def cBool (x : Bool) : List AV := [.v (.bool x)]
def cRoot (r : Root) : List AV := r.toList.map fun x => .v (.int .u8 x)
def cWide (r : Wide) : List AV := r.toList.map fun x => .v (.int .u64 x)
@[simp] theorem len_cU64 (x : Int) : (cU64 x).length = 1 := rfl
@[simp] theorem len_cInt (x : Int) : (cInt x).length = 1 := rfl
@[simp] theorem len_cBool (x : Bool) : (cBool x).length = 1 := rfl
@[simp] theorem len_cRoot (r : Root) : (cRoot r).length = 32 := by simp [cRoot]
@[simp] theorem len_cWide (r : Wide) : (cWide r).length = 4 := by simp [cWide]
theorem flat_cU64 (x : Int) : ∀ y ∈ cU64 x, Flat y := by intro y hy; simp [cU64] at hy; subst hy; exact .v _
theorem flat_cInt (x : Int) : ∀ y ∈ cInt x, Flat y := by intro y hy; simp [cInt] at hy; subst hy; exact .v _
theorem flat_cBool (x : Bool) : ∀ y ∈ cBool x, Flat y := by intro y hy; simp [cBool] at hy; subst hy; exact .v _
theorem flat_cRoot (x : Root) : ∀ y ∈ cRoot x, Flat y := by intro y hy; obtain ⟨z, _, rfl⟩ := List.mem_map.1 hy; exact .v _
theorem flat_cWide (x : Wide) : ∀ y ∈ cWide x, Flat y := by intro y hy; obtain ⟨z, _, rfl⟩ := List.mem_map.1 hy; exact .v _
theorem mem_cU64 (x : Int) : ∀ y ∈ cU64 x, MemFree y := by intro y hy; simp [cU64] at hy; subst hy; exact .v _
theorem mem_cInt (x : Int) : ∀ y ∈ cInt x, MemFree y := by intro y hy; simp [cInt] at hy; subst hy; exact .v _
theorem mem_cBool (x : Bool) : ∀ y ∈ cBool x, MemFree y := by intro y hy; simp [cBool] at hy; subst hy; exact .v _
theorem mem_cRoot (x : Root) : ∀ y ∈ cRoot x, MemFree y := by intro y hy; obtain ⟨z, _, rfl⟩ := List.mem_map.1 hy; exact .v _
theorem mem_cWide (x : Wide) : ∀ y ∈ cWide x, MemFree y := by intro y hy; obtain ⟨z, _, rfl⟩ := List.mem_map.1 hy; exact .v _

theorem rd_flatMap {α : Type} (c : α → List AV) (z : Nat) (hz : ∀ a, (c a).length = z) : ∀ (l : List α) (i : Nat) (h : i < l.length), rd (l.flatMap c) (i * z) z = c l[i]
  | [], i, h => by simp at h
  | a :: l, 0, h => by simp [rd, List.take_append, hz, List.take_of_length_le]
  | a :: l, i + 1, h => by
    have ih := rd_flatMap c z hz l i (by simpa using h)
    simp only [List.flatMap_cons, List.getElem_cons_succ]
    rw [← ih]
    simp only [rd]
    rw [List.drop_append, List.drop_of_length_le (by rw [hz, Nat.succ_mul]; omega), hz, Nat.succ_mul]
    simp

theorem cRoot_inj (a b : Root) : cRoot a = cRoot b ↔ a = b := by
  constructor
  · intro h
    unfold cRoot at h
    have h2 : a.toList = b.toList := by
      have := congrArg (List.map (fun x : AV => match x with | .v (.int _ n) => n | _ => 0)) h
      simpa [List.map_map, Function.comp_def] using this
    exact Vector.toList_inj.1 h2
  · intro h; rw [h]
theorem cWide_inj (a b : Wide) : cWide a = cWide b ↔ a = b := by
  constructor
  · intro h
    unfold cWide at h
    have h2 : a.toList = b.toList := by
      have := congrArg (List.map (fun x : AV => match x with | .v (.int _ n) => n | _ => 0)) h
      simpa [List.map_map, Function.comp_def] using this
    exact Vector.toList_inj.1 h2
  · intro h; rw [h]

def upd (cs : List AV) (o : Nat) (xs : List AV) (e : Nat) : List AV := cs.take o ++ xs ++ cs.drop e

section
variable {a b xs : List AV} {n o o' e e' k : Nat}
theorem appR (h : xs = b) : a ++ xs = a ++ b := by rw [h]
theorem appL (h : xs = b) : xs ++ a = b ++ a := by rw [h]
theorem rd_skip (h : o' = o + n) (ha : a.length = n) : rd (a ++ b) o' k = rd b o k := by
  subst h; subst ha
  simp only [rd]
  rw [List.drop_append, List.drop_of_length_le (by omega), List.nil_append, show o + a.length - a.length = o by omega]
theorem rd_head (ha : a.length = n) : rd (a ++ b) 0 n = a := by
  subst ha
  simp [rd]
theorem rd_last (ha : a.length = n) : rd a 0 n = a := by
  subst ha
  simp [rd]
theorem rd_in (h : o + k ≤ a.length) : rd (a ++ b) o k = rd a o k := by
  simp only [rd]
  rw [List.drop_append, List.take_append, show o - a.length = 0 by omega, show k - (a.drop o).length = 0 by simp; omega]
  simp
theorem get_skip (h : o' = o + n) (ha : a.length = n) : (a ++ b)[o']? = b[o]? := by
  subst h; subst ha
  rw [List.getElem?_append_right (by omega), show o + a.length - a.length = o by omega]
theorem get_in (h : o < a.length) : (a ++ b)[o]? = a[o]? := List.getElem?_append_left h
theorem up_skip (h : o' = o + n) (h' : e' = e + n) (ha : a.length = n) : upd (a ++ b) o' xs e' = a ++ upd b o xs e := by
  subst h; subst h'; subst ha
  simp only [upd]
  rw [List.take_append, List.take_of_length_le (by omega), List.drop_append, List.drop_of_length_le (by omega), show o + a.length - a.length = o by omega, show e + a.length - a.length = e by omega]
  simp
theorem up_head (ha : a.length = n) : upd (a ++ b) 0 xs n = xs ++ b := by
  subst ha
  simp [upd]
theorem up_last (ha : a.length = n) : upd a 0 xs n = xs := by
  subst ha
  simp [upd]
theorem up_in (h : o ≤ e ∧ e ≤ a.length) : upd (a ++ b) o xs e = upd a o xs e ++ b := by
  simp only [upd]
  rw [List.take_append, List.drop_append, show o - a.length = 0 by omega, show e - a.length = 0 by omega]
  simp
end

theorem cU64_inj (a b : Int) : cU64 a = cU64 b ↔ a = b := by simp [cU64]
theorem cInt_inj (a b : Int) : cInt a = cInt b ↔ a = b := by simp [cInt]
theorem cBool_inj (a b : Bool) : cBool a = cBool b ↔ a = b := by simp [cBool]
def zRoot : Root := Vector.replicate 32 0
def zWide : Wide := Vector.replicate 4 0
def vRoot : List Value := List.replicate 32 (.int .u8 0)
def vWide : List Value := List.replicate 4 (.int .u64 0)
theorem vRoot_c : vRoot.map AV.v = cRoot zRoot := by simp [vRoot, cRoot, zRoot]
theorem vWide_c : vWide.map AV.v = cWide zWide := by simp [vWide, cWide, zWide]
def lRoot : List Bool := List.replicate 32 true
def lWide : List Bool := List.replicate 4 true
theorem leafy_app {l m : List Bool} : ∀ {xs ys xs' ys' : List AV}, Leafy l xs ys → Leafy m xs' ys' → Leafy (l ++ m) (xs ++ xs') (ys ++ ys') := by
  induction l with
  | nil => intro xs ys xs' ys' h h'; cases xs <;> cases ys <;> first | exact h' | exact h.elim
  | cons b l ih =>
    intro xs ys xs' ys' h h'
    cases b
    · cases xs with
      | nil => exact h.elim
      | cons x xs => cases ys with
        | nil => unfold Leafy at h; split at h <;> first | exact h.elim | simp_all
        | cons y ys =>
          unfold Leafy at h
          split at h <;> simp_all [Leafy]
    · cases xs with
      | nil => exact h.elim
      | cons x xs => cases ys with
        | nil => unfold Leafy at h; split at h <;> first | exact h.elim | simp_all
        | cons y ys =>
          unfold Leafy at h
          split at h <;> simp_all [Leafy]
theorem leafy_ints (k : IntKind) : ∀ (a b : List Int), a.length = b.length → Leafy (List.replicate a.length true) (a.map fun x => .v (.int k x)) (b.map fun x => .v (.int k x))
  | [], [], _ => trivial
  | [], _ :: _, h => by simp at h
  | _ :: _, [], h => by simp at h
  | a :: l, b :: m, h => ⟨rfl, leafy_ints k l m (by simpa using h)⟩
theorem leafy_root (a b : Root) : Leafy lRoot (cRoot a) (cRoot b) := by
  have := leafy_ints .u8 a.toList b.toList (by simp)
  rw [Vector.length_toList] at this
  exact this
theorem leafy_wide (a b : Wide) : Leafy lWide (cWide a) (cWide b) := by
  have := leafy_ints .u64 a.toList b.toList (by simp)
  rw [Vector.length_toList] at this
  exact this

/-- The places of a struct's fields, as a table. -/
def placeTab (P : Program) (T : Nat) : Option (List (Nat × Nat)) :=
  match P.underlying T with
  | some (.struct fs) => if fs.all (fun f => (P.info? f.type).isSome) then some (fs.toList.map fun f => (f.offset, P.cellsOf f.type)) else none
  | _ => none
def placeArr (P : Program) (T : Nat) : Option Nat :=
  match P.underlying T with
  | some (.array _ e) => if (P.info? e).isSome then some (P.cellsOf e) else none
  | _ => none
theorem placeTab_eq {P : Program} {T : Nat} {l : List (Nat × Nat)} (h : placeTab P T = some l) : placeOf P T = some fun i => l[i]? := by
  unfold placeTab at h
  unfold placeOf
  split at h
  · rename_i fs hu
    split at h
    · rename_i hall
      simp only [Option.some.injEq] at h
      subst h
      simp only [hu, hall, if_true]
      congr 1
      funext i
      simp
    · cases h
  · cases h
theorem placeArr_eq {P : Program} {T k : Nat} (h : placeArr P T = some k) : placeOf P T = some fun i => some (i * k, k) := by
  unfold placeArr at h
  unfold placeOf
  split at h
  · rename_i n e hu
    split at h
    · rename_i hall
      simp only [Option.some.injEq] at h
      subst h
      simp only [hu, hall, if_true]
    · cases h
  · cases h
theorem build_of {P : Program} {st : St} {T : Nat} {parts : List (Nat × Operand)} {z : List Value} {place : Nat → Option (Nat × Nat)} {c : List AV} (hz : zeroL P T = some z) (hc : z.map AV.v = c) (hp : placeOf P T = some place) :
    buildA P st T parts = if (parts.all fun p => (st.ev p.2).stor) = true then (fillA place c (parts.map fun p => (p.1, st.ev p.2))).map .agg else none := by
  simp only [buildA, hz, hp, hc]
theorem fill_nil (place : Nat → Option (Nat × Nat)) (c : List AV) : fillA place c [] = some c := rfl
theorem fill_cons (place : Nat → Option (Nat × Nat)) (c : List AV) (i : Nat) (x : AV) (r : List (Nat × AV)) : fillA place c ((i, x) :: r) = bnd (place i) fun os =>
    if x.cells.length = os.2 ∧ os.1 + os.2 ≤ c.length then fillA place (upd c os.1 x.cells (os.1 + os.2)) r else none := by
  simp only [fillA]
  cases place i <;> rfl
theorem eqAgg_of {P : Program} {T : Nat} {l : List Bool} {xs ys : List AV} {p : Prop} [Decidable p] (hl : eqLeaves P 20 T = some l) (ha : isAggT P T = true) (hg : P.eqGuardType P.depth T = false) (hf : Leafy l xs ys) (hp : xs = ys ↔ p) :
    eqAgg P T xs ys = some (decide p) := by
  unfold eqAgg
  rw [hl]
  simp only [ha, hg, hf, and_self, if_true]
  congr 1
  rw [Bool.eq_iff_iff]
  simp [hp]
def ldK (P : Program) (T : Nat) : Option Nat :=
  match ldInfo P T with
  | some (_, k) => some k
  | none => none
theorem store_ptr {P : Program} {st : St} {T s g o : Nat} {x : AV} : storeSt P st T (.ptr s g o) x = bnd (ldK P T) fun k => if x.cells.length = k ∧ x.stor = true then
    (match st.heap s g with
     | some (.cells cs) => if o + k ≤ cs.length then some (st.setH s g (some (.cells (upd cs o x.cells (o + k))))) else none
     | some (.row e sz n cs) => if o + k ≤ cs.length then some (st.setH s g (some (.row e sz n (upd cs o x.cells (o + k))))) else none
     | _ => none) else none := by
  simp only [storeSt, storeA, ldK]
  cases ldInfo P T with
  | none => rfl
  | some bk =>
    obtain ⟨b, k⟩ := bk
    simp only [bnd]
    split
    · split
      · rename_i h; simp only [h]; split <;> rfl
      · rename_i h; simp only [h]; split <;> rfl
      · rename_i h1 h2
        split <;> rename_i h <;> first | rfl | exact absurd h (h1 _) | exact absurd h (h2 _ _ _ _)
    · rfl

theorem rd_Root_all (s : Root) : rd (cRoot s) 0 32 = cRoot s := rd_last (len_cRoot _)
theorem up_Root_all (s x : Root) : upd (cRoot s) 0 (cRoot x) 32 = cRoot x := up_last (len_cRoot _)
theorem rd_Wide_all (s : Wide) : rd (cWide s) 0 4 = cWide s := rd_last (len_cWide _)
theorem up_Wide_all (s x : Wide) : upd (cWide s) 0 (cWide x) 4 = cWide x := up_last (len_cWide _)
theorem get_Wide (s : Wide) (i : Nat) (h : i < 4) : (cWide s)[i]? = some (.v (.int .u64 s[i])) := by
  simp [cWide, h]
theorem get_Root (s : Root) (i : Nat) (h : i < 32) : (cRoot s)[i]? = some (.v (.int .u8 s[i])) := by
  simp [cRoot, h]
theorem wrap_i64 (x : Int) (h1 : -9223372036854775808 ≤ x) (h2 : x ≤ 9223372036854775807) : IntKind.i64.wrap x = x := by
  rw [IntKind.wrap_i64]; omega
theorem not_flat_own (s g : Nat) : ¬ Flat (.own s g) := by intro h; cases h
theorem not_flat_ptr (s g o : Nat) : ¬ Flat (.ptr s g o) := by intro h; cases h
theorem expo_id {st : St} {x : AV} (h : Flat x) : expo st x = some x := by unfold expo; rw [if_pos h]
theorem expo1_own {st : St} {s g e sz n : Nat} {cs : List AV} (h : st.heap s g = some (.row e sz n cs)) (hf : ∀ c ∈ cs, Flat c) : expo1 st (.own s g) = some (.sl n cs) := by
  unfold expo1
  rw [if_neg (not_flat_own s g)]
  simp only [h]
  rw [if_pos hf]
theorem expo1_id {st : St} {x : AV} (h : Flat x) : expo1 st x = some x := by unfold expo1; rw [if_pos h]
theorem expo0_id {st : St} {x : AV} (h : Flat x) : expo0 st x = some x := by unfold expo0; rw [if_pos h]
theorem expo0_own {st : St} {s g e sz n : Nat} {cs : List AV} (h : st.heap s g = some (.row e sz n cs)) (hf : ∀ c ∈ cs, Flat c) : expo0 st (.own s g) = some (.sl n cs) := by
  unfold expo0
  rw [if_neg (not_flat_own s g)]
  simp only [h]
  rw [if_pos hf]
theorem optAll_same {st : St} : ∀ {cs : List AV}, (∀ c ∈ cs, Flat c) → optAll (cs.map (expo0 st)) = some cs
  | [], _ => rfl
  | c :: cs, h => by
    rw [List.map_cons, expo0_id (h c (by simp))]
    have ih := optAll_same (st := st) (cs := cs) fun d hd => h d (List.mem_cons_of_mem _ hd)
    simp only [optAll, ih, Option.map_some]
theorem expo1_ptrD {st : St} {s g o : Nat} {cs : List AV} (h : st.heap s g = some (.cells cs)) : expo1 st (.ptr s g o) = (optAll (cs.map (expo0 st))).map fun ds => .ip ds o := by
  unfold expo1
  rw [if_neg (not_flat_ptr s g o)]
  simp only [h]
theorem expo1_ptr {st : St} {s g o : Nat} {cs : List AV} (h : st.heap s g = some (.cells cs)) (hf : ∀ c ∈ cs, Flat c) : expo1 st (.ptr s g o) = some (.ip cs o) := by
  rw [expo1_ptrD h, optAll_same hf]
  rfl
theorem expo_own {st : St} {s g e sz n : Nat} {cs : List AV} (h : st.heap s g = some (.row e sz n cs)) (hf : ∀ c ∈ cs, Flat c) : expo st (.own s g) = some (.sl n cs) := by
  unfold expo
  rw [if_neg (not_flat_own s g)]
  exact expo1_own h hf
theorem expo_ptr {st : St} {s g o : Nat} {cs : List AV} (h : st.heap s g = some (.cells cs)) (hf : ∀ c ∈ cs, Flat c) : expo st (.ptr s g o) = some (.ip cs o) := by
  unfold expo
  rw [if_neg (not_flat_ptr s g o)]
  exact expo1_ptr h hf
theorem expo_agg1 {st : St} {s g e sz n : Nat} {cs : List AV} (h : st.heap s g = some (.row e sz n cs)) (hf : ∀ c ∈ cs, Flat c) : expo st (.agg [.own s g]) = some (.agg [.sl n cs]) := by
  have hn : ¬ Flat (.agg [.own s g]) := by intro h; cases h with | agg _ h => exact not_flat_own s g (h _ (by simp))
  unfold expo
  rw [if_neg hn]
  simp only [List.map_cons, List.map_nil, expo1_own h hf, optAll, Option.map_some]

section
variable [Ext]
theorem endL_tmp {P : Program} {f : Nat} {fn : Func} {t : Nat} {st : St} {x : AV} {e : Ex} (hk : Ext.keep f = false) (he : e = .ret ∨ e = .normal) (hr : fn.results.toList = [.tmp t]) (hx : st.env t = x) (hf : Flat x) : endL P f fn (e, st) = some x := by
  have h1 : finishF P f fn st = some x := by
    unfold finishF
    rw [hk, if_neg (by simp)]
    unfold finishA
    rw [hr]
    simp only [resVal, bnd, hx, expoR]
    cases hf <;> simp only [expo] <;> rw [if_pos] <;> constructor <;> assumption
  rcases he with rfl | rfl <;> exact h1
theorem endL_cell {P : Program} {f : Nat} {fn : Func} {t T : Nat} {st : St} {y x : AV} {e : Ex} (hk : Ext.keep f = false) (he : e = .ret ∨ e = .normal) (hr : fn.results.toList = [.cell t T]) (hy : st.env t = y) (hx : loadA P st T y = some x) (hf : Flat x) : endL P f fn (e, st) = some x := by
  have h1 : finishF P f fn st = some x := by
    unfold finishF
    rw [hk, if_neg (by simp)]
    unfold finishA
    rw [hr]
    show bnd (bnd (readAt st (st.env t)) (loadVal P T)) (expoR st) = some x
    rw [hy, loadA_eq, hx]
    simp only [bnd, expoR]
    cases hf <;> simp only [expo] <;> rw [if_pos] <;> constructor <;> assumption
  rcases he with rfl | rfl <;> exact h1
/-- A row is handed over. -/
theorem endL_row {P : Program} {f : Nat} {fn : Func} {t : Nat} {st : St} {e : Ex} {s g e' sz n : Nat} {cs : List AV} (hk : Ext.keep f = false) (he : e = .ret ∨ e = .normal) (hr : fn.results.toList = [.tmp t]) (hx : st.env t = .own s g) (hh : st.heap s g = some (.row e' sz n cs)) (hf : ∀ c ∈ cs, Flat c) : endL P f fn (e, st) = some (.uniq e' sz n cs) := by
  have h1 : finishF P f fn st = some (.uniq e' sz n cs) := by
    unfold finishF
    rw [hk, if_neg (by simp)]
    unfold finishA
    rw [hr]
    simp only [resVal, bnd, hx, expoR, hh]
    rw [if_pos hf]
  rcases he with rfl | rfl <;> exact h1
/-- A value with a row in it is returned. -/
theorem endL_agg {P : Program} {f : Nat} {fn : Func} {t : Nat} {st : St} {e : Ex} {cs : List AV} {y : AV} (hk : Ext.keep f = false) (he : e = .ret ∨ e = .normal) (hr : fn.results.toList = [.tmp t]) (hx : st.env t = .agg cs) (hy : expo st (.agg cs) = some y) : endL P f fn (e, st) = some y := by
  have h1 : finishF P f fn st = some y := by
    unfold finishF
    rw [hk, if_neg (by simp)]
    unfold finishA
    rw [hr]
    simp only [resVal, bnd, hx, expoR, hy]
  rcases he with rfl | rfl <;> exact h1
theorem endL_cellx {P : Program} {f : Nat} {fn : Func} {t T : Nat} {st : St} {e : Ex} {z : AV} {cs : List AV} {y : AV} (hk : Ext.keep f = false) (he : e = .ret ∨ e = .normal) (hr : fn.results.toList = [.cell t T]) (hz : st.env t = z) (hx : loadA P st T z = some (.agg cs)) (hy : expo st (.agg cs) = some y) : endL P f fn (e, st) = some y := by
  have h1 : finishF P f fn st = some y := by
    unfold finishF
    rw [hk, if_neg (by simp)]
    unfold finishA
    rw [hr]
    show bnd (bnd (readAt st (st.env t)) (loadVal P T)) (expoR st) = some y
    rw [hz, loadA_eq, hx]
    simp only [bnd, expoR, hy]
  rcases he with rfl | rfl <;> exact h1
def resA (P : Program) (st : St) (r : ResultVar) : Option AV :=
  match r with
  | .tmp t => some (st.env t)
  | .cell t T => loadA P st T (st.env t)
theorem resA_eq (P : Program) (st : St) (r : ResultVar) : resVal P st r = resA P st r := by
  cases r with
  | tmp t => rfl
  | cell t T => exact loadA_eq P st T _
theorem endL_two {P : Program} {f : Nat} {fn : Func} {st : St} {e : Ex} {r1 r2 : ResultVar} {x1 x2 y1 y2 : AV} (hk : Ext.keep f = false) (he : e = .ret ∨ e = .normal) (hr : fn.results.toList = [r1, r2])
    (h1 : resA P st r1 = some x1) (h2 : resA P st r2 = some x2) (e1 : expo st x1 = some y1) (e2 : expo st x2 = some y2) : endL P f fn (e, st) = some (.tup [y1, y2]) := by
  have h : finishF P f fn st = some (.tup [y1, y2]) := by
    unfold finishF
    rw [hk, if_neg (by simp)]
    unfold finishA
    rw [hr]
    simp only [List.map_cons, List.map_nil, resA_eq, h1, h2, bnd, expoS_of e1, expoS_of e2, optAll, Option.map_some]
  rcases he with rfl | rfl <;> exact h
/-- The same, the first result read with the rows inside its rows. -/
theorem endL_twoD {P : Program} {f : Nat} {fn : Func} {st : St} {e : Ex} {r1 r2 : ResultVar} {x1 x2 y1 y2 : AV} (hk : Ext.keep f = false) (he : e = .ret ∨ e = .normal) (hr : fn.results.toList = [r1, r2])
    (h1 : resA P st r1 = some x1) (h2 : resA P st r2 = some x2) (e0 : expo st x1 = none) (e1 : expoD st x1 = some y1) (e2 : expo st x2 = some y2) : endL P f fn (e, st) = some (.tup [y1, y2]) := by
  have e1' : expoS st x1 = some y1 := (expoS_none e0).trans e1
  have h : finishF P f fn st = some (.tup [y1, y2]) := by
    unfold finishF
    rw [hk, if_neg (by simp)]
    unfold finishA
    rw [hr]
    simp only [List.map_cons, List.map_nil, resA_eq, h1, h2, bnd, e1', expoS_of e2, optAll, Option.map_some]
  rcases he with rfl | rfl <;> exact h
theorem endL_three {P : Program} {f : Nat} {fn : Func} {st : St} {e : Ex} {r1 r2 r3 : ResultVar} {x1 x2 x3 y1 y2 y3 : AV} (hk : Ext.keep f = false) (he : e = .ret ∨ e = .normal) (hr : fn.results.toList = [r1, r2, r3])
    (h1 : resA P st r1 = some x1) (h2 : resA P st r2 = some x2) (h3 : resA P st r3 = some x3) (e1 : expo st x1 = some y1) (e2 : expo st x2 = some y2) (e3 : expo st x3 = some y3) : endL P f fn (e, st) = some (.tup [y1, y2, y3]) := by
  have h : finishF P f fn st = some (.tup [y1, y2, y3]) := by
    unfold finishF
    rw [hk, if_neg (by simp)]
    unfold finishA
    rw [hr]
    simp only [List.map_cons, List.map_nil, resA_eq, h1, h2, h3, bnd, expoS_of e1, expoS_of e2, expoS_of e3, optAll, Option.map_some]
  rcases he with rfl | rfl <;> exact h
end
section
variable [Ext]
theorem evL_condB {P : Program} (c : Operand) (a b : Code) (st : St) : evL P (.cond c a b) st = onB (st.ev c) fun t => if t = true then evL P a st else evL P b st := by
  cases h : st.ev c with
  | v x =>
    cases x with
    | bool t => exact evL_cond P c a b st h
    | _ =>
      apply Option.ext
      intro r
      rw [evL_iff]
      constructor
      · rintro ⟨n, m, h'⟩
        cases m with
        | zero => simp [evC] at h'
        | succ m => simp [evC, h] at h'
      · intro h'; simp [onB] at h'
  | _ =>
    apply Option.ext
    intro r
    rw [evL_iff]
    constructor
    · rintro ⟨n, m, h'⟩
      cases m with
      | zero => simp [evC] at h'
      | succ m => simp [evC, h] at h'
    · intro h'; simp [onB] at h'
def gslot (ops : Array Oper) (j : Nat) : Option Nat := (ops[j]?).bind (·.dst)
/-- What a guard's slot says. -/
def onGd {α : Type} (x : AV) (want : Bool) (y n : Option α) : Option α :=
  match x with
  | .v (.bool b) => if b = want then y else n
  | .v _ => n
  | _ => none
def onS {α : Type} (d : Option Nat) (k : Nat → Option α) (n : Option α) : Option α :=
  match d with
  | some d => k d
  | none => n
@[congr] theorem onGd_congr {α : Type} {x x' : AV} {want : Bool} {y n : Option α} (h : x = x') : onGd x want y n = onGd x' want y n := by rw [h]
@[congr] theorem onS_congr {α : Type} {d d' : Option Nat} {k : Nat → Option α} {n : Option α} (h : d = d') : onS d k n = onS d' k n := by rw [h]
theorem onGd_true {α : Type} (b : Bool) (y n : Option α) : onGd (.v (.bool b)) true y n = if b = true then y else n := rfl
theorem onGd_false {α : Type} (b : Bool) (y n : Option α) : onGd (.v (.bool b)) false y n = if b = false then y else n := rfl
theorem onGd_undef {α : Type} (w : Bool) (y n : Option α) : onGd (.v undef) w y n = n := rfl
theorem onS_some {α : Type} (d : Nat) (k : Nat → Option α) (n : Option α) : onS (some d) k n = k d := rfl
theorem ev_guardS {P : Program} {call : Nat → List AV → Option AV} {ops : Array Oper} {st : St} {d : Option Nat} {T : Nat} {pos : String} {aft : Array Edge} (op : Op) (j : Nat) (want : Bool) :
    evOp P call ops ⟨d, op, T, pos, aft, some (j, want)⟩ st = onS (gslot ops j) (fun s => onGd (st.env s) want (evOp P call ops ⟨d, op, T, pos, aft, none⟩ st) (some (st.put d (.v undef)))) (some (st.put d (.v undef))) := by
  simp only [evOp, gv, gslot]
  cases (ops[j]?).bind (·.dst) with
  | none => simp [onS]
  | some s =>
    simp only [onS]
    cases st.env s with
    | v x => cases x <;> simp [onGd, opEff] <;> rename_i b <;> cases b <;> cases want <;> simp [opEff]
    | _ => rfl
end
section
variable {P : Program} {T : Nat} {k k1 : IntKind} {a b : Int}
theorem bin_add : binA P .add T (.v (.int k a)) (.v (.int k b)) = some (.v (.int k (k.wrap (a + b)))) := by simp [binA]
theorem bin_sub : binA P .sub T (.v (.int k a)) (.v (.int k b)) = some (.v (.int k (k.wrap (a - b)))) := by simp [binA]
theorem bin_mul : binA P .mul T (.v (.int k a)) (.v (.int k b)) = some (.v (.int k (k.wrap (a * b)))) := by simp [binA]
theorem bin_and : binA P .and T (.v (.int k a)) (.v (.int k b)) = some (.v (.int k (k.wrap (BitVec.ofInt k.bits a &&& BitVec.ofInt k.bits b).toNat))) := by simp [binA]
theorem bin_eql : binA P .eql T (.v (.int k a)) (.v (.int k b)) = some (.v (.bool (a == b))) := by simp [binA]
theorem bin_neq : binA P .neq T (.v (.int k a)) (.v (.int k b)) = some (.v (.bool (a != b))) := by simp [binA]
theorem bin_lss : binA P .lss T (.v (.int k a)) (.v (.int k b)) = some (.v (.bool (decide (a < b)))) := by simp [binA]
theorem bin_leq : binA P .leq T (.v (.int k a)) (.v (.int k b)) = some (.v (.bool (decide (a ≤ b)))) := by simp [binA]
theorem bin_gtr : binA P .gtr T (.v (.int k a)) (.v (.int k b)) = some (.v (.bool (decide (a > b)))) := by simp [binA]
theorem bin_geq : binA P .geq T (.v (.int k a)) (.v (.int k b)) = some (.v (.bool (decide (a ≥ b)))) := by simp [binA]
theorem bin_quo (h : b ≠ 0) : binA P .quo T (.v (.int k a)) (.v (.int k b)) = some (.v (.int k (k.wrap (a.tdiv b)))) := by simp [binA, h]
theorem bin_rem (h : b ≠ 0) : binA P .rem T (.v (.int k a)) (.v (.int k b)) = some (.v (.int k (a.tmod b))) := by simp [binA, h]
theorem bin_shr (h : ¬ b < 0) : binA P .shr T (.v (.int k a)) (.v (.int k1 b)) = some (.v (.int k (a.fdiv (2 ^ (min b.toNat k.bits))))) := by simp [binA, h]
theorem bin_shl (h : ¬ b < 0) : binA P .shl T (.v (.int k a)) (.v (.int k1 b)) = some (.v (.int k (k.wrap (a * 2 ^ (min b.toNat k.bits))))) := by simp [binA, h]
theorem conv_int {src dst : Nat} {n : Int} {k2 : IntKind} (h : intKind P dst = some k2) (h2 : intKind P src = some k1) : convA P src dst (.v (.int k n)) = some (.v (.int k2 (k2.wrap n))) := by simp [convA, h, h2]
end
theorem thenL_normal (s : St) (k : St → Option (Ex × St)) : thenL (.normal, s) k = k s := rfl
theorem thenL_ret (s : St) (k : St → Option (Ex × St)) : thenL (.ret, s) k = some (.ret, s) := rfl
theorem thenL_exit (i : Nat) (s : St) (k : St → Option (Ex × St)) : thenL (.exit i, s) k = some (.exit i, s) := rfl
theorem up_Root_at (r : Root) (i e : Nat) (x : Int) (h : i < 32) (he : e = i + 1) : upd (cRoot r) i [.v (.int .u8 x)] e = cRoot (r.set i x) := by
  subst he
  simp only [upd, cRoot, Vector.toList_set, List.map_set]
  rw [List.set_eq_take_append_cons_drop, if_pos (by simp [h])]
  simp
theorem up_Wide_at (r : Wide) (i e : Nat) (x : Int) (h : i < 4) (he : e = i + 1) : upd (cWide r) i [.v (.int .u64 x)] e = cWide (r.set i x) := by
  subst he
  simp only [upd, cWide, Vector.toList_set, List.map_set]
  rw [List.set_eq_take_append_cons_drop, if_pos (by simp [h])]
  simp
/-- A loop, by a measure. -/
theorem loop_main [Ext] {P : Program} {b : Code} (Inv : Nat → St → Prop) (Q : Ex → St → Prop)
    (step : ∀ n st, Inv n st → ∃ e st', evL P b st = some (e, st') ∧ ((e = .normal ∧ ∃ m, m < n ∧ Inv m st') ∨ (e ≠ .normal ∧ Q e st'))) : ∀ n st, Inv n st → ∃ e st', evL P (.loop b) st = some (e, st') ∧ e ≠ .normal ∧ Q e st' := by
  intro n
  induction n using Nat.strongRecOn with
  | _ n ih =>
    intro st h
    obtain ⟨e, s1, h1, h2⟩ := step n st h
    rw [evL_loop, h1]
    rcases h2 with ⟨rfl, m, hm, hi⟩ | ⟨hne, hq⟩
    · exact ih m hm s1 hi
    · refine ⟨e, s1, ?_, hne, hq⟩
      cases e with
      | normal => exact absurd rfl hne
      | _ => rfl
theorem use_loop [Ext] {P : Program} {b : Code} {st : St} {β : Type} {k : Ex × St → Option β} {r : β} (Inv : Nat → St → Prop) (Q : Ex → St → Prop) (n : Nat)
    (step : ∀ n st, Inv n st → ∃ e st', evL P b st = some (e, st') ∧ ((e = .normal ∧ ∃ m, m < n ∧ Inv m st') ∨ (e ≠ .normal ∧ Q e st')))
    (start : Inv n st) (rest : ∀ e st', Q e st' → k (e, st') = some r) : bnd (evL P (.loop b) st) k = some r := by
  obtain ⟨e, s1, h1, h2, h3⟩ := loop_main Inv Q step n st start
  rw [h1]; exact rest e s1 h3
theorem use_loopX [Ext] {P : Program} {b : Code} {st : St} {β : Type} {k : Ex × St → Option β} {R : β → Prop} (Inv : Nat → St → Prop) (Q : Ex → St → Prop) (n : Nat)
    (step : ∀ n st, Inv n st → ∃ e st', evL P b st = some (e, st') ∧ ((e = .normal ∧ ∃ m, m < n ∧ Inv m st') ∨ (e ≠ .normal ∧ Q e st')))
    (start : Inv n st) (rest : ∀ e st', Q e st' → ∃ r, k (e, st') = some r ∧ R r) : ∃ r, bnd (evL P (.loop b) st) k = some r ∧ R r := by
  obtain ⟨e, s1, h1, h2, h3⟩ := loop_main Inv Q step n st start
  rw [h1]; exact rest e s1 h3
theorem bnd_assoc {α β γ : Type} (x : Option α) (f : α → Option β) (g : β → Option γ) : bnd (bnd x f) g = bnd x fun a => bnd (f a) g := by cases x <;> rfl
/-- One round that goes on. -/
theorem go_on [Ext] {P : Program} {b : Code} {st st' : St} {n : Nat} {Inv : Nat → St → Prop} {Q : Ex → St → Prop} (h : evL P b st = some (.normal, st')) (m : Nat) (hm : m < n) (hi : Inv m st') :
    ∃ e st', evL P b st = some (e, st') ∧ ((e = .normal ∧ ∃ m, m < n ∧ Inv m st') ∨ (e ≠ .normal ∧ Q e st')) := ⟨_, _, h, .inl ⟨rfl, m, hm, hi⟩⟩
theorem go_out [Ext] {P : Program} {b : Code} {st st' : St} {e : Ex} {n : Nat} {Inv : Nat → St → Prop} {Q : Ex → St → Prop} (h : evL P b st = some (e, st')) (he : e ≠ .normal) (hq : Q e st') :
    ∃ e st', evL P b st = some (e, st') ∧ ((e = .normal ∧ ∃ m, m < n ∧ Inv m st') ∨ (e ≠ .normal ∧ Q e st')) := ⟨_, _, h, .inr ⟨he, hq⟩⟩
def csInt (l : List Int) : List AV := l.flatMap cInt
@[simp] theorem len_csInt (l : List (Int)) : (csInt l).length = l.length * 1 := by
  induction l with
  | nil => rfl
  | cons x l ih => simp only [csInt, List.flatMap_cons, List.length_append, len_cInt, List.length_cons] at *; omega
theorem flat_csInt (l : List (Int)) : ∀ x ∈ csInt l, Flat x := by
  intro x hx
  obtain ⟨y, _, hy⟩ := List.mem_flatMap.1 hx
  exact flat_cInt y x hy
theorem rd_csInt (l : List (Int)) (i : Nat) (h : i < l.length) : rd (csInt l) (i * 1) 1 = cInt l[i] := rd_flatMap cInt 1 (len_cInt) l i h

def csU64 (l : List Int) : List AV := l.flatMap cU64
@[simp] theorem len_csU64 (l : List (Int)) : (csU64 l).length = l.length * 1 := by
  induction l with
  | nil => rfl
  | cons x l ih => simp only [csU64, List.flatMap_cons, List.length_append, len_cU64, List.length_cons] at *; omega
theorem flat_csU64 (l : List (Int)) : ∀ x ∈ csU64 l, Flat x := by
  intro x hx
  obtain ⟨y, _, hy⟩ := List.mem_flatMap.1 hx
  exact flat_cU64 y x hy
theorem rd_csU64 (l : List (Int)) (i : Nat) (h : i < l.length) : rd (csU64 l) (i * 1) 1 = cU64 l[i] := rd_flatMap cU64 1 (len_cU64) l i h

def csRoot (l : List Root) : List AV := l.flatMap cRoot
@[simp] theorem len_csRoot (l : List (Root)) : (csRoot l).length = l.length * 32 := by
  induction l with
  | nil => rfl
  | cons x l ih => simp only [csRoot, List.flatMap_cons, List.length_append, len_cRoot, List.length_cons] at *; omega
theorem flat_csRoot (l : List (Root)) : ∀ x ∈ csRoot l, Flat x := by
  intro x hx
  obtain ⟨y, _, hy⟩ := List.mem_flatMap.1 hx
  exact flat_cRoot y x hy
theorem rd_csRoot (l : List (Root)) (i : Nat) (h : i < l.length) : rd (csRoot l) (i * 32) 32 = cRoot l[i] := rd_flatMap cRoot 32 (len_cRoot) l i h

structure Ckpt where
  epoch : Int
  root : Root

def cCkpt (s : Ckpt) : List AV := cU64 s.epoch ++ (cRoot s.root)
@[simp] theorem len_cCkpt (s : Ckpt) : (cCkpt s).length = 33 := by simp [cCkpt]
theorem flat_cCkpt (s : Ckpt) : ∀ x ∈ cCkpt s, Flat x := by
  intro x hx
  simp only [cCkpt, List.mem_append, List.mem_singleton] at hx
  rcases hx with hx | hx
  · (exact flat_cU64 _ _ hx)
  · (exact flat_cRoot _ _ hx)
theorem mem_cCkpt (s : Ckpt) : ∀ x ∈ cCkpt s, MemFree x := by
  intro x hx
  simp only [cCkpt, List.mem_append] at hx
  rcases hx with hx | hx
  · exact mem_cU64 _ _ hx
  · exact mem_cRoot _ _ hx
theorem get_Ckpt_epoch (s : Ckpt) : (cCkpt s)[0]? = some (.v (.int .u64 s.epoch)) := rfl
theorem up_Ckpt_epoch (s : Ckpt) (x : Int) : upd (cCkpt s) 0 ([.v (.int .u64 x)]) 1 = cCkpt { s with epoch := x } := up_head (len_cU64 _)
theorem rd_Ckpt_root (s : Ckpt) : rd (cCkpt s) 1 32 = cRoot s.root := (rd_skip rfl (len_cU64 _)).trans (rd_last (len_cRoot _))
theorem up_Ckpt_root (s : Ckpt) (x : Root) : upd (cCkpt s) 1 (cRoot x) 33 = cCkpt { s with root := x } := (up_skip rfl rfl (len_cU64 _)).trans (appR (up_last (len_cRoot _)))
def zCkpt : Ckpt := ⟨0, zRoot⟩
def vCkpt : List Value := [.int .u64 0] ++ (vRoot)
theorem vCkpt_c : vCkpt.map AV.v = cCkpt zCkpt := by simp only [vCkpt, List.map_append, List.map_cons, List.map_nil, vRoot_c, vWide_c]; rfl
def lCkpt : List Bool := [true] ++ (lRoot)
theorem leafy_Ckpt (a b : Ckpt) : Leafy lCkpt (cCkpt a) (cCkpt b) := (leafy_app (show Leafy [true] [_] [_] from ⟨rfl, trivial⟩) (leafy_root _ _))
theorem cCkpt_inj (a b : Ckpt) : cCkpt a = cCkpt b ↔ a = b := by
  refine ⟨fun h => ?_, fun h => by rw [h]⟩
  cases a; cases b
  simp only [cCkpt] at h
  obtain ⟨h0, h⟩ := List.append_inj h (by simp)
  have e0 := (cU64_inj _ _).1 h0
  have e1 := (cRoot_inj _ _).1 h
  subst e0 e1
  rfl
theorem rd_Ckpt_all (s : Ckpt) : rd (cCkpt s) 0 33 = cCkpt s := rd_last (len_cCkpt _)
theorem up_Ckpt_all (s x : Ckpt) : upd (cCkpt s) 0 (cCkpt x) 33 = cCkpt x := up_last (len_cCkpt _)

structure Pulled where
  pj : Ckpt
  pf : Ckpt

def cPulled (s : Pulled) : List AV := cCkpt s.pj ++ (cCkpt s.pf)
@[simp] theorem len_cPulled (s : Pulled) : (cPulled s).length = 66 := by simp [cPulled]
theorem flat_cPulled (s : Pulled) : ∀ x ∈ cPulled s, Flat x := by
  intro x hx
  simp only [cPulled, List.mem_append, List.mem_singleton] at hx
  rcases hx with hx | hx
  · (exact flat_cCkpt _ _ hx)
  · (exact flat_cCkpt _ _ hx)
theorem mem_cPulled (s : Pulled) : ∀ x ∈ cPulled s, MemFree x := by
  intro x hx
  simp only [cPulled, List.mem_append] at hx
  rcases hx with hx | hx
  · exact mem_cCkpt _ _ hx
  · exact mem_cCkpt _ _ hx
theorem rd_Pulled_pj (s : Pulled) : rd (cPulled s) 0 33 = cCkpt s.pj := rd_head (len_cCkpt _)
theorem up_Pulled_pj (s : Pulled) (x : Ckpt) : upd (cPulled s) 0 (cCkpt x) 33 = cPulled { s with pj := x } := up_head (len_cCkpt _)
theorem get_Pulled_pj_epoch (s : Pulled) : (cPulled s)[0]? = some (.v (.int .u64 s.pj.epoch)) := (get_in (by rw [len_cCkpt]; decide)).trans (get_Ckpt_epoch _)
theorem up_Pulled_pj_epoch (s : Pulled) (x : Int) : upd (cPulled s) 0 ([.v (.int .u64 x)]) 1 = cPulled { s with pj := { s.pj with epoch := x } } := (up_in (by rw [len_cCkpt]; decide)).trans (appL (up_Ckpt_epoch _ x))
theorem rd_Pulled_pj_root (s : Pulled) : rd (cPulled s) 1 32 = cRoot s.pj.root := (rd_in (by rw [len_cCkpt]; decide)).trans (rd_Ckpt_root _)
theorem up_Pulled_pj_root (s : Pulled) (x : Root) : upd (cPulled s) 1 (cRoot x) 33 = cPulled { s with pj := { s.pj with root := x } } := (up_in (by rw [len_cCkpt]; decide)).trans (appL (up_Ckpt_root _ x))
theorem rd_Pulled_pf (s : Pulled) : rd (cPulled s) 33 33 = cCkpt s.pf := (rd_skip rfl (len_cCkpt _)).trans (rd_last (len_cCkpt _))
theorem up_Pulled_pf (s : Pulled) (x : Ckpt) : upd (cPulled s) 33 (cCkpt x) 66 = cPulled { s with pf := x } := (up_skip rfl rfl (len_cCkpt _)).trans (appR (up_last (len_cCkpt _)))
theorem get_Pulled_pf_epoch (s : Pulled) : (cPulled s)[33]? = some (.v (.int .u64 s.pf.epoch)) := (get_skip rfl (len_cCkpt _)).trans (get_Ckpt_epoch _)
theorem up_Pulled_pf_epoch (s : Pulled) (x : Int) : upd (cPulled s) 33 ([.v (.int .u64 x)]) 34 = cPulled { s with pf := { s.pf with epoch := x } } := (up_skip rfl rfl (len_cCkpt _)).trans (appR (up_Ckpt_epoch _ x))
theorem rd_Pulled_pf_root (s : Pulled) : rd (cPulled s) 34 32 = cRoot s.pf.root := (rd_skip rfl (len_cCkpt _)).trans (rd_Ckpt_root _)
theorem up_Pulled_pf_root (s : Pulled) (x : Root) : upd (cPulled s) 34 (cRoot x) 66 = cPulled { s with pf := { s.pf with root := x } } := (up_skip rfl rfl (len_cCkpt _)).trans (appR (up_Ckpt_root _ x))
def zPulled : Pulled := ⟨zCkpt, zCkpt⟩
def vPulled : List Value := vCkpt ++ (vCkpt)
theorem vPulled_c : vPulled.map AV.v = cPulled zPulled := by simp only [vPulled, List.map_append, List.map_cons, List.map_nil, vRoot_c, vWide_c, vCkpt_c]; rfl
def lPulled : List Bool := lCkpt ++ (lCkpt)
theorem leafy_Pulled (a b : Pulled) : Leafy lPulled (cPulled a) (cPulled b) := (leafy_app (leafy_Ckpt _ _) (leafy_Ckpt _ _))
theorem cPulled_inj (a b : Pulled) : cPulled a = cPulled b ↔ a = b := by
  refine ⟨fun h => ?_, fun h => by rw [h]⟩
  cases a; cases b
  simp only [cPulled] at h
  obtain ⟨h0, h⟩ := List.append_inj h (by simp)
  have e0 := (cCkpt_inj _ _).1 h0
  have e1 := (cCkpt_inj _ _).1 h
  subst e0 e1
  rfl
theorem rd_Pulled_all (s : Pulled) : rd (cPulled s) 0 66 = cPulled s := rd_last (len_cPulled _)
theorem up_Pulled_all (s x : Pulled) : upd (cPulled s) 0 (cPulled x) 66 = cPulled x := up_last (len_cPulled _)

structure Block where
  pulled : Pulled
  slot : Int
  root : Root
  parent : Root
  payload : Root
  diff : Wide
  pdiff : Wide
  just : Ckpt
  fin : Ckpt
  timely : Bool

def cBlock (s : Block) : List AV := cPulled s.pulled ++ (cU64 s.slot ++ (cRoot s.root ++ (cRoot s.parent ++ (cRoot s.payload ++ (cWide s.diff ++ (cWide s.pdiff ++ (cCkpt s.just ++ (cCkpt s.fin ++ (cBool s.timely)))))))))
@[simp] theorem len_cBlock (s : Block) : (cBlock s).length = 238 := by simp [cBlock]
theorem flat_cBlock (s : Block) : ∀ x ∈ cBlock s, Flat x := by
  intro x hx
  simp only [cBlock, List.mem_append, List.mem_singleton] at hx
  rcases hx with hx | hx | hx | hx | hx | hx | hx | hx | hx | hx
  · (exact flat_cPulled _ _ hx)
  · (exact flat_cU64 _ _ hx)
  · (exact flat_cRoot _ _ hx)
  · (exact flat_cRoot _ _ hx)
  · (exact flat_cRoot _ _ hx)
  · (exact flat_cWide _ _ hx)
  · (exact flat_cWide _ _ hx)
  · (exact flat_cCkpt _ _ hx)
  · (exact flat_cCkpt _ _ hx)
  · (exact flat_cBool _ _ hx)
theorem mem_cBlock (s : Block) : ∀ x ∈ cBlock s, MemFree x := by
  intro x hx
  simp only [cBlock, List.mem_append] at hx
  rcases hx with hx | hx | hx | hx | hx | hx | hx | hx | hx | hx
  · exact mem_cPulled _ _ hx
  · exact mem_cU64 _ _ hx
  · exact mem_cRoot _ _ hx
  · exact mem_cRoot _ _ hx
  · exact mem_cRoot _ _ hx
  · exact mem_cWide _ _ hx
  · exact mem_cWide _ _ hx
  · exact mem_cCkpt _ _ hx
  · exact mem_cCkpt _ _ hx
  · exact mem_cBool _ _ hx
theorem rd_Block_pulled (s : Block) : rd (cBlock s) 0 66 = cPulled s.pulled := rd_head (len_cPulled _)
theorem up_Block_pulled (s : Block) (x : Pulled) : upd (cBlock s) 0 (cPulled x) 66 = cBlock { s with pulled := x } := up_head (len_cPulled _)
theorem rd_Block_pulled_pj (s : Block) : rd (cBlock s) 0 33 = cCkpt s.pulled.pj := (rd_in (by rw [len_cPulled]; decide)).trans (rd_Pulled_pj _)
theorem up_Block_pulled_pj (s : Block) (x : Ckpt) : upd (cBlock s) 0 (cCkpt x) 33 = cBlock { s with pulled := { s.pulled with pj := x } } := (up_in (by rw [len_cPulled]; decide)).trans (appL (up_Pulled_pj _ x))
theorem get_Block_pulled_pj_epoch (s : Block) : (cBlock s)[0]? = some (.v (.int .u64 s.pulled.pj.epoch)) := (get_in (by rw [len_cPulled]; decide)).trans (get_Pulled_pj_epoch _)
theorem up_Block_pulled_pj_epoch (s : Block) (x : Int) : upd (cBlock s) 0 ([.v (.int .u64 x)]) 1 = cBlock { s with pulled := { s.pulled with pj := { s.pulled.pj with epoch := x } } } := (up_in (by rw [len_cPulled]; decide)).trans (appL (up_Pulled_pj_epoch _ x))
theorem rd_Block_pulled_pj_root (s : Block) : rd (cBlock s) 1 32 = cRoot s.pulled.pj.root := (rd_in (by rw [len_cPulled]; decide)).trans (rd_Pulled_pj_root _)
theorem up_Block_pulled_pj_root (s : Block) (x : Root) : upd (cBlock s) 1 (cRoot x) 33 = cBlock { s with pulled := { s.pulled with pj := { s.pulled.pj with root := x } } } := (up_in (by rw [len_cPulled]; decide)).trans (appL (up_Pulled_pj_root _ x))
theorem rd_Block_pulled_pf (s : Block) : rd (cBlock s) 33 33 = cCkpt s.pulled.pf := (rd_in (by rw [len_cPulled]; decide)).trans (rd_Pulled_pf _)
theorem up_Block_pulled_pf (s : Block) (x : Ckpt) : upd (cBlock s) 33 (cCkpt x) 66 = cBlock { s with pulled := { s.pulled with pf := x } } := (up_in (by rw [len_cPulled]; decide)).trans (appL (up_Pulled_pf _ x))
theorem get_Block_pulled_pf_epoch (s : Block) : (cBlock s)[33]? = some (.v (.int .u64 s.pulled.pf.epoch)) := (get_in (by rw [len_cPulled]; decide)).trans (get_Pulled_pf_epoch _)
theorem up_Block_pulled_pf_epoch (s : Block) (x : Int) : upd (cBlock s) 33 ([.v (.int .u64 x)]) 34 = cBlock { s with pulled := { s.pulled with pf := { s.pulled.pf with epoch := x } } } := (up_in (by rw [len_cPulled]; decide)).trans (appL (up_Pulled_pf_epoch _ x))
theorem rd_Block_pulled_pf_root (s : Block) : rd (cBlock s) 34 32 = cRoot s.pulled.pf.root := (rd_in (by rw [len_cPulled]; decide)).trans (rd_Pulled_pf_root _)
theorem up_Block_pulled_pf_root (s : Block) (x : Root) : upd (cBlock s) 34 (cRoot x) 66 = cBlock { s with pulled := { s.pulled with pf := { s.pulled.pf with root := x } } } := (up_in (by rw [len_cPulled]; decide)).trans (appL (up_Pulled_pf_root _ x))
theorem get_Block_slot (s : Block) : (cBlock s)[66]? = some (.v (.int .u64 s.slot)) := (get_skip rfl (len_cPulled _)).trans (rfl)
theorem up_Block_slot (s : Block) (x : Int) : upd (cBlock s) 66 ([.v (.int .u64 x)]) 67 = cBlock { s with slot := x } := (up_skip rfl rfl (len_cPulled _)).trans (appR (up_head (len_cU64 _)))
theorem rd_Block_root (s : Block) : rd (cBlock s) 67 32 = cRoot s.root := (rd_skip rfl (len_cPulled _)).trans ((rd_skip rfl (len_cU64 _)).trans (rd_head (len_cRoot _)))
theorem up_Block_root (s : Block) (x : Root) : upd (cBlock s) 67 (cRoot x) 99 = cBlock { s with root := x } := (up_skip rfl rfl (len_cPulled _)).trans (appR ((up_skip rfl rfl (len_cU64 _)).trans (appR (up_head (len_cRoot _)))))
theorem rd_Block_parent (s : Block) : rd (cBlock s) 99 32 = cRoot s.parent := (rd_skip rfl (len_cPulled _)).trans ((rd_skip rfl (len_cU64 _)).trans ((rd_skip rfl (len_cRoot _)).trans (rd_head (len_cRoot _))))
theorem up_Block_parent (s : Block) (x : Root) : upd (cBlock s) 99 (cRoot x) 131 = cBlock { s with parent := x } := (up_skip rfl rfl (len_cPulled _)).trans (appR ((up_skip rfl rfl (len_cU64 _)).trans (appR ((up_skip rfl rfl (len_cRoot _)).trans (appR (up_head (len_cRoot _)))))))
theorem rd_Block_payload (s : Block) : rd (cBlock s) 131 32 = cRoot s.payload := (rd_skip rfl (len_cPulled _)).trans ((rd_skip rfl (len_cU64 _)).trans ((rd_skip rfl (len_cRoot _)).trans ((rd_skip rfl (len_cRoot _)).trans (rd_head (len_cRoot _)))))
theorem up_Block_payload (s : Block) (x : Root) : upd (cBlock s) 131 (cRoot x) 163 = cBlock { s with payload := x } := (up_skip rfl rfl (len_cPulled _)).trans (appR ((up_skip rfl rfl (len_cU64 _)).trans (appR ((up_skip rfl rfl (len_cRoot _)).trans (appR ((up_skip rfl rfl (len_cRoot _)).trans (appR (up_head (len_cRoot _)))))))))
theorem rd_Block_diff (s : Block) : rd (cBlock s) 163 4 = cWide s.diff := (rd_skip rfl (len_cPulled _)).trans ((rd_skip rfl (len_cU64 _)).trans ((rd_skip rfl (len_cRoot _)).trans ((rd_skip rfl (len_cRoot _)).trans ((rd_skip rfl (len_cRoot _)).trans (rd_head (len_cWide _))))))
theorem up_Block_diff (s : Block) (x : Wide) : upd (cBlock s) 163 (cWide x) 167 = cBlock { s with diff := x } := (up_skip rfl rfl (len_cPulled _)).trans (appR ((up_skip rfl rfl (len_cU64 _)).trans (appR ((up_skip rfl rfl (len_cRoot _)).trans (appR ((up_skip rfl rfl (len_cRoot _)).trans (appR ((up_skip rfl rfl (len_cRoot _)).trans (appR (up_head (len_cWide _)))))))))))
theorem rd_Block_pdiff (s : Block) : rd (cBlock s) 167 4 = cWide s.pdiff := (rd_skip rfl (len_cPulled _)).trans ((rd_skip rfl (len_cU64 _)).trans ((rd_skip rfl (len_cRoot _)).trans ((rd_skip rfl (len_cRoot _)).trans ((rd_skip rfl (len_cRoot _)).trans ((rd_skip rfl (len_cWide _)).trans (rd_head (len_cWide _)))))))
theorem up_Block_pdiff (s : Block) (x : Wide) : upd (cBlock s) 167 (cWide x) 171 = cBlock { s with pdiff := x } := (up_skip rfl rfl (len_cPulled _)).trans (appR ((up_skip rfl rfl (len_cU64 _)).trans (appR ((up_skip rfl rfl (len_cRoot _)).trans (appR ((up_skip rfl rfl (len_cRoot _)).trans (appR ((up_skip rfl rfl (len_cRoot _)).trans (appR ((up_skip rfl rfl (len_cWide _)).trans (appR (up_head (len_cWide _)))))))))))))
theorem rd_Block_just (s : Block) : rd (cBlock s) 171 33 = cCkpt s.just := (rd_skip rfl (len_cPulled _)).trans ((rd_skip rfl (len_cU64 _)).trans ((rd_skip rfl (len_cRoot _)).trans ((rd_skip rfl (len_cRoot _)).trans ((rd_skip rfl (len_cRoot _)).trans ((rd_skip rfl (len_cWide _)).trans ((rd_skip rfl (len_cWide _)).trans (rd_head (len_cCkpt _))))))))
theorem up_Block_just (s : Block) (x : Ckpt) : upd (cBlock s) 171 (cCkpt x) 204 = cBlock { s with just := x } := (up_skip rfl rfl (len_cPulled _)).trans (appR ((up_skip rfl rfl (len_cU64 _)).trans (appR ((up_skip rfl rfl (len_cRoot _)).trans (appR ((up_skip rfl rfl (len_cRoot _)).trans (appR ((up_skip rfl rfl (len_cRoot _)).trans (appR ((up_skip rfl rfl (len_cWide _)).trans (appR ((up_skip rfl rfl (len_cWide _)).trans (appR (up_head (len_cCkpt _)))))))))))))))
theorem get_Block_just_epoch (s : Block) : (cBlock s)[171]? = some (.v (.int .u64 s.just.epoch)) := (get_skip rfl (len_cPulled _)).trans ((get_skip rfl (len_cU64 _)).trans ((get_skip rfl (len_cRoot _)).trans ((get_skip rfl (len_cRoot _)).trans ((get_skip rfl (len_cRoot _)).trans ((get_skip rfl (len_cWide _)).trans ((get_skip rfl (len_cWide _)).trans ((get_in (by rw [len_cCkpt]; decide)).trans (get_Ckpt_epoch _))))))))
theorem up_Block_just_epoch (s : Block) (x : Int) : upd (cBlock s) 171 ([.v (.int .u64 x)]) 172 = cBlock { s with just := { s.just with epoch := x } } := (up_skip rfl rfl (len_cPulled _)).trans (appR ((up_skip rfl rfl (len_cU64 _)).trans (appR ((up_skip rfl rfl (len_cRoot _)).trans (appR ((up_skip rfl rfl (len_cRoot _)).trans (appR ((up_skip rfl rfl (len_cRoot _)).trans (appR ((up_skip rfl rfl (len_cWide _)).trans (appR ((up_skip rfl rfl (len_cWide _)).trans (appR ((up_in (by rw [len_cCkpt]; decide)).trans (appL (up_Ckpt_epoch _ x))))))))))))))))
theorem rd_Block_just_root (s : Block) : rd (cBlock s) 172 32 = cRoot s.just.root := (rd_skip rfl (len_cPulled _)).trans ((rd_skip rfl (len_cU64 _)).trans ((rd_skip rfl (len_cRoot _)).trans ((rd_skip rfl (len_cRoot _)).trans ((rd_skip rfl (len_cRoot _)).trans ((rd_skip rfl (len_cWide _)).trans ((rd_skip rfl (len_cWide _)).trans ((rd_in (by rw [len_cCkpt]; decide)).trans (rd_Ckpt_root _))))))))
theorem up_Block_just_root (s : Block) (x : Root) : upd (cBlock s) 172 (cRoot x) 204 = cBlock { s with just := { s.just with root := x } } := (up_skip rfl rfl (len_cPulled _)).trans (appR ((up_skip rfl rfl (len_cU64 _)).trans (appR ((up_skip rfl rfl (len_cRoot _)).trans (appR ((up_skip rfl rfl (len_cRoot _)).trans (appR ((up_skip rfl rfl (len_cRoot _)).trans (appR ((up_skip rfl rfl (len_cWide _)).trans (appR ((up_skip rfl rfl (len_cWide _)).trans (appR ((up_in (by rw [len_cCkpt]; decide)).trans (appL (up_Ckpt_root _ x))))))))))))))))
theorem rd_Block_fin (s : Block) : rd (cBlock s) 204 33 = cCkpt s.fin := (rd_skip rfl (len_cPulled _)).trans ((rd_skip rfl (len_cU64 _)).trans ((rd_skip rfl (len_cRoot _)).trans ((rd_skip rfl (len_cRoot _)).trans ((rd_skip rfl (len_cRoot _)).trans ((rd_skip rfl (len_cWide _)).trans ((rd_skip rfl (len_cWide _)).trans ((rd_skip rfl (len_cCkpt _)).trans (rd_head (len_cCkpt _)))))))))
theorem up_Block_fin (s : Block) (x : Ckpt) : upd (cBlock s) 204 (cCkpt x) 237 = cBlock { s with fin := x } := (up_skip rfl rfl (len_cPulled _)).trans (appR ((up_skip rfl rfl (len_cU64 _)).trans (appR ((up_skip rfl rfl (len_cRoot _)).trans (appR ((up_skip rfl rfl (len_cRoot _)).trans (appR ((up_skip rfl rfl (len_cRoot _)).trans (appR ((up_skip rfl rfl (len_cWide _)).trans (appR ((up_skip rfl rfl (len_cWide _)).trans (appR ((up_skip rfl rfl (len_cCkpt _)).trans (appR (up_head (len_cCkpt _)))))))))))))))))
theorem get_Block_fin_epoch (s : Block) : (cBlock s)[204]? = some (.v (.int .u64 s.fin.epoch)) := (get_skip rfl (len_cPulled _)).trans ((get_skip rfl (len_cU64 _)).trans ((get_skip rfl (len_cRoot _)).trans ((get_skip rfl (len_cRoot _)).trans ((get_skip rfl (len_cRoot _)).trans ((get_skip rfl (len_cWide _)).trans ((get_skip rfl (len_cWide _)).trans ((get_skip rfl (len_cCkpt _)).trans ((get_in (by rw [len_cCkpt]; decide)).trans (get_Ckpt_epoch _)))))))))
theorem up_Block_fin_epoch (s : Block) (x : Int) : upd (cBlock s) 204 ([.v (.int .u64 x)]) 205 = cBlock { s with fin := { s.fin with epoch := x } } := (up_skip rfl rfl (len_cPulled _)).trans (appR ((up_skip rfl rfl (len_cU64 _)).trans (appR ((up_skip rfl rfl (len_cRoot _)).trans (appR ((up_skip rfl rfl (len_cRoot _)).trans (appR ((up_skip rfl rfl (len_cRoot _)).trans (appR ((up_skip rfl rfl (len_cWide _)).trans (appR ((up_skip rfl rfl (len_cWide _)).trans (appR ((up_skip rfl rfl (len_cCkpt _)).trans (appR ((up_in (by rw [len_cCkpt]; decide)).trans (appL (up_Ckpt_epoch _ x))))))))))))))))))
theorem rd_Block_fin_root (s : Block) : rd (cBlock s) 205 32 = cRoot s.fin.root := (rd_skip rfl (len_cPulled _)).trans ((rd_skip rfl (len_cU64 _)).trans ((rd_skip rfl (len_cRoot _)).trans ((rd_skip rfl (len_cRoot _)).trans ((rd_skip rfl (len_cRoot _)).trans ((rd_skip rfl (len_cWide _)).trans ((rd_skip rfl (len_cWide _)).trans ((rd_skip rfl (len_cCkpt _)).trans ((rd_in (by rw [len_cCkpt]; decide)).trans (rd_Ckpt_root _)))))))))
theorem up_Block_fin_root (s : Block) (x : Root) : upd (cBlock s) 205 (cRoot x) 237 = cBlock { s with fin := { s.fin with root := x } } := (up_skip rfl rfl (len_cPulled _)).trans (appR ((up_skip rfl rfl (len_cU64 _)).trans (appR ((up_skip rfl rfl (len_cRoot _)).trans (appR ((up_skip rfl rfl (len_cRoot _)).trans (appR ((up_skip rfl rfl (len_cRoot _)).trans (appR ((up_skip rfl rfl (len_cWide _)).trans (appR ((up_skip rfl rfl (len_cWide _)).trans (appR ((up_skip rfl rfl (len_cCkpt _)).trans (appR ((up_in (by rw [len_cCkpt]; decide)).trans (appL (up_Ckpt_root _ x))))))))))))))))))
theorem get_Block_timely (s : Block) : (cBlock s)[237]? = some (.v (.bool s.timely)) := (get_skip rfl (len_cPulled _)).trans ((get_skip rfl (len_cU64 _)).trans ((get_skip rfl (len_cRoot _)).trans ((get_skip rfl (len_cRoot _)).trans ((get_skip rfl (len_cRoot _)).trans ((get_skip rfl (len_cWide _)).trans ((get_skip rfl (len_cWide _)).trans ((get_skip rfl (len_cCkpt _)).trans ((get_skip rfl (len_cCkpt _)).trans (rfl)))))))))
theorem up_Block_timely (s : Block) (x : Bool) : upd (cBlock s) 237 ([.v (.bool x)]) 238 = cBlock { s with timely := x } := (up_skip rfl rfl (len_cPulled _)).trans (appR ((up_skip rfl rfl (len_cU64 _)).trans (appR ((up_skip rfl rfl (len_cRoot _)).trans (appR ((up_skip rfl rfl (len_cRoot _)).trans (appR ((up_skip rfl rfl (len_cRoot _)).trans (appR ((up_skip rfl rfl (len_cWide _)).trans (appR ((up_skip rfl rfl (len_cWide _)).trans (appR ((up_skip rfl rfl (len_cCkpt _)).trans (appR ((up_skip rfl rfl (len_cCkpt _)).trans (appR (up_last (len_cBool _)))))))))))))))))))
def zBlock : Block := ⟨zPulled, 0, zRoot, zRoot, zRoot, zWide, zWide, zCkpt, zCkpt, false⟩
def vBlock : List Value := vPulled ++ ([.int .u64 0] ++ (vRoot ++ (vRoot ++ (vRoot ++ (vWide ++ (vWide ++ (vCkpt ++ (vCkpt ++ ([.bool false])))))))))
theorem vBlock_c : vBlock.map AV.v = cBlock zBlock := by simp only [vBlock, List.map_append, List.map_cons, List.map_nil, vRoot_c, vWide_c, vPulled_c, vCkpt_c]; rfl
def lBlock : List Bool := lPulled ++ ([true] ++ (lRoot ++ (lRoot ++ (lRoot ++ (lWide ++ (lWide ++ (lCkpt ++ (lCkpt ++ ([false])))))))))
theorem leafy_Block (a b : Block) : Leafy lBlock (cBlock a) (cBlock b) := (leafy_app (leafy_Pulled _ _) (leafy_app (show Leafy [true] [_] [_] from ⟨rfl, trivial⟩) (leafy_app (leafy_root _ _) (leafy_app (leafy_root _ _) (leafy_app (leafy_root _ _) (leafy_app (leafy_wide _ _) (leafy_app (leafy_wide _ _) (leafy_app (leafy_Ckpt _ _) (leafy_app (leafy_Ckpt _ _) (show Leafy [false] [_] [_] from trivial))))))))))
theorem cBlock_inj (a b : Block) : cBlock a = cBlock b ↔ a = b := by
  refine ⟨fun h => ?_, fun h => by rw [h]⟩
  cases a; cases b
  simp only [cBlock] at h
  obtain ⟨h0, h⟩ := List.append_inj h (by simp)
  obtain ⟨h1, h⟩ := List.append_inj h (by simp)
  obtain ⟨h2, h⟩ := List.append_inj h (by simp)
  obtain ⟨h3, h⟩ := List.append_inj h (by simp)
  obtain ⟨h4, h⟩ := List.append_inj h (by simp)
  obtain ⟨h5, h⟩ := List.append_inj h (by simp)
  obtain ⟨h6, h⟩ := List.append_inj h (by simp)
  obtain ⟨h7, h⟩ := List.append_inj h (by simp)
  obtain ⟨h8, h⟩ := List.append_inj h (by simp)
  have e0 := (cPulled_inj _ _).1 h0
  have e1 := (cU64_inj _ _).1 h1
  have e2 := (cRoot_inj _ _).1 h2
  have e3 := (cRoot_inj _ _).1 h3
  have e4 := (cRoot_inj _ _).1 h4
  have e5 := (cWide_inj _ _).1 h5
  have e6 := (cWide_inj _ _).1 h6
  have e7 := (cCkpt_inj _ _).1 h7
  have e8 := (cCkpt_inj _ _).1 h8
  have e9 := (cBool_inj _ _).1 h
  subst e0 e1 e2 e3 e4 e5 e6 e7 e8 e9
  rfl
theorem rd_Block_all (s : Block) : rd (cBlock s) 0 238 = cBlock s := rd_last (len_cBlock _)
theorem up_Block_all (s x : Block) : upd (cBlock s) 0 (cBlock x) 238 = cBlock x := up_last (len_cBlock _)

structure Node where
  block : Block
  up : Int
  status : Int

def cNode (s : Node) : List AV := cBlock s.block ++ (cInt s.up ++ (cInt s.status))
@[simp] theorem len_cNode (s : Node) : (cNode s).length = 240 := by simp [cNode]
theorem flat_cNode (s : Node) : ∀ x ∈ cNode s, Flat x := by
  intro x hx
  simp only [cNode, List.mem_append, List.mem_singleton] at hx
  rcases hx with hx | hx | hx
  · (exact flat_cBlock _ _ hx)
  · (exact flat_cInt _ _ hx)
  · (exact flat_cInt _ _ hx)
theorem mem_cNode (s : Node) : ∀ x ∈ cNode s, MemFree x := by
  intro x hx
  simp only [cNode, List.mem_append] at hx
  rcases hx with hx | hx | hx
  · exact mem_cBlock _ _ hx
  · exact mem_cInt _ _ hx
  · exact mem_cInt _ _ hx
theorem rd_Node_block (s : Node) : rd (cNode s) 0 238 = cBlock s.block := rd_head (len_cBlock _)
theorem up_Node_block (s : Node) (x : Block) : upd (cNode s) 0 (cBlock x) 238 = cNode { s with block := x } := up_head (len_cBlock _)
theorem rd_Node_block_pulled (s : Node) : rd (cNode s) 0 66 = cPulled s.block.pulled := (rd_in (by rw [len_cBlock]; decide)).trans (rd_Block_pulled _)
theorem up_Node_block_pulled (s : Node) (x : Pulled) : upd (cNode s) 0 (cPulled x) 66 = cNode { s with block := { s.block with pulled := x } } := (up_in (by rw [len_cBlock]; decide)).trans (appL (up_Block_pulled _ x))
theorem rd_Node_block_pulled_pj (s : Node) : rd (cNode s) 0 33 = cCkpt s.block.pulled.pj := (rd_in (by rw [len_cBlock]; decide)).trans (rd_Block_pulled_pj _)
theorem up_Node_block_pulled_pj (s : Node) (x : Ckpt) : upd (cNode s) 0 (cCkpt x) 33 = cNode { s with block := { s.block with pulled := { s.block.pulled with pj := x } } } := (up_in (by rw [len_cBlock]; decide)).trans (appL (up_Block_pulled_pj _ x))
theorem get_Node_block_pulled_pj_epoch (s : Node) : (cNode s)[0]? = some (.v (.int .u64 s.block.pulled.pj.epoch)) := (get_in (by rw [len_cBlock]; decide)).trans (get_Block_pulled_pj_epoch _)
theorem up_Node_block_pulled_pj_epoch (s : Node) (x : Int) : upd (cNode s) 0 ([.v (.int .u64 x)]) 1 = cNode { s with block := { s.block with pulled := { s.block.pulled with pj := { s.block.pulled.pj with epoch := x } } } } := (up_in (by rw [len_cBlock]; decide)).trans (appL (up_Block_pulled_pj_epoch _ x))
theorem rd_Node_block_pulled_pj_root (s : Node) : rd (cNode s) 1 32 = cRoot s.block.pulled.pj.root := (rd_in (by rw [len_cBlock]; decide)).trans (rd_Block_pulled_pj_root _)
theorem up_Node_block_pulled_pj_root (s : Node) (x : Root) : upd (cNode s) 1 (cRoot x) 33 = cNode { s with block := { s.block with pulled := { s.block.pulled with pj := { s.block.pulled.pj with root := x } } } } := (up_in (by rw [len_cBlock]; decide)).trans (appL (up_Block_pulled_pj_root _ x))
theorem rd_Node_block_pulled_pf (s : Node) : rd (cNode s) 33 33 = cCkpt s.block.pulled.pf := (rd_in (by rw [len_cBlock]; decide)).trans (rd_Block_pulled_pf _)
theorem up_Node_block_pulled_pf (s : Node) (x : Ckpt) : upd (cNode s) 33 (cCkpt x) 66 = cNode { s with block := { s.block with pulled := { s.block.pulled with pf := x } } } := (up_in (by rw [len_cBlock]; decide)).trans (appL (up_Block_pulled_pf _ x))
theorem get_Node_block_pulled_pf_epoch (s : Node) : (cNode s)[33]? = some (.v (.int .u64 s.block.pulled.pf.epoch)) := (get_in (by rw [len_cBlock]; decide)).trans (get_Block_pulled_pf_epoch _)
theorem up_Node_block_pulled_pf_epoch (s : Node) (x : Int) : upd (cNode s) 33 ([.v (.int .u64 x)]) 34 = cNode { s with block := { s.block with pulled := { s.block.pulled with pf := { s.block.pulled.pf with epoch := x } } } } := (up_in (by rw [len_cBlock]; decide)).trans (appL (up_Block_pulled_pf_epoch _ x))
theorem rd_Node_block_pulled_pf_root (s : Node) : rd (cNode s) 34 32 = cRoot s.block.pulled.pf.root := (rd_in (by rw [len_cBlock]; decide)).trans (rd_Block_pulled_pf_root _)
theorem up_Node_block_pulled_pf_root (s : Node) (x : Root) : upd (cNode s) 34 (cRoot x) 66 = cNode { s with block := { s.block with pulled := { s.block.pulled with pf := { s.block.pulled.pf with root := x } } } } := (up_in (by rw [len_cBlock]; decide)).trans (appL (up_Block_pulled_pf_root _ x))
theorem get_Node_block_slot (s : Node) : (cNode s)[66]? = some (.v (.int .u64 s.block.slot)) := (get_in (by rw [len_cBlock]; decide)).trans (get_Block_slot _)
theorem up_Node_block_slot (s : Node) (x : Int) : upd (cNode s) 66 ([.v (.int .u64 x)]) 67 = cNode { s with block := { s.block with slot := x } } := (up_in (by rw [len_cBlock]; decide)).trans (appL (up_Block_slot _ x))
theorem rd_Node_block_root (s : Node) : rd (cNode s) 67 32 = cRoot s.block.root := (rd_in (by rw [len_cBlock]; decide)).trans (rd_Block_root _)
theorem up_Node_block_root (s : Node) (x : Root) : upd (cNode s) 67 (cRoot x) 99 = cNode { s with block := { s.block with root := x } } := (up_in (by rw [len_cBlock]; decide)).trans (appL (up_Block_root _ x))
theorem rd_Node_block_parent (s : Node) : rd (cNode s) 99 32 = cRoot s.block.parent := (rd_in (by rw [len_cBlock]; decide)).trans (rd_Block_parent _)
theorem up_Node_block_parent (s : Node) (x : Root) : upd (cNode s) 99 (cRoot x) 131 = cNode { s with block := { s.block with parent := x } } := (up_in (by rw [len_cBlock]; decide)).trans (appL (up_Block_parent _ x))
theorem rd_Node_block_payload (s : Node) : rd (cNode s) 131 32 = cRoot s.block.payload := (rd_in (by rw [len_cBlock]; decide)).trans (rd_Block_payload _)
theorem up_Node_block_payload (s : Node) (x : Root) : upd (cNode s) 131 (cRoot x) 163 = cNode { s with block := { s.block with payload := x } } := (up_in (by rw [len_cBlock]; decide)).trans (appL (up_Block_payload _ x))
theorem rd_Node_block_diff (s : Node) : rd (cNode s) 163 4 = cWide s.block.diff := (rd_in (by rw [len_cBlock]; decide)).trans (rd_Block_diff _)
theorem up_Node_block_diff (s : Node) (x : Wide) : upd (cNode s) 163 (cWide x) 167 = cNode { s with block := { s.block with diff := x } } := (up_in (by rw [len_cBlock]; decide)).trans (appL (up_Block_diff _ x))
theorem rd_Node_block_pdiff (s : Node) : rd (cNode s) 167 4 = cWide s.block.pdiff := (rd_in (by rw [len_cBlock]; decide)).trans (rd_Block_pdiff _)
theorem up_Node_block_pdiff (s : Node) (x : Wide) : upd (cNode s) 167 (cWide x) 171 = cNode { s with block := { s.block with pdiff := x } } := (up_in (by rw [len_cBlock]; decide)).trans (appL (up_Block_pdiff _ x))
theorem rd_Node_block_just (s : Node) : rd (cNode s) 171 33 = cCkpt s.block.just := (rd_in (by rw [len_cBlock]; decide)).trans (rd_Block_just _)
theorem up_Node_block_just (s : Node) (x : Ckpt) : upd (cNode s) 171 (cCkpt x) 204 = cNode { s with block := { s.block with just := x } } := (up_in (by rw [len_cBlock]; decide)).trans (appL (up_Block_just _ x))
theorem get_Node_block_just_epoch (s : Node) : (cNode s)[171]? = some (.v (.int .u64 s.block.just.epoch)) := (get_in (by rw [len_cBlock]; decide)).trans (get_Block_just_epoch _)
theorem up_Node_block_just_epoch (s : Node) (x : Int) : upd (cNode s) 171 ([.v (.int .u64 x)]) 172 = cNode { s with block := { s.block with just := { s.block.just with epoch := x } } } := (up_in (by rw [len_cBlock]; decide)).trans (appL (up_Block_just_epoch _ x))
theorem rd_Node_block_just_root (s : Node) : rd (cNode s) 172 32 = cRoot s.block.just.root := (rd_in (by rw [len_cBlock]; decide)).trans (rd_Block_just_root _)
theorem up_Node_block_just_root (s : Node) (x : Root) : upd (cNode s) 172 (cRoot x) 204 = cNode { s with block := { s.block with just := { s.block.just with root := x } } } := (up_in (by rw [len_cBlock]; decide)).trans (appL (up_Block_just_root _ x))
theorem rd_Node_block_fin (s : Node) : rd (cNode s) 204 33 = cCkpt s.block.fin := (rd_in (by rw [len_cBlock]; decide)).trans (rd_Block_fin _)
theorem up_Node_block_fin (s : Node) (x : Ckpt) : upd (cNode s) 204 (cCkpt x) 237 = cNode { s with block := { s.block with fin := x } } := (up_in (by rw [len_cBlock]; decide)).trans (appL (up_Block_fin _ x))
theorem get_Node_block_fin_epoch (s : Node) : (cNode s)[204]? = some (.v (.int .u64 s.block.fin.epoch)) := (get_in (by rw [len_cBlock]; decide)).trans (get_Block_fin_epoch _)
theorem up_Node_block_fin_epoch (s : Node) (x : Int) : upd (cNode s) 204 ([.v (.int .u64 x)]) 205 = cNode { s with block := { s.block with fin := { s.block.fin with epoch := x } } } := (up_in (by rw [len_cBlock]; decide)).trans (appL (up_Block_fin_epoch _ x))
theorem rd_Node_block_fin_root (s : Node) : rd (cNode s) 205 32 = cRoot s.block.fin.root := (rd_in (by rw [len_cBlock]; decide)).trans (rd_Block_fin_root _)
theorem up_Node_block_fin_root (s : Node) (x : Root) : upd (cNode s) 205 (cRoot x) 237 = cNode { s with block := { s.block with fin := { s.block.fin with root := x } } } := (up_in (by rw [len_cBlock]; decide)).trans (appL (up_Block_fin_root _ x))
theorem get_Node_block_timely (s : Node) : (cNode s)[237]? = some (.v (.bool s.block.timely)) := (get_in (by rw [len_cBlock]; decide)).trans (get_Block_timely _)
theorem up_Node_block_timely (s : Node) (x : Bool) : upd (cNode s) 237 ([.v (.bool x)]) 238 = cNode { s with block := { s.block with timely := x } } := (up_in (by rw [len_cBlock]; decide)).trans (appL (up_Block_timely _ x))
theorem get_Node_up (s : Node) : (cNode s)[238]? = some (.v (.int .i64 s.up)) := (get_skip rfl (len_cBlock _)).trans (rfl)
theorem up_Node_up (s : Node) (x : Int) : upd (cNode s) 238 ([.v (.int .i64 x)]) 239 = cNode { s with up := x } := (up_skip rfl rfl (len_cBlock _)).trans (appR (up_head (len_cInt _)))
theorem get_Node_status (s : Node) : (cNode s)[239]? = some (.v (.int .i64 s.status)) := (get_skip rfl (len_cBlock _)).trans ((get_skip rfl (len_cInt _)).trans (rfl))
theorem up_Node_status (s : Node) (x : Int) : upd (cNode s) 239 ([.v (.int .i64 x)]) 240 = cNode { s with status := x } := (up_skip rfl rfl (len_cBlock _)).trans (appR ((up_skip rfl rfl (len_cInt _)).trans (appR (up_last (len_cInt _)))))
def zNode : Node := ⟨zBlock, 0, 0⟩
def vNode : List Value := vBlock ++ ([.int .i64 0] ++ ([.int .i64 0]))
theorem vNode_c : vNode.map AV.v = cNode zNode := by simp only [vNode, List.map_append, List.map_cons, List.map_nil, vRoot_c, vWide_c, vBlock_c]; rfl
def lNode : List Bool := lBlock ++ ([true] ++ ([true]))
theorem leafy_Node (a b : Node) : Leafy lNode (cNode a) (cNode b) := (leafy_app (leafy_Block _ _) (leafy_app (show Leafy [true] [_] [_] from ⟨rfl, trivial⟩) (show Leafy [true] [_] [_] from ⟨rfl, trivial⟩)))
theorem cNode_inj (a b : Node) : cNode a = cNode b ↔ a = b := by
  refine ⟨fun h => ?_, fun h => by rw [h]⟩
  cases a; cases b
  simp only [cNode] at h
  obtain ⟨h0, h⟩ := List.append_inj h (by simp)
  obtain ⟨h1, h⟩ := List.append_inj h (by simp)
  have e0 := (cBlock_inj _ _).1 h0
  have e1 := (cInt_inj _ _).1 h1
  have e2 := (cInt_inj _ _).1 h
  subst e0 e1 e2
  rfl
theorem rd_Node_all (s : Node) : rd (cNode s) 0 240 = cNode s := rd_last (len_cNode _)
theorem up_Node_all (s x : Node) : upd (cNode s) 0 (cNode x) 240 = cNode x := up_last (len_cNode _)

def csNode (l : List Node) : List AV := l.flatMap cNode
@[simp] theorem len_csNode (l : List (Node)) : (csNode l).length = l.length * 240 := by
  induction l with
  | nil => rfl
  | cons x l ih => simp only [csNode, List.flatMap_cons, List.length_append, len_cNode, List.length_cons] at *; omega
theorem flat_csNode (l : List (Node)) : ∀ x ∈ csNode l, Flat x := by
  intro x hx
  obtain ⟨y, _, hy⟩ := List.mem_flatMap.1 hx
  exact flat_cNode y x hy
theorem rd_csNode (l : List (Node)) (i : Nat) (h : i < l.length) : rd (csNode l) (i * 240) 240 = cNode l[i] := rd_flatMap cNode 240 (len_cNode) l i h

structure Tree where
  nodes : List Node

def cTree (s : Tree) : List AV := [.sl s.nodes.length (csNode s.nodes)]
@[simp] theorem len_cTree (s : Tree) : (cTree s).length = 1 := by simp [cTree]
theorem flat_cTree (s : Tree) : ∀ x ∈ cTree s, Flat x := by
  intro x hx
  simp only [cTree, List.mem_append, List.mem_singleton] at hx
  (subst hx; exact .sl _ _ (flat_csNode _))
theorem get_Tree_nodes (s : Tree) : (cTree s)[0]? = some (.sl s.nodes.length (csNode s.nodes)) := rfl
theorem up_Tree_nodes (s : Tree) (x : List Node) : upd (cTree s) 0 ([.sl x.length (csNode x)]) 1 = cTree { s with nodes := x } := up_last rfl
theorem rd_Tree_all (s : Tree) : rd (cTree s) 0 1 = cTree s := rd_last (len_cTree _)
theorem up_Tree_all (s x : Tree) : upd (cTree s) 0 (cTree x) 1 = cTree x := up_last (len_cTree _)

end Go.Ab
