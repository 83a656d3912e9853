/-
  Part Ab20 of the proof: an evaluator of the programs written in Lean once, and its soundness.
-/
import Derived.Test.YtdmpbhjcdnclbaaAb19
import Derived.WideShapes
set_option linter.all false
set_option linter.unusedVariables false
set_option linter.unusedSimpArgs false
namespace Go.Ab
open Go Go.WideShapes

/-- What the leaves of a value are: an integer's kind, or none for a bool. -/
def Kinds : List (Option IntKind) → List AV → Prop
  | [], [] => True
  | some k :: ks, .v (.int k' _) :: l => k = k' ∧ Kinds ks l
  | none :: ks, .v (.bool _) :: l => Kinds ks l
  | _, _ => False

theorem Kinds.app : ∀ {a b : List (Option IntKind)} {l : List AV}, Kinds (a ++ b) l → ∃ l1 l2, l = l1 ++ l2 ∧ Kinds a l1 ∧ Kinds b l2
  | [], b, l, h => ⟨[], l, rfl, trivial, h⟩
  | some k :: a, b, [], h => h.elim
  | none :: a, b, [], h => h.elim
  | some k :: a, b, x :: l, h => by
    match x, h with
    | .v (.int k' n), h =>
      obtain ⟨l1, l2, rfl, h1, h2⟩ := Kinds.app (a := a) h.2
      exact ⟨.v (.int k' n) :: l1, l2, rfl, ⟨h.1, h1⟩, h2⟩
  | none :: a, b, x :: l, h => by
    match x, h with
    | .v (.bool n), h =>
      obtain ⟨l1, l2, rfl, h1, h2⟩ := Kinds.app (a := a) h
      exact ⟨.v (.bool n) :: l1, l2, rfl, h1, h2⟩

theorem dec_ints (k : IntKind) : ∀ (n : Nat) (l : List AV), Kinds (List.replicate n (some k)) l → ∃ xs : List Int, xs.length = n ∧ l = xs.map fun x => .v (.int k x)
  | 0, [], _ => ⟨[], rfl, rfl⟩
  | 0, _ :: _, h => h.elim
  | n + 1, [], h => h.elim
  | n + 1, x :: l, h => by
    match x, h with
    | .v (.int k' m), h =>
      obtain ⟨rfl, h⟩ := h
      obtain ⟨xs, hl, rfl⟩ := dec_ints k n l h
      exact ⟨m :: xs, by simp [hl], rfl⟩
theorem dec_Root {l : List AV} (h : Kinds (List.replicate 32 (some .u8)) l) : ∃ r : Root, l = cRoot r := by
  obtain ⟨xs, hl, rfl⟩ := dec_ints _ _ _ h
  exact ⟨⟨xs.toArray, by simpa using hl⟩, by simp [cRoot]⟩
theorem dec_Wide {l : List AV} (h : Kinds (List.replicate 4 (some .u64)) l) : ∃ r : Wide, l = cWide r := by
  obtain ⟨xs, hl, rfl⟩ := dec_ints _ _ _ h
  exact ⟨⟨xs.toArray, by simpa using hl⟩, by simp [cWide]⟩
theorem dec_U64 {l : List AV} (h : Kinds [some .u64] l) : ∃ x : Int, l = cU64 x := by
  obtain ⟨xs, hl, rfl⟩ := dec_ints .u64 1 _ h
  match xs, hl with
  | [x], _ => exact ⟨x, rfl⟩
theorem dec_Int {l : List AV} (h : Kinds [some .i64] l) : ∃ x : Int, l = cInt x := by
  obtain ⟨xs, hl, rfl⟩ := dec_ints .i64 1 _ h
  match xs, hl with
  | [x], _ => exact ⟨x, rfl⟩
theorem dec_Bool {l : List AV} (h : Kinds [none] l) : ∃ x : Bool, l = cBool x := by
  match l, h with
  | .v (.bool b) :: [], _ => exact ⟨b, rfl⟩
  | .v (.bool b) :: _ :: _, h => exact h.elim

def kindAt (P : Program) (t : Nat) : Option (Option IntKind) :=
  match P.underlying t with
  | some (.int k) => some (some k)
  | some .bool => some none
  | _ => none
def isAggU (P : Program) (t : Nat) : Bool :=
  match P.underlying t with
  | some (.struct _) | some (.array _ _) => true
  | _ => false

theorem kinds_of {P : Program} {w : World} {r : Reach} {base : Nat} : ∀ (ts : List Nat) (ks : List (Option IntKind)) (cs : List Value), ts.mapM (kindAt P) = some ks → cs.length = ts.length →
    (∀ (i : Nat) (v : Value), cs[i]? = some v → ∃ u, ts[i]? = some u ∧ Cell.okWide P w r base u v) → Kinds ks (cs.map AV.v) ∧ (∀ v ∈ cs, v.oneCell' = true)
  | [], ks, [], h, _, _ => by
    simp at h; subst h
    exact ⟨trivial, by simp⟩
  | t :: ts, ks, c :: cs, h, hl, hc => by
    rw [List.mapM_cons] at h
    cases h1 : kindAt P t with
    | none => rw [h1] at h; cases h
    | some k =>
      cases h2 : ts.mapM (kindAt P) with
      | none => rw [h1, h2] at h; cases h
      | some ks' =>
        rw [h1, h2] at h
        obtain rfl : k :: ks' = ks := by simpa using h
        obtain ⟨u, hu, hok⟩ := hc 0 c rfl
        obtain rfl : t = u := by simpa using hu
        have ih := kinds_of ts ks' cs h2 (by simpa using hl) (fun i v hv => hc (i + 1) v (by simpa using hv))
        unfold kindAt at h1
        split at h1
        · rename_i k0 hk0
          have hv : Value.okWide P w r base t c := by unfold Value.okWide; rw [hk0]; exact hok
          obtain ⟨n, rfl⟩ := okWide_int hk0 hv
          obtain rfl : some k0 = k := by simpa using h1
          exact ⟨⟨rfl, ih.1⟩, by intro v hv; rcases List.mem_cons.1 hv with rfl | hv; rfl; exact ih.2 v hv⟩
        · rename_i hk0
          have hv : Value.okWide P w r base t c := by unfold Value.okWide; rw [hk0]; exact hok
          obtain ⟨n, rfl⟩ := okWide_bool hk0 hv
          obtain rfl : none = k := by simpa using h1
          exact ⟨ih.1, by intro v hv; rcases List.mem_cons.1 hv with rfl | hv; rfl; exact ih.2 v hv⟩
        · cases h1
  | [], _, _ :: _, _, hl, _ => by simp at hl
  | _ :: _, _, [], _, hl, _ => by simp at hl

theorem open_agg {P : Program} {w : World} {r : Reach} {base t : Nat} {v : Value} {ts : List Nat} {ks : List (Option IntKind)} (ha : isAggU P t = true) (hts : P.cellTypes P.depth t = some ts) (hks : ts.mapM (kindAt P) = some ks) (hn : P.cellsOf t = ts.length)
    (h : Value.okWide P w r base t v) : ∃ l : List AV, Kinds ks l ∧ ∀ C : Ctx, RelV C (.agg l) v := by
  have h' : ∃ cs, v = .agg cs ∧ cs.size = P.cellsOf t ∧ Row.okWide P w r base t cs := by
    unfold Value.okWide at h
    unfold isAggU at ha
    split at ha
    · rename_i hu; rw [hu] at h; exact h
    · rename_i hu; rw [hu] at h; exact h
    · cases ha
  obtain ⟨cs, rfl, hsz, ts', hts', hm, hc⟩ := h'
  obtain rfl : ts = ts' := by rw [hts] at hts'; simpa using hts'
  rw [hn] at hsz
  obtain ⟨k1, k2⟩ := kinds_of (P := P) (w := w) (r := r) (base := base) ts ks cs.toList hks (by simpa using hsz) (fun i v hv => by
    have hi : i < ts.length := by
      have := (List.getElem?_eq_some_iff.1 hv).1
      simp at this; omega
    obtain ⟨u, hu, hok⟩ := hc i v (by simpa using hv)
    rw [Nat.mod_eq_of_lt hi] at hu
    exact ⟨u, hu, hok⟩)
  refine ⟨_, k1, fun C => .agg _ _ (by simp) (fun i x y hx hy => ?_) (fun i y hy => k2 y (by
    rw [← Array.getElem?_toList] at hy
    exact List.mem_of_getElem? hy))⟩
  rw [List.getElem?_map, Array.getElem?_toList, hy] at hx
  simp at hx
  subst hx
  exact .v _

/-- The kinds of a type's leaves, where it is a struct or an array of integers and bools. -/
def kindsOf (P : Program) (t : Nat) : Option (List (Option IntKind)) :=
  if isAggU P t = true then
    match P.cellTypes P.depth t with
    | some ts => if P.cellsOf t = ts.length then ts.mapM (kindAt P) else none
    | none => none
  else none
theorem open_kinds {P : Program} {w : World} {r : Reach} {base t : Nat} {v : Value} {ks : List (Option IntKind)} (hk : kindsOf P t = some ks)
    (h : Value.okWide P w r base t v) : ∃ l : List AV, Kinds ks l ∧ ∀ C : Ctx, RelV C (.agg l) v := by
  unfold kindsOf at hk
  split at hk
  · rename_i ha
    split at hk
    · rename_i ts hts
      split at hk
      · rename_i hn
        exact open_agg ha hts hk hn h
      · cases hk
    · cases hk
  · cases hk
end Go.Ab
