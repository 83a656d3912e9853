/-
  Part K10 of the proof: several texts of the evaluator and of what functions of this program compute.
-/
import Derived.Test.YtgpkmepalmdmeaaK4
import Derived.WideShapes
import Derived.OpenShut
import Derived.ChangeSlices
set_option linter.all false
section
set_option linter.unusedVariables false
set_option linter.unusedSimpArgs false
namespace Go.Ab
open Go Go.WideShapes

/-- What the leaves of a value are: an integer's kind, or none for a bool. -/
def Kinds : List (Option IntKind) → List AV → Prop
  | [], [] => True
  | some k :: ks, .v (.int k' _) :: l => k = k' ∧ Kinds ks l
  | none :: ks, .v (.bool _) :: l => Kinds ks l
  | _, _ => False

theorem Kinds.app : ∀ {a b : List (Option IntKind)} {l : List AV}, Kinds (a ++ b) l → ∃ l1 l2, l = l1 ++ l2 ∧ Kinds a l1 ∧ Kinds b l2
  | [], b, l, h => ⟨[], l, rfl, trivial, h⟩
  | some k :: a, b, [], h => h.elim
  | none :: a, b, [], h => h.elim
  | some k :: a, b, x :: l, h => by
    match x, h with
    | .v (.int k' n), h =>
      obtain ⟨l1, l2, rfl, h1, h2⟩ := Kinds.app (a := a) h.2
      exact ⟨.v (.int k' n) :: l1, l2, rfl, ⟨h.1, h1⟩, h2⟩
  | none :: a, b, x :: l, h => by
    match x, h with
    | .v (.bool n), h =>
      obtain ⟨l1, l2, rfl, h1, h2⟩ := Kinds.app (a := a) h
      exact ⟨.v (.bool n) :: l1, l2, rfl, h1, h2⟩

theorem dec_ints (k : IntKind) : ∀ (n : Nat) (l : List AV), Kinds (List.replicate n (some k)) l → ∃ xs : List Int, xs.length = n ∧ l = xs.map fun x => .v (.int k x)
  | 0, [], _ => ⟨[], rfl, rfl⟩
  | 0, _ :: _, h => h.elim
  | n + 1, [], h => h.elim
  | n + 1, x :: l, h => by
    match x, h with
    | .v (.int k' m), h =>
      obtain ⟨rfl, h⟩ := h
      obtain ⟨xs, hl, rfl⟩ := dec_ints k n l h
      exact ⟨m :: xs, by simp [hl], rfl⟩
theorem dec_Root {l : List AV} (h : Kinds (List.replicate 32 (some .u8)) l) : ∃ r : Root, l = cRoot r := by
  obtain ⟨xs, hl, rfl⟩ := dec_ints _ _ _ h
  exact ⟨⟨xs.toArray, by simpa using hl⟩, by simp [cRoot]⟩
theorem dec_Wide {l : List AV} (h : Kinds (List.replicate 4 (some .u64)) l) : ∃ r : Wide, l = cWide r := by
  obtain ⟨xs, hl, rfl⟩ := dec_ints _ _ _ h
  exact ⟨⟨xs.toArray, by simpa using hl⟩, by simp [cWide]⟩
theorem dec_U64 {l : List AV} (h : Kinds [some .u64] l) : ∃ x : Int, l = cU64 x := by
  obtain ⟨xs, hl, rfl⟩ := dec_ints .u64 1 _ h
  match xs, hl with
  | [x], _ => exact ⟨x, rfl⟩
theorem dec_Int {l : List AV} (h : Kinds [some .i64] l) : ∃ x : Int, l = cInt x := by
  obtain ⟨xs, hl, rfl⟩ := dec_ints .i64 1 _ h
  match xs, hl with
  | [x], _ => exact ⟨x, rfl⟩
theorem dec_Bool {l : List AV} (h : Kinds [none] l) : ∃ x : Bool, l = cBool x := by
  match l, h with
  | .v (.bool b) :: [], _ => exact ⟨b, rfl⟩
  | .v (.bool b) :: _ :: _, h => exact h.elim

def kindAt (P : Program) (t : Nat) : Option (Option IntKind) :=
  match P.underlying t with
  | some (.int k) => some (some k)
  | some .bool => some none
  | _ => none
def isAggU (P : Program) (t : Nat) : Bool :=
  match P.underlying t with
  | some (.struct _) | some (.array _ _) => true
  | _ => false

theorem kinds_of {P : Program} {w : World} {r : Reach} {base : Nat} : ∀ (ts : List Nat) (ks : List (Option IntKind)) (cs : List Value), ts.mapM (kindAt P) = some ks → cs.length = ts.length →
    (∀ (i : Nat) (v : Value), cs[i]? = some v → ∃ u, ts[i]? = some u ∧ Cell.okWide P w r base u v) → Kinds ks (cs.map AV.v) ∧ (∀ v ∈ cs, v.oneCell' = true)
  | [], ks, [], h, _, _ => by
    simp at h; subst h
    exact ⟨trivial, by simp⟩
  | t :: ts, ks, c :: cs, h, hl, hc => by
    rw [List.mapM_cons] at h
    cases h1 : kindAt P t with
    | none => rw [h1] at h; cases h
    | some k =>
      cases h2 : ts.mapM (kindAt P) with
      | none => rw [h1, h2] at h; cases h
      | some ks' =>
        rw [h1, h2] at h
        obtain rfl : k :: ks' = ks := by simpa using h
        obtain ⟨u, hu, hok⟩ := hc 0 c rfl
        obtain rfl : t = u := by simpa using hu
        have ih := kinds_of ts ks' cs h2 (by simpa using hl) (fun i v hv => hc (i + 1) v (by simpa using hv))
        unfold kindAt at h1
        split at h1
        · rename_i k0 hk0
          have hv : Value.okWide P w r base t c := by unfold Value.okWide; rw [hk0]; exact hok
          obtain ⟨n, rfl⟩ := okWide_int hk0 hv
          obtain rfl : some k0 = k := by simpa using h1
          exact ⟨⟨rfl, ih.1⟩, by intro v hv; rcases List.mem_cons.1 hv with rfl | hv; rfl; exact ih.2 v hv⟩
        · rename_i hk0
          have hv : Value.okWide P w r base t c := by unfold Value.okWide; rw [hk0]; exact hok
          obtain ⟨n, rfl⟩ := okWide_bool hk0 hv
          obtain rfl : none = k := by simpa using h1
          exact ⟨ih.1, by intro v hv; rcases List.mem_cons.1 hv with rfl | hv; rfl; exact ih.2 v hv⟩
        · cases h1
  | [], _, _ :: _, _, hl, _ => by simp at hl
  | _ :: _, _, [], _, hl, _ => by simp at hl

theorem open_agg {P : Program} {w : World} {r : Reach} {base t : Nat} {v : Value} {ts : List Nat} {ks : List (Option IntKind)} (ha : isAggU P t = true) (hts : P.cellTypes P.depth t = some ts) (hks : ts.mapM (kindAt P) = some ks) (hn : P.cellsOf t = ts.length)
    (h : Value.okWide P w r base t v) : ∃ l : List AV, Kinds ks l ∧ ∀ C : Ctx, RelV C (.agg l) v := by
  have h' : ∃ cs, v = .agg cs ∧ cs.size = P.cellsOf t ∧ Row.okWide P w r base t cs := by
    unfold Value.okWide at h
    unfold isAggU at ha
    split at ha
    · rename_i hu; rw [hu] at h; exact h
    · rename_i hu; rw [hu] at h; exact h
    · cases ha
  obtain ⟨cs, rfl, hsz, ts', hts', hm, hc⟩ := h'
  obtain rfl : ts = ts' := by rw [hts] at hts'; simpa using hts'
  rw [hn] at hsz
  obtain ⟨k1, k2⟩ := kinds_of (P := P) (w := w) (r := r) (base := base) ts ks cs.toList hks (by simpa using hsz) (fun i v hv => by
    have hi : i < ts.length := by
      have := (List.getElem?_eq_some_iff.1 hv).1
      simp at this; omega
    obtain ⟨u, hu, hok⟩ := hc i v (by simpa using hv)
    rw [Nat.mod_eq_of_lt hi] at hu
    exact ⟨u, hu, hok⟩)
  refine ⟨_, k1, fun C => .agg _ _ (by simp) (fun i x y hx hy => ?_) (fun i y hy => k2 y (by
    rw [← Array.getElem?_toList] at hy
    exact List.mem_of_getElem? hy))⟩
  rw [List.getElem?_map, Array.getElem?_toList, hy] at hx
  simp at hx
  subst hx
  exact .v _

/-- The kinds of a type's leaves, where it is a struct or an array of integers and bools. -/
def kindsOf (P : Program) (t : Nat) : Option (List (Option IntKind)) :=
  if isAggU P t = true then
    match P.cellTypes P.depth t with
    | some ts => if P.cellsOf t = ts.length then ts.mapM (kindAt P) else none
    | none => none
  else none
theorem open_kinds {P : Program} {w : World} {r : Reach} {base t : Nat} {v : Value} {ks : List (Option IntKind)} (hk : kindsOf P t = some ks)
    (h : Value.okWide P w r base t v) : ∃ l : List AV, Kinds ks l ∧ ∀ C : Ctx, RelV C (.agg l) v := by
  unfold kindsOf at hk
  split at hk
  · rename_i ha
    split at hk
    · rename_i ts hts
      split at hk
      · rename_i hn
        exact open_agg ha hts hk hn h
      · cases hk
    · cases hk
  · cases hk
end Go.Ab
end
section
set_option linter.unusedVariables false
set_option linter.unusedSimpArgs false
namespace Go.Ab
open Go

def kCkpt : List (Option IntKind) := (([some .u64]) ++ (List.replicate 32 (some .u8)))
theorem dec_Ckpt {l : List AV} (h : Kinds kCkpt l) : ∃ x : Ckpt, l = cCkpt x := by
  unfold kCkpt at h
  obtain ⟨l0, r0, e0, a0, b0⟩ := Kinds.app h
  obtain ⟨x0, y0⟩ := dec_U64 a0
  obtain ⟨x1, y1⟩ := dec_Root b0
  refine ⟨⟨x0, x1⟩, ?_⟩
  simp only [cCkpt, e0, y0, y1]
def kPulled : List (Option IntKind) := (kCkpt ++ kCkpt)
theorem dec_Pulled {l : List AV} (h : Kinds kPulled l) : ∃ x : Pulled, l = cPulled x := by
  unfold kPulled at h
  obtain ⟨l0, r0, e0, a0, b0⟩ := Kinds.app h
  obtain ⟨x0, y0⟩ := dec_Ckpt a0
  obtain ⟨x1, y1⟩ := dec_Ckpt b0
  refine ⟨⟨x0, x1⟩, ?_⟩
  simp only [cPulled, e0, y0, y1]
def kBlock : List (Option IntKind) := (kPulled ++ (([some .u64]) ++ ((List.replicate 32 (some .u8)) ++ ((List.replicate 32 (some .u8)) ++ ((List.replicate 32 (some .u8)) ++ ((List.replicate 4 (some .u64)) ++ ((List.replicate 4 (some .u64)) ++ (kCkpt ++ (kCkpt ++ ([none]))))))))))
theorem dec_Block {l : List AV} (h : Kinds kBlock l) : ∃ x : Block, l = cBlock x := by
  unfold kBlock at h
  obtain ⟨l0, r0, e0, a0, b0⟩ := Kinds.app h
  obtain ⟨l1, r1, e1, a1, b1⟩ := Kinds.app b0
  obtain ⟨l2, r2, e2, a2, b2⟩ := Kinds.app b1
  obtain ⟨l3, r3, e3, a3, b3⟩ := Kinds.app b2
  obtain ⟨l4, r4, e4, a4, b4⟩ := Kinds.app b3
  obtain ⟨l5, r5, e5, a5, b5⟩ := Kinds.app b4
  obtain ⟨l6, r6, e6, a6, b6⟩ := Kinds.app b5
  obtain ⟨l7, r7, e7, a7, b7⟩ := Kinds.app b6
  obtain ⟨l8, r8, e8, a8, b8⟩ := Kinds.app b7
  obtain ⟨x0, y0⟩ := dec_Pulled a0
  obtain ⟨x1, y1⟩ := dec_U64 a1
  obtain ⟨x2, y2⟩ := dec_Root a2
  obtain ⟨x3, y3⟩ := dec_Root a3
  obtain ⟨x4, y4⟩ := dec_Root a4
  obtain ⟨x5, y5⟩ := dec_Wide a5
  obtain ⟨x6, y6⟩ := dec_Wide a6
  obtain ⟨x7, y7⟩ := dec_Ckpt a7
  obtain ⟨x8, y8⟩ := dec_Ckpt a8
  obtain ⟨x9, y9⟩ := dec_Bool b8
  refine ⟨⟨x0, x1, x2, x3, x4, x5, x6, x7, x8, x9⟩, ?_⟩
  simp only [cBlock, e0, e1, e2, e3, e4, e5, e6, e7, e8, y0, y1, y2, y3, y4, y5, y6, y7, y8, y9]
def kNode : List (Option IntKind) := (kBlock ++ (([some .i64]) ++ ([some .i64])))
theorem dec_Node {l : List AV} (h : Kinds kNode l) : ∃ x : Node, l = cNode x := by
  unfold kNode at h
  obtain ⟨l0, r0, e0, a0, b0⟩ := Kinds.app h
  obtain ⟨l1, r1, e1, a1, b1⟩ := Kinds.app b0
  obtain ⟨x0, y0⟩ := dec_Block a0
  obtain ⟨x1, y1⟩ := dec_Int a1
  obtain ⟨x2, y2⟩ := dec_Int b1
  refine ⟨⟨x0, x1, x2⟩, ?_⟩
  simp only [cNode, e0, e1, y0, y1, y2]
end Go.Ab
end
section
set_option linter.unusedVariables false
set_option linter.unusedSimpArgs false
namespace Go.Ab
open Go Go.WideShapes Go.ChangeShapes

def kindsFs (P : Program) (f : Nat → Option (List (Option IntKind))) : List Field → Nat → Option (List (Option IntKind))
  | [], _ => some []
  | fd :: r, off =>
    match f fd.type with
    | some ks => if fd.offset = off ∧ P.cellsOf fd.type = ks.length then (kindsFs P f r (off + ks.length)).map (ks ++ ·) else none
    | none => none
/-- The kinds of a type's leaves. -/
def kindsT (P : Program) : Nat → Nat → Option (List (Option IntKind))
  | 0, _ => none
  | d + 1, t =>
    match P.underlying t with
    | some .bool => some [none]
    | some (.int k) => some [some k]
    | some (.struct fs) =>
      match kindsFs P (kindsT P d) fs.toList 0 with
      | some ks => if P.cellsOf t = ks.length then some ks else none
      | none => none
    | some (.array n e) =>
      match kindsT P d e with
      | some ks => if P.cellsOf e = ks.length ∧ P.cellsOf t = n * ks.length then some ((List.replicate n ks).flatten) else none
      | none => none
    | _ => none
theorem add_add (a : Addr) (i j : Nat) : (a.add i).add j = a.add (i + j) := by
  unfold Addr.add
  by_cases hi : i = 0
  · subst hi; simp
  · by_cases hj : j = 0
    · subst hj; simp [hi]
    · simp [hi, hj, Nat.add_assoc]
def KindsV (ks : List (Option IntKind)) (cs : List Value) : Prop := Kinds ks (cs.map AV.v) ∧ ∀ v ∈ cs, v.oneCell' = true
theorem Kinds.mk_app : ∀ {a b : List (Option IntKind)} {l m : List AV}, Kinds a l → Kinds b m → Kinds (a ++ b) (l ++ m)
  | [], b, [], m, _, h => h
  | [], b, _ :: _, m, h, _ => h.elim
  | some k :: a, b, [], m, h, _ => h.elim
  | none :: a, b, [], m, h, _ => h.elim
  | some k :: a, b, x :: l, m, h, h2 => by
    match x, h with
    | .v (.int k' n), h => exact ⟨h.1, Kinds.mk_app (a := a) h.2 h2⟩
  | none :: a, b, x :: l, m, h, h2 => by
    match x, h with
    | .v (.bool n), h => exact Kinds.mk_app (a := a) h h2
theorem KindsV.app {a b : List (Option IntKind)} {l m : List Value} (h : KindsV a l) (h2 : KindsV b m) : KindsV (a ++ b) (l ++ m) :=
  ⟨by rw [List.map_append]; exact h.1.mk_app h2.1, fun v hv => by rcases List.mem_append.1 hv with hv | hv; exact h.2 v hv; exact h2.2 v hv⟩
theorem Kinds.len : ∀ {a : List (Option IntKind)} {l : List AV}, Kinds a l → l.length = a.length
  | [], [], _ => rfl
  | [], _ :: _, h => h.elim
  | some k :: a, [], h => h.elim
  | none :: a, [], h => h.elim
  | some k :: a, x :: l, h => by
    match x, h with
    | .v (.int k' n), h => simp [Kinds.len (a := a) h.2]
  | none :: a, x :: l, h => by
    match x, h with
    | .v (.bool n), h => simp [Kinds.len (a := a) h]
section
variable {H : Type} {enc : TypeId × Value → H} {P : Program} {w : World} {base : Nat} {spare : Nat → Bool} {held : Bool}
theorem fields_kinds {d : Nat} (ih : ∀ (t : Nat) (ks : List (Option IntKind)) (fuel : Nat) (cs : List Value) (x : DataW H × List MemPlace), kindsT P d t = some ks → DataW.trod enc P w base spare held fuel t cs = some x → KindsV ks cs) (cs : List Value) :
    ∀ (l : List Field) (off : Nat) (ks : List (Option IntKind)), kindsFs P (kindsT P d) l off = some ks → (∀ f ∈ l, ∃ n y, DataW.trod enc P w base spare held n f.type ((cs.drop f.offset).take (P.cellsOf f.type)) = some y) → cs.length = off + ks.length → KindsV ks (cs.drop off)
  | [], off, ks, h, _, hl => by
    simp only [kindsFs, Option.some.injEq] at h
    subst h
    rw [List.drop_of_length_le (by simp at hl; omega)]
    exact ⟨trivial, by simp⟩
  | fd :: r, off, ks, h, hf, hl => by
    simp only [kindsFs] at h
    cases hk : kindsT P d fd.type with
    | none => rw [hk] at h; cases h
    | some k1 =>
      rw [hk] at h
      simp only at h
      split at h
      · rename_i hc
        obtain ⟨rfl, hc2⟩ := hc
        cases hr : kindsFs P (kindsT P d) r (fd.offset + k1.length) with
        | none => rw [hr] at h; cases h
        | some k2 =>
          rw [hr] at h
          simp only [Option.map_some, Option.some.injEq] at h
          subst h
          obtain ⟨n, y, hy⟩ := hf fd (by simp)
          rw [hc2] at hy
          have h1 := ih _ _ _ _ _ hk hy
          simp only [List.length_append] at hl
          have h2 := fields_kinds ih cs r (fd.offset + k1.length) k2 hr (fun f hf' => hf f (by simp [hf'])) (by omega)
          have := h1.app h2
          rw [← List.drop_drop, List.take_append_drop] at this
          exact this
      · cases h
theorem trod_kinds : ∀ (d t : Nat) (ks : List (Option IntKind)) (fuel : Nat) (cs : List Value) (x : DataW H × List MemPlace), kindsT P d t = some ks → DataW.trod enc P w base spare held fuel t cs = some x → KindsV ks cs
  | 0, t, ks, fuel, cs, x, h, _ => by simp [kindsT] at h
  | d + 1, t, ks, fuel, cs, x, h, hx => by
    have ih := trod_kinds d
    unfold kindsT at h
    split at h
    · rename_i ht
      obtain rfl : [none] = ks := by simpa using h
      cases fuel with
      | zero => simp [DataW.trod] at hx
      | succ n =>
        unfold DataW.trod at hx
        rw [ht] at hx
        split at hx <;> simp_all
        exact ⟨trivial, by simp [Value.oneCell']⟩
    · rename_i k ht
      obtain rfl : [some k] = ks := by simpa using h
      obtain ⟨m, rfl, _, _⟩ := DataW.trod_int ht hx
      exact ⟨⟨rfl, trivial⟩, by simp [Value.oneCell']⟩
    · rename_i fs ht
      split at h
      · rename_i ks' hk
        split at h
        · rename_i hc
          obtain rfl : ks' = ks := by simpa using h
          obtain ⟨xs, n, _, _, hl, hlen, hf⟩ := DataW.trod_struct ht hx
          have := fields_kinds ih cs fs.toList 0 ks' hk (fun f hf' => by
            obtain ⟨i, hi⟩ := List.getElem?_of_mem hf'
            have hi' : fs[i]? = some f := by simpa using hi
            have h2 := hf i f hi'
            have hlt : i < xs.length := by
              have := (Array.getElem?_eq_some_iff.1 hi').1
              omega
            rw [List.getElem?_eq_getElem hlt] at h2
            exact ⟨_, _, h2⟩) (by omega)
          simpa using this
        · cases h
      · cases h
    · rename_i n e ht
      split at h
      · rename_i ks' hk
        split at h
        · rename_i hc
          obtain ⟨c1, c2⟩ := hc
          obtain rfl : (List.replicate n ks').flatten = ks := by simpa using h
          obtain ⟨xs, m, _, _, hl, hlen, hf⟩ := DataW.trod_array ht hx
          have main : ∀ j, j ≤ n → KindsV (List.replicate j ks').flatten (cs.take (j * ks'.length)) := by
            intro j
            induction j with
            | zero => intro _; simp only [List.replicate_zero, List.flatten_nil, Nat.zero_mul, List.take_zero]; exact ⟨trivial, by simp⟩
            | succ j ihj =>
              intro hj
              have h1 := ihj (by omega)
              have h2 := hf j (by omega)
              rw [List.getElem?_eq_getElem (by omega)] at h2
              rw [c1] at h2
              have h3 := ih _ _ _ _ _ hk h2
              have := h1.app h3
              rw [show (j + 1) * ks'.length = j * ks'.length + ks'.length from Nat.succ_mul _ _, List.take_add, List.replicate_succ', List.flatten_append]
              simpa using this
          have := main n (Nat.le_refl _)
          rw [List.take_of_length_le (by omega)] at this
          exact this
        · cases h
      · cases h
    · cases h
/-- A slice that came in, of elements that hold integers and bools. -/
theorem rel_slice {d t e fuel : Nat} {ks : List (Option IntKind)} {cs : List Value} {x : DataW H × List MemPlace} (ht : P.underlying t = some (.slice e)) (hk : kindsT P d e = some ks) (hc : P.cellsOf e = ks.length) (hpos : 0 < ks.length)
    (h : DataW.trod enc P w base spare held fuel t cs = some x) :
    ∃ (els : List (List AV)) (v : Value), cs = [v] ∧ v.oneCell' = true ∧ (∀ l ∈ els, Kinds ks l) ∧ (els.length : Int) ≤ 9223372036854775807 ∧ RelV (bare fun b o => w.heap[b]? = some o) (.sl els.length els.flatten) v := by
  rcases DataW.trod_slice ht h with ⟨rfl, _⟩ | ⟨a, len, cap, elems, rest, n, _, rfl, _, hb, hl, hm, hlen, hel, _⟩
  · exact ⟨[], _, rfl, rfl, by simp, by simp, .sl0 0 0 none (Nat.le_refl _)⟩
  · have each : ∀ i, i < len → ∃ ci : List Value, w.cells? base (a.add (i * ks.length)) ks.length = some ci ∧ KindsV ks ci := by
      intro i hi
      have := hel i hi
      rw [List.getElem?_eq_getElem (by omega), hc, Option.bind_eq_some_iff] at this
      obtain ⟨ci, h1, h2⟩ := this
      exact ⟨ci, h1, trod_kinds d e ks n ci _ hk h2⟩
    let f : Nat → List Value := fun i => if h : i < len then Classical.choose (each i h) else []
    have hf : ∀ i, i < len → w.cells? base (a.add (i * ks.length)) ks.length = some (f i) ∧ KindsV ks (f i) := by
      intro i hi
      have := Classical.choose_spec (each i hi)
      simp only [f, dif_pos hi]
      exact this
    have hfl : ∀ i, i < len → (f i).length = ks.length := fun i hi => (World.cells?_some (hf i hi).1).2.1
    have hflat : ∀ (m : Nat), m ≤ len → ((List.range m).map fun i => (f i).map AV.v).flatten.length = m * ks.length := by
      intro m
      induction m with
      | zero => intro _; simp
      | succ m ih =>
        intro hm
        rw [List.range_succ, List.map_append, List.flatten_append, List.length_append, ih (by omega)]
        simp [hfl m (by omega), Nat.succ_mul]
    have hget : ∀ (m : Nat), m ≤ len → ∀ i j, i < m → j < ks.length → ((List.range m).map fun i => (f i).map AV.v).flatten[i * ks.length + j]? = ((f i)[j]?).map AV.v := by
      intro m
      induction m with
      | zero => intro _ i j hi; omega
      | succ m ih =>
        intro hm i j hi hj
        rw [List.range_succ, List.map_append, List.flatten_append]
        by_cases him : i < m
        · have : i * ks.length + j < m * ks.length := by
            have : (i + 1) * ks.length ≤ m * ks.length := Nat.mul_le_mul_right _ him
            rw [Nat.succ_mul] at this
            omega
          rw [List.getElem?_append_left (by rw [hflat m (by omega)]; exact this)]
          exact ih (by omega) i j him hj
        · have him' : i = m := by omega
          subst him'
          rw [List.getElem?_append_right (by rw [hflat i (by omega)]; omega), hflat i (by omega), Nat.add_sub_cancel_left]
          simp
    have hlen2 : ((List.range len).map fun i => (f i).map AV.v).length = len := by simp
    refine ⟨(List.range len).map fun i => (f i).map AV.v, _, rfl, rfl, ?_, ?_, ?_⟩
    · intro l hl'
      obtain ⟨i, hi, rfl⟩ := List.mem_map.1 hl'
      exact (hf i (List.mem_range.1 hi)).2.1
    · rw [hlen2]; simp only [maxLen] at hm; omega
    · rw [hlen2]
      rcases Nat.eq_zero_or_pos len with h0 | h0
      · subst h0
        exact .sl0 0 cap _ hl
      · have hcell : ∀ i j, i < len → j < ks.length → ∃ v, (f i)[j]? = some v ∧ w.cell? (a.add (i * ks.length + j)) = some v := by
          intro i j hi hj
          have h1 := (World.cells?_some (hf i hi).1).2.2 j hj
          have hjl : j < (f i).length := by rw [hfl i hi]; exact hj
          rw [List.getElem?_eq_getElem hjl] at h1
          refine ⟨_, List.getElem?_eq_getElem hjl, ?_⟩
          rw [← h1]
          rw [add_add]
        obtain ⟨v0, _, hc0⟩ := hcell 0 0 h0 hpos
        have ha : a.add (0 * ks.length + 0) = a := by simp [Addr.add]
        rw [ha] at hc0
        unfold World.cell? at hc0
        split at hc0
        · rename_i arr T fr hblk
          split at hc0
          · cases hc0
          · rename_i hsp
            obtain ⟨blk, off, spot⟩ := a
            simp only at hblk hc0 hsp
            have hspn : spot = none := by cases spot <;> simp at hsp ⊢
            subst hspn
            have each2 : ∀ i j, i < len → j < ks.length → ∃ v, (f i)[j]? = some v ∧ arr[off + (i * ks.length + j)]? = some v := fun i j hi hj => by
              obtain ⟨v, h1, h2⟩ := hcell i j hi hj
              rw [addr_add, cell_of_row w blk (off + (i * ks.length + j)) arr T fr hblk] at h2
              exact ⟨v, h1, h2⟩
            have hdm : ∀ q, q < len * ks.length → q = (q / ks.length) * ks.length + q % ks.length ∧ q / ks.length < len ∧ q % ks.length < ks.length := fun q hq =>
              ⟨by rw [Nat.mul_comm]; exact (Nat.div_add_mod q ks.length).symm, Nat.div_lt_of_lt_mul (by rw [Nat.mul_comm]; exact hq), Nat.mod_lt _ hpos⟩
            have hsz : off + len * ks.length ≤ arr.size := by
              have hlast : (len - 1) * ks.length + (ks.length - 1) + 1 = len * ks.length := by
                have : len * ks.length = (len - 1) * ks.length + ks.length := by
                  conv => lhs; rw [show len = (len - 1) + 1 by omega, Nat.succ_mul]
                omega
              obtain ⟨v, _, h2⟩ := each2 (len - 1) (ks.length - 1) (by omega) (by omega)
              have := (Array.getElem?_eq_some_iff.1 h2).1
              omega
            refine .sl _ _ blk off cap arr T fr hl hblk (by rw [hflat len (Nat.le_refl _)]; exact hsz) (fun q xx y hx hy => ?_) (fun q y hq hy => ?_)
            · have hq : q < len * ks.length := by
                have := (List.getElem?_eq_some_iff.1 hx).1
                rw [hflat len (Nat.le_refl _)] at this
                exact this
              obtain ⟨e1, e2, e3⟩ := hdm q hq
              obtain ⟨v, h1, h2⟩ := each2 _ _ e2 e3
              rw [e1, hget len (Nat.le_refl _) _ _ e2 e3, h1] at hx
              rw [e1, h2] at hy
              simp only [Option.map_some, Option.some.injEq] at hx hy
              subst hx; subst hy
              exact .v _
            · rw [hflat len (Nat.le_refl _)] at hq
              obtain ⟨e1, e2, e3⟩ := hdm q hq
              obtain ⟨v, h1, h2⟩ := each2 _ _ e2 e3
              rw [e1, h2] at hy
              simp only [Option.some.injEq] at hy
              subst hy
              exact (hf _ e2).2.2 _ (List.mem_of_getElem? h1)
        · cases hc0
end
end Go.Ab
end
