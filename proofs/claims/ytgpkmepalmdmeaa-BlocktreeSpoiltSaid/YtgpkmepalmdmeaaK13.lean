/-
  Part K13 of the proof: several texts of the evaluator and of what functions of this program compute.
-/
import Derived.Test.YtgpkmepalmdmeaaK5
import Derived.Test.YtgpkmepalmdmeaaA12
import Derived.Test.YtgpkmepalmdmeaaK12
import Derived.Test.YtgpkmepalmdmeaaD1
set_option linter.all false
section
set_option linter.unusedSimpArgs false
set_option linter.unusedVariables false
set_option maxRecDepth 20000
set_option maxHeartbeats 4000000
namespace Go.Ab
open Classical
/-- The end of a function that hands over the rows that its results hold. -/
theorem endK_one [Ext] {P : Program} {f : Nat} {fn : Func} {st : St} {e : Ex} {r : ResultVar} {x y : AV} (hk : Ext.keep f = true) (he : e = .ret ∨ e = .normal) (hr : fn.results.toList = [r]) (h1 : resA P st r = some x) (hn : (ownKeys x).Nodup) (hy : expoU st x = some y) : endL P f fn (e, st) = some y := by
  have h : finishF P f fn st = some y := by
    unfold finishF
    rw [hk, if_pos rfl]
    unfold finishK
    rw [hr]
    simp only [resA_eq, h1, bnd, if_pos hn, hy]
  rcases he with rfl | rfl <;> exact h
theorem endK_two [Ext] {P : Program} {f : Nat} {fn : Func} {st : St} {e : Ex} {r1 r2 : ResultVar} {x1 x2 y : AV} (hk : Ext.keep f = true) (he : e = .ret ∨ e = .normal) (hr : fn.results.toList = [r1, r2]) (h1 : resA P st r1 = some x1) (h2 : resA P st r2 = some x2)
    (hn : (ownKeys (.tup [x1, x2])).Nodup) (hy : expoU st (.tup [x1, x2]) = some y) : endL P f fn (e, st) = some y := by
  have h : finishF P f fn st = some y := by
    unfold finishF
    rw [hk, if_pos rfl]
    unfold finishK
    rw [hr]
    simp only [List.map_cons, List.map_nil, resA_eq, h1, h2, bnd, optAll, Option.map_some, if_pos hn, hy]
  rcases he with rfl | rfl <;> exact h
theorem expoU_row {st : St} {s g e sz n : Nat} {cs : List AV} (h : st.heap s g = some (.row e sz n cs)) (hf : ∀ c ∈ cs, Flat c) : expoU1 st (.agg [.own s g]) = some (.agg [.uniq e sz n cs]) := by
  simp only [expoU1, List.map_cons, List.map_nil, expoUC, if_neg (not_flat_own s g), h, if_pos hf, optAll, Option.map_some]
theorem expoU_nil (st : St) : expoU1 st (.agg [.v (.slice none 0 0)]) = some (.agg [.v (.slice none 0 0)]) := by
  simp only [expoU1, List.map_cons, List.map_nil, expoUC, if_pos (Flat.v _), optAll, Option.map_some]
theorem expoU_v (st : St) (x : Value) : expoU1 st (.v x) = some (.v x) := by simp only [expoU1, expoUC, if_pos (Flat.v x)]
theorem expoU_tup {st : St} {a b x y : AV} (h1 : expoU1 st a = some x) (h2 : expoU1 st b = some y) : expoU st (.tup [a, b]) = some (.tup [x, y]) := by
  simp only [expoU, List.map_cons, List.map_nil, h1, h2, optAll, Option.map_some]
theorem expoU_one {st : St} {cs : List AV} {x : AV} (h1 : expoU1 st (.agg cs) = some x) : expoU st (.agg cs) = some x := h1
/-- Calls of such functions. -/
theorem not_flat_uniq (e sz n : Nat) (cs : List AV) : ¬ Flat (.uniq e sz n cs) := by intro h; cases h
theorem putRes_U1 {e sz n : Nat} {cs : List AV} {st : St} {d : Nat} : putRes (.agg [.uniq e sz n cs]) st (some d) = some { dst := some d, val := .agg [.own d (st.cnt d)], new := some (d, [.row e sz n cs]) } := by
  have hn : ¬ Flat (.agg [.uniq e sz n cs]) := by intro h; cases h with | agg _ h => exact not_flat_uniq e sz n cs (h _ (by simp))
  unfold putRes
  rw [if_neg hn]
  rfl
theorem putRes_U2 {e sz n : Nat} {cs : List AV} {x : Value} {st : St} {d : Nat} : putRes (.tup [.agg [.uniq e sz n cs], .v x]) st (some d) = some { dst := some d, val := .tup [.agg [.own d (st.cnt d)], .v x], new := some (d, [.row e sz n cs]) } := by
  have hn : ¬ Flat (.tup [.agg [.uniq e sz n cs], .v x]) := by
    intro h
    cases h with
    | tup _ h =>
      have := h (.agg [.uniq e sz n cs]) (by simp)
      cases this with
      | agg _ h => exact not_flat_uniq e sz n cs (h _ (by simp))
  unfold putRes
  rw [if_neg hn]
  rfl
theorem call_U1 {call : Nat → List AV → Option AV} {g : Nat} {args : List AV} {d e sz n : Nat} {cs : List AV} {st : St} (hf : ∀ x ∈ args, Flat x) (h : call g args = some (.agg [.uniq e sz n cs])) : callFn call g args st (some d) = some { dst := some d, val := .agg [.own d (st.cnt d)], new := some (d, [.row e sz n cs]) } := by
  unfold callFn
  rw [if_pos hf, h]
  exact putRes_U1
theorem Q_U2 {call : Nat → List AV → Option AV} {g : Nat} {xs : List AV} {d e sz n : Nat} {cs : List AV} {x : Value} {fl : Bool} {st : St} (h : call g xs = some (.tup [.agg [.uniq e sz n cs], .v x])) (hm : ∀ c ∈ cs, MemFree c) : callQ call g (some xs) fl st (some d) = some { dst := some d, val := .tup [.agg [.own d (st.cnt d)], .v x], new := some (d, [.row e sz n cs]) } := by
  have hfr : Fresh (.tup [.agg [.uniq e sz n cs], .v x]) := by
    intro y hy
    rcases List.mem_cons.1 hy with rfl | hy
    · intro c hc
      simp at hc
      subst hc
      exact hm
    · simp at hy
      subst hy
      exact .v _
  unfold callQ
  simp only [bnd_some, h, hfr, or_true, if_true]
  exact putRes_U2
theorem Q_n2 {call : Nat → List AV → Option AV} {g : Nat} {xs : List AV} {x y : Value} {fl : Bool} {st : St} {d : Option Nat} (h : call g xs = some (.tup [.agg [.v y], .v x])) : callQ call g (some xs) fl st d = some { dst := d, val := .tup [.agg [.v y], .v x] } := by
  have hf : ∀ z ∈ [AV.agg [.v y], .v x], Flat z := flat2 (.agg _ (flat1 (.v _))) (.v _)
  refine Q_of h ?_ (.tup _ hf)
  intro z hz
  rcases List.mem_cons.1 hz with rfl | hz
  · intro c hc; simp at hc; subst hc; exact .v _
  · simp at hz; subst hz; exact .v _
/-- A row of structs, cell by cell. -/
theorem get_row {z : Nat} {α : Type} (f : α → List AV) (hf : ∀ x, (f x).length = z) : ∀ (l : List α) (i o : Nat) (hi : i < l.length), o < z → (l.flatMap f)[i * z + o]? = (f l[i])[o]?
  | [], i, o, hi, _ => by simp at hi
  | a :: l, 0, o, _, ho => by
    simp only [List.flatMap_cons, Nat.zero_mul, Nat.zero_add, List.getElem_cons_zero]
    rw [List.getElem?_append_left (by rw [hf]; exact ho)]
  | a :: l, i + 1, o, hi, ho => by
    have ih := get_row f hf l i o (by simpa using hi) ho
    simp only [List.flatMap_cons, List.getElem_cons_succ]
    rw [List.getElem?_append_right (by rw [hf, Nat.succ_mul]; omega), hf, show (i + 1) * z + o - z = i * z + o by rw [Nat.succ_mul]; omega]
    exact ih
theorem upd_row {z : Nat} {α : Type} (f : α → List AV) (hf : ∀ x, (f x).length = z) (o e : Nat) (xs : List AV) (hoe : o ≤ e) (he : e ≤ z) : ∀ (l : List α) (i : Nat) (hi : i < l.length) (y : α), upd (f l[i]) o xs e = f y → upd (l.flatMap f) (i * z + o) xs (i * z + e) = (l.set i y).flatMap f
  | [], i, hi, _, _ => by simp at hi
  | a :: l, 0, _, y, h => by
    simp only [List.flatMap_cons, Nat.zero_mul, Nat.zero_add, List.set_cons_zero, List.getElem_cons_zero] at h ⊢
    rw [← h]
    unfold upd
    rw [List.take_append_of_le_length (by rw [hf]; omega), List.drop_append_of_le_length (by rw [hf]; omega)]
    simp
  | a :: l, i + 1, hi, y, h => by
    have ih := upd_row f hf o e xs hoe he l i (by simpa using hi) y (by simpa using h)
    simp only [List.flatMap_cons, List.set_cons_succ]
    rw [← ih]
    unfold upd
    have h1 : (i + 1) * z + o = z + (i * z + o) := by rw [Nat.succ_mul]; omega
    have h2 : (i + 1) * z + e = z + (i * z + e) := by rw [Nat.succ_mul]; omega
    rw [h1, h2, List.take_append, List.drop_append, List.take_of_length_le (by rw [hf]; omega), List.drop_of_length_le (by rw [hf]; omega), hf, Nat.add_sub_cancel_left, Nat.add_sub_cancel_left]
    simp
namespace Try
open Go.Proofs
theorem mem_leafy {l : List Bool} {xs : List AV} (h : Leafy l xs xs) : ∀ c ∈ xs, MemFree c := by
  obtain ⟨us, vs, rfl, _, _⟩ := leafy_vs _ _ _ h
  intro c hc
  obtain ⟨x, _, rfl⟩ := List.mem_map.1 hc
  exact .v _
theorem mem_csNode (l : List Node) : ∀ c ∈ csNode l, MemFree c := fun c hc => by
  obtain ⟨n, _, h⟩ := List.mem_flatMap.1 hc
  exact mem_leafy (leafy_Node n n) c h
theorem get_nodes {l : List Node} {i : Int} (h0 : 0 ≤ i) (h1 : i < l.length) (o : Nat) (ho : o < 240) : (csNode l)[i.toNat * 240 + o]? = (cNode (nd l i))[o]? := by
  obtain ⟨h, e⟩ := nd_get h0 h1
  rw [e]
  exact get_row cNode len_cNode l i.toNat o h ho
theorem upd_nodes {l : List Node} {i : Int} (h0 : 0 ≤ i) (h1 : i < l.length) {o e : Nat} {xs : List AV} (hoe : o ≤ e) (he : e ≤ 240) {y : Node} (h : upd (cNode (nd l i)) o xs e = cNode y) : upd (csNode l) (i.toNat * 240 + o) xs (i.toNat * 240 + e) = csNode (l.set i.toNat y) := by
  obtain ⟨hi, e'⟩ := nd_get h0 h1
  rw [e'] at h
  exact upd_row cNode len_cNode o e xs hoe he l i.toNat hi y h
def withSt (n : Node) (s : Int) : Node := { n with status := s }
/-- The tree in which some nodes have a status. -/
def setAt (ns : List Node) (i s : Int) : List Node := ns.set i.toNat (withSt (nd ns i) s)
theorem upd_status {l : List Node} {i s : Int} (h0 : 0 ≤ i) (h1 : i < l.length) : upd (csNode l) (i.toNat * 240 + 239) [.v (.int .i64 s)] (i.toNat * 240 + 240) = csNode (setAt l i s) :=
  upd_nodes h0 h1 (by decide) (by decide) (up_Node_status (nd l i) _)
theorem get_status {l : List Node} {i : Int} (h0 : 0 ≤ i) (h1 : i < l.length) : (csNode l)[i.toNat * 240 + 239]? = some (.v (.int .i64 (nd l i).status)) := by
  rw [get_nodes h0 h1 239 (by decide)]
  exact get_Node_status (nd l i)
theorem setAt_len (ns : List Node) (i s : Int) : (setAt ns i s).length = ns.length := by simp [setAt]
def chg (to never : Int) : List Int → List Node → Option (List Node)
  | [], ns => some ns
  | i :: l, ns => if (nd ns i).status = never then none else chg to never l (setAt ns i to)
theorem chg_len {to never : Int} : ∀ (l : List Int) (ns r : List Node), chg to never l ns = some r → r.length = ns.length
  | [], ns, r, h => by simp only [chg, Option.some.injEq] at h; rw [h]
  | i :: l, ns, r, h => by
    simp only [chg] at h
    split at h
    · cases h
    · rw [chg_len l _ r h, setAt_len]
theorem nil_csNode {l : List Node} (h : 0 < l.length) : csNode l ≠ [] := by
  intro he
  have := congrArg List.length he
  rw [len_csNode] at this
  simp only [List.length_nil] at this
  omega
theorem c105 (l : List Node) (h0 : 0 < l.length) (hn : (l.length : Int) < 1000000) : callL Try.prog 105 [.sl l.length (csNode l)] = some (.uniq 54 240 l.length (csNode l)) := by
  rw [callL_eq Try.prog Try.func105 rfl ok105 _ (ext_none _ (by decide)) rfl]
  have hne := nil_csNode h0
  have ha := fun s g => ao_zero (e := 54) (sz := 240) (by_ := 352) (s := s) (g := g) (n := l.length) (cs := csNode l) (by simp) (by omega) (by unfold maxLen; omega)
  simp -implicitDefEqProofs only [ZZ, seval, hne, ha]
  exact endL_row (keep_none (by decide)) (.inl rfl) rfl (by simp only [EV, seval]; rfl) (by simp only [EV, seval]) (flat_csNode _)
theorem k105 (l : List Node) (h0 : 0 < l.length) (hn : (l.length : Int) < 1000000) (st : St) (d : Nat) : callFn (callL Try.prog) 105 [.sl l.length (csNode l)] st (some d) = some { dst := some d, val := .own d (st.cnt d), new := some (d, [.row 54 240 l.length (csNode l)]) } := call_uniq (flat1 (.sl _ _ (flat_csNode l))) (c105 l h0 hn)
/-- copies.Tree -/
theorem c102 (ns : List Node) (h0 : 0 < ns.length) (hn : (ns.length : Int) < 1000000) : callL Try.prog 102 [.agg (cTree ⟨ns⟩)] = some (.agg [.uniq 54 240 ns.length (csNode ns)]) := by
  rw [callL_eq Try.prog Try.func102 rfl ok102 _ (ext_none _ (by decide)) rfl]
  have hK := k105 ns h0 hn
  simp -implicitDefEqProofs only [ZZ, seval, hK]
  refine endK_one rfl (.inl rfl) rfl (x := .agg [.own 5 0]) (by simp -implicitDefEqProofs only [resA, ZZ, seval]) (by simp [ownKeys, ownKeys1, ownKey]) (expoU_one (expoU_row (by simp only [EV, seval]) (flat_csNode _)))
theorem k102 (ns : List Node) (h0 : 0 < ns.length) (hn : (ns.length : Int) < 1000000) (st : St) (d : Nat) : callFn (callL Try.prog) 102 [.agg (cTree ⟨ns⟩)] st (some d) = some { dst := some d, val := .agg [.own d (st.cnt d)], new := some (d, [.row 54 240 ns.length (csNode ns)]) } := call_U1 (flat1 (flatT _)) (c102 ns h0 hn)
end Try
end Go.Ab
end
section
set_option linter.unusedSimpArgs false
set_option linter.unusedVariables false
set_option maxRecDepth 20000
set_option maxHeartbeats 4000000
namespace Go.Ab.Try
open Classical Go.Proofs Go.Ab
theorem drop_it {l : List Int} {k : Nat} (h : k < l.length) : l.drop k = it l k :: l.drop (k + 1) := by
  rw [List.drop_eq_getElem_cons h]
  simp [it, h]
theorem keys1 (s g : Nat) (x : Value) : (ownKeys (.tup [.agg [.own s g], .v x])).Nodup := by simp [ownKeys, ownKeys1, ownKey]
theorem keys0 (y x : Value) : (ownKeys (.tup [.agg [.v y], .v x])).Nodup := by simp [ownKeys, ownKeys1, ownKey]
def err2 (e : Int) : AV := .tup [.agg [.v (.slice none 0 0)], .v (.int .i64 e)]
def chU (o : Option (List Node)) : AV :=
  match o with
  | none => err2 21
  | some r => .tup [.agg [.uniq 54 240 r.length (csNode r)], .v (.int .i64 0)]
def chS (o : Option (List Node)) : AV :=
  match o with
  | none => .tup [.agg [.v (.slice none 0 0)], .v (.bool false)]
  | some r => .tup [.agg [.uniq 54 240 r.length (csNode r)], .v (.bool true)]
/-- status.change -/
theorem c98 (ns : List Node) (h0 : 0 < ns.length) (hn : (ns.length : Int) < 1000000) (l : List Int) (hl : (l.length : Int) < 1000000) (hne : l ≠ []) (hm : ∀ x ∈ l, 0 ≤ x ∧ x < ns.length) (to never : Int) :
    callL Try.prog 98 [.agg (cTree ⟨ns⟩), .sl l.length (csInt l), .v (.int .i64 to), .v (.int .i64 never)] = some (chU (chg to never l ns)) := by
  rw [callL_eq Try.prog Try.func98 rfl ok98 _ (ext_none _ (by decide)) rfl]
  have hq : ((l.length : Int) == 0) = false := by simp [hne]
  have hK := k102 ns h0 hn
  simp -implicitDefEqProofs only [ZZ, seval, hq, hK]
  refine use_loop (fun n st => ∃ (k : Nat) (cur : List Node), (st.env 2 = .v (.int .i64 to) ∧ st.env 3 = .v (.int .i64 never) ∧ st.env 8 = .ptr 8 0 0 ∧ st.heap 8 0 = some (.cells [.v (.slice none 0 0)]) ∧ st.env 10 = .ptr 10 0 0 ∧ st.heap 10 0 = some (.cells [.own 18 0]) ∧ st.heap 18 0 = some (.row 54 240 cur.length (csNode cur)) ∧ st.env 19 = .sl l.length (csInt l) ∧ st.env 20 = .v (.int .i64 l.length) ∧ st.env 21 = .v (.int .i64 k)) ∧ cur.length = ns.length ∧ chg to never l ns = chg to never (l.drop k) cur ∧ k ≤ l.length ∧ n = l.length - k)
    (fun e st => (e = .ret ∧ chg to never l ns = none ∧ st.env 8 = .ptr 8 0 0 ∧ st.heap 8 0 = some (.cells [.v (.slice none 0 0)]) ∧ st.env 9 = .v (.int .i64 21)) ∨ (e = .exit 0 ∧ ∃ r, chg to never l ns = some r ∧ st.env 8 = .ptr 8 0 0 ∧ st.heap 8 0 = some (.cells [.v (.slice none 0 0)]) ∧ st.env 10 = .ptr 10 0 0 ∧ st.heap 10 0 = some (.cells [.own 18 0]) ∧ st.heap 18 0 = some (.row 54 240 r.length (csNode r)))) l.length ?step ?start ?rest
  case step =>
    rintro n st ⟨k, cur, hI, hcl, hc, hk, hn'⟩
    by_cases hlt : (k : Int) < l.length
    · have q0 : (0 : Int) ≤ k := by omega
      have hw : IntKind.i64.wrap ((k : Int) + 1) = ((k + 1 : Nat) : Int) := by rw [w64 _ (by omega) (by omega)]; omega
      obtain ⟨x0, x1⟩ := hm _ (it_mem q0 hlt)
      have x2 : it l k < cur.length := by omega
      rw [drop_it (by omega)] at hc
      simp only [chg] at hc
      have hg := get_status x0 x2
      by_cases hs : (nd cur (it l k)).status = never
      · rw [if_pos hs] at hc
        have hb : ((nd cur (it l k)).status == never) = true := by simp [hs]
        refine go_out (e := .ret) (st' := ?s1) ?h1 (by simp) ?q1
        case h1 =>
          simp -implicitDefEqProofs only [ZZ, seval, hI, hlt, q0, x0, x2, hg, hb]
          rfl
        case q1 => exact .inl ⟨rfl, hc, by simp only [EV, seval, hI], by simp only [EV, seval, hI], by simp only [EV, seval, hI]⟩
      · rw [if_neg hs] at hc
        have hb : ((nd cur (it l k)).status == never) = false := by simp [hs]
        have hu := upd_status (s := to) x0 x2
        have hle : (it l k).toNat * 240 + 239 + 1 ≤ cur.length * 240 := by
          have : ((it l k).toNat + 1) * 240 ≤ cur.length * 240 := Nat.mul_le_mul_right _ (by omega)
          omega
        have hle2 : (it l k).toNat * 240 + 240 ≤ cur.length * 240 := by omega
        refine go_on (st' := ?s2) ?h2 (l.length - (k + 1)) (by omega) ?q2
        case h2 =>
          simp -implicitDefEqProofs only [ZZ, seval, hI, hlt, q0, x0, x2, hg, hb, hu, hle, hle2, hw]
          rfl
        case q2 => exact ⟨k + 1, setAt cur (it l k) to, by simp only [EV, seval, hI, setAt_len], by rw [setAt_len]; exact hcl, hc, by omega, rfl⟩
    · obtain rfl : k = l.length := by omega
      rw [List.drop_length] at hc
      refine go_out (e := .exit 0) (st' := ?s3) ?h3 (by simp) ?q3
      case h3 =>
        simp -implicitDefEqProofs only [ZZ, seval, hI, hlt]
        rfl
      case q3 => exact .inr ⟨rfl, cur, hc, by simp only [EV, seval, hI]⟩
  case start => exact ⟨0, ns, by simp only [EV, seval] <;> rfl, rfl, rfl, by omega, by omega⟩
  case rest =>
    rintro e st (⟨rfl, hc, hI⟩ | ⟨rfl, r, hc, hI⟩)
    · rw [hc]
      simp -implicitDefEqProofs only [ZZ, seval]
      exact endK_two rfl (.inl rfl) rfl (x1 := .agg [.v (.slice none 0 0)]) (x2 := .v (.int .i64 21)) (by simp -implicitDefEqProofs only [resA, ZZ, seval, hI]) (by simp -implicitDefEqProofs only [resA, ZZ, seval, hI]) (keys0 _ _) (expoU_tup (expoU_nil _) (expoU_v _ _))
    · rw [hc]
      simp -implicitDefEqProofs only [ZZ, seval, hI]
      exact endK_two rfl (.inl rfl) rfl (x1 := .agg [.own 18 0]) (x2 := .v (.int .i64 0)) (by simp -implicitDefEqProofs only [resA, ZZ, seval, hI]) (by simp -implicitDefEqProofs only [resA, ZZ, seval, hI]) (keys1 _ _ _) (expoU_tup (expoU_row (by simp only [EV, seval, hI]) (flat_csNode _)) (expoU_v _ _))
theorem c98n (ns : List Node) (to never : Int) : callL Try.prog 98 [.agg (cTree ⟨ns⟩), .v (.slice none 0 0), .v (.int .i64 to), .v (.int .i64 never)] = some (err2 10) := by
  rw [callL_eq Try.prog Try.func98 rfl ok98 _ (ext_none _ (by decide)) rfl]
  simp -implicitDefEqProofs only [ZZ, seval]
  exact endK_two rfl (.inl rfl) rfl (x1 := .agg [.v (.slice none 0 0)]) (x2 := .v (.int .i64 10)) (by simp -implicitDefEqProofs only [resA, ZZ, seval]) (by simp -implicitDefEqProofs only [resA, ZZ, seval]) (keys0 _ _) (expoU_tup (expoU_nil _) (expoU_v _ _))
/-- ref11.set -/
theorem c104 (ns : List Node) (h0 : 0 < ns.length) (hn : (ns.length : Int) < 1000000) (l : List Int) (hl : (l.length : Int) < 1000000) (hm : ∀ x ∈ l, 0 ≤ x ∧ x < ns.length) (to never : Int) :
    callL Try.prog 104 [.agg (cTree ⟨ns⟩), .sl l.length (csInt l), .v (.int .i64 to), .v (.int .i64 never)] = some (chS (chg to never l ns)) := by
  rw [callL_eq Try.prog Try.func104 rfl ok104 _ (ext_none _ (by decide)) rfl]
  simp -implicitDefEqProofs only [ZZ, seval, hn]
  refine use_loop (fun n st => ∃ (k : Nat) (cur : List Node), (st.env 1 = .sl l.length (csInt l) ∧ st.env 2 = .v (.int .i64 to) ∧ st.env 3 = .v (.int .i64 never) ∧ st.env 8 = .ptr 8 0 0 ∧ st.heap 8 0 = some (.cells [.v (.slice none 0 0)]) ∧ st.env 10 = .ptr 10 0 0 ∧ st.heap 10 0 = some (.cells [.own 14 0]) ∧ st.heap 14 0 = some (.row 54 240 cur.length (csNode cur)) ∧ st.env 11 = .v (.int .i64 k)) ∧ cur.length = ns.length ∧ chg to never l ns = chg to never (l.drop k) cur ∧ k ≤ l.length ∧ n = l.length - k)
    (fun e st => (e = .ret ∧ chg to never l ns = none ∧ st.env 8 = .ptr 8 0 0 ∧ st.heap 8 0 = some (.cells [.v (.slice none 0 0)]) ∧ st.env 9 = .v (.bool false)) ∨ (e = .exit 0 ∧ ∃ r, chg to never l ns = some r ∧ st.env 8 = .ptr 8 0 0 ∧ st.heap 8 0 = some (.cells [.v (.slice none 0 0)]) ∧ st.env 10 = .ptr 10 0 0 ∧ st.heap 10 0 = some (.cells [.own 14 0]) ∧ st.heap 14 0 = some (.row 54 240 r.length (csNode r)))) l.length ?step ?start ?rest
  case step =>
    rintro n st ⟨k, cur, hI, hcl, hc, hk, hn'⟩
    by_cases hlt : (k : Int) < l.length
    · have q0 : (0 : Int) ≤ k := by omega
      have hw : IntKind.i64.wrap ((k : Int) + 1) = ((k + 1 : Nat) : Int) := by rw [w64 _ (by omega) (by omega)]; omega
      obtain ⟨x0, x1⟩ := hm _ (it_mem q0 hlt)
      have x2 : it l k < cur.length := by omega
      rw [drop_it (by omega)] at hc
      simp only [chg] at hc
      have hg := get_status x0 x2
      by_cases hs : (nd cur (it l k)).status = never
      · rw [if_pos hs] at hc
        have hb : ((nd cur (it l k)).status == never) = true := by simp [hs]
        refine go_out (e := .ret) (st' := ?s4) ?h4 (by simp) ?q4
        case h4 =>
          simp -implicitDefEqProofs only [ZZ, seval, hI, hlt, q0, x0, x2, hg, hb]
          rfl
        case q4 => exact .inl ⟨rfl, hc, by simp only [EV, seval, hI], by simp only [EV, seval, hI], by simp only [EV, seval, hI]⟩
      · rw [if_neg hs] at hc
        have hb : ((nd cur (it l k)).status == never) = false := by simp [hs]
        have hu := upd_status (s := to) x0 x2
        have hle : (it l k).toNat * 240 + 239 + 1 ≤ cur.length * 240 := by
          have : ((it l k).toNat + 1) * 240 ≤ cur.length * 240 := Nat.mul_le_mul_right _ (by omega)
          omega
        have hle2 : (it l k).toNat * 240 + 240 ≤ cur.length * 240 := by omega
        refine go_on (st' := ?s5) ?h5 (l.length - (k + 1)) (by omega) ?q5
        case h5 =>
          simp -implicitDefEqProofs only [ZZ, seval, hI, hlt, q0, x0, x2, hg, hb, hu, hle, hle2, hw]
          rfl
        case q5 => exact ⟨k + 1, setAt cur (it l k) to, by simp only [EV, seval, hI, setAt_len], by rw [setAt_len]; exact hcl, hc, by omega, rfl⟩
    · obtain rfl : k = l.length := by omega
      rw [List.drop_length] at hc
      refine go_out (e := .exit 0) (st' := ?s6) ?h6 (by simp) ?q6
      case h6 =>
        simp -implicitDefEqProofs only [ZZ, seval, hI, hlt]
        rfl
      case q6 => exact .inr ⟨rfl, cur, hc, by simp only [EV, seval, hI]⟩
  case start => exact ⟨0, ns, by simp only [EV, seval] <;> rfl, rfl, rfl, by omega, by omega⟩
  case rest =>
    rintro e st (⟨rfl, hc, hI⟩ | ⟨rfl, r, hc, hI⟩)
    · rw [hc]
      simp -implicitDefEqProofs only [ZZ, seval]
      exact endK_two rfl (.inl rfl) rfl (x1 := .agg [.v (.slice none 0 0)]) (x2 := .v (.bool false)) (by simp -implicitDefEqProofs only [resA, ZZ, seval, hI]) (by simp -implicitDefEqProofs only [resA, ZZ, seval, hI]) (keys0 _ _) (expoU_tup (expoU_nil _) (expoU_v _ _))
    · rw [hc]
      simp -implicitDefEqProofs only [ZZ, seval, hI]
      exact endK_two rfl (.inl rfl) rfl (x1 := .agg [.own 14 0]) (x2 := .v (.bool true)) (by simp -implicitDefEqProofs only [resA, ZZ, seval, hI]) (by simp -implicitDefEqProofs only [resA, ZZ, seval, hI]) (keys1 _ _ _) (expoU_tup (expoU_row (by simp only [EV, seval, hI]) (flat_csNode _)) (expoU_v _ _))
end Go.Ab.Try
end
section
set_option linter.unusedSimpArgs false
set_option linter.unusedVariables false
set_option maxRecDepth 20000
set_option maxHeartbeats 4000000
namespace Go.Ab.Try
open Classical Go.Proofs Go.Ab
theorem q98 (args : List AV) (st : St) (d : Option Nat) : callFn (callL Try.prog) 98 args st d = callQ (callL Try.prog) 98 (optAll (args.map (expo st))) (decide (∀ x ∈ args, Flat x)) st d := callFn_Q _ _ _ _ _
theorem q104 (args : List AV) (st : St) (d : Option Nat) : callFn (callL Try.prog) 104 args st d = callQ (callL Try.prog) 104 (optAll (args.map (expo st))) (decide (∀ x ∈ args, Flat x)) st d := callFn_Q _ _ _ _ _
theorem flat_nil1 : Flat (.agg [.v (.slice none 0 0)]) := .agg _ (flat1 (.v _))
theorem flat_err2 (e : Int) : Flat (err2 e) := .tup _ (flat2 flat_nil1 (.v _))
def stA (o : Option (List Node)) : AV :=
  match o with
  | none => err2 21
  | some r => .tup [.agg (cTree ⟨r⟩), .v (.int .i64 0)]
theorem flat_stA (o : Option (List Node)) : Flat (stA o) := by
  cases o with
  | none => exact flat_err2 _
  | some r => exact .tup _ (flat2 (flatT _) (.v _))
noncomputable def raO (ns : List Node) (i : Int) : Option (List Node) := chg 1 2 (path ns i) ns
noncomputable def coO (ns : List Node) (i : Int) : Option (List Node) := chg 2 1 (dsc ns i ns.length) ns
noncomputable def raV (ns : List Node) (i : Int) : AV := if 0 ≤ i ∧ i < ns.length then stA (raO ns i) else err2 10
noncomputable def coV (ns : List Node) (i : Int) : AV := if 0 ≤ i ∧ i < ns.length then stA (coO ns i) else err2 10
theorem path_in {ns : List Node} (hu : UpOk ns) {i : Int} : ∀ x ∈ path ns i, 0 ≤ x ∧ x < ns.length := fun x hx => path_range hu hx
theorem dsc_rng (ns : List Node) (i : Int) : ∀ x ∈ dsc ns i ns.length, 0 ≤ x ∧ x < ns.length := fun x hx => ((dsc_mem ns i x _).1 hx).1
/-- status.Raise -/
theorem c70 (ns : List Node) (hu : UpOk ns) (hr : (nd ns 0).up = -1) (hn : (ns.length : Int) < 1000000) (i : Int) : callL Try.prog 70 [.agg (cTree ⟨ns⟩), .v (.int .i64 i)] = some (raV ns i) := by
  rw [callL_eq Try.prog Try.func70 rfl ok70 _ (ext_none _ (by decide)) rfl]
  unfold raV
  by_cases hm : 0 ≤ i ∧ i < ns.length
  · rw [if_pos hm]
    have h44 := k44 ns hu hr hn i hm.1 hm.2
    have hpl := path_lt hu i
    have hc := c98 ns (by omega) hn (path ns i) (by omega) (by have := path_nz hu hm.1 hm.2; intro h; rw [h] at this; simp at this) (path_in hu) 1 2
    unfold raO
    cases ho : chg 1 2 (path ns i) ns with
    | none =>
      rw [ho] at hc
      have hK := fun (fl : Bool) (st : St) (d : Option Nat) => Q_n2 (fl := fl) (st := st) (d := d) hc
      simp -implicitDefEqProofs only [ZZ, seval, h44, q98, hK, extA]
      exact endL_two (keep_none (by decide)) (.inl rfl) rfl (by simp -implicitDefEqProofs only [resA, ZZ, seval]; rfl) (by simp only [resA, EV, seval] <;> rfl) (by simp only [EV, seval] <;> rfl) (by simp only [EV, seval] <;> rfl)
    | some r =>
      rw [ho] at hc
      have hK := fun (fl : Bool) (st : St) (d : Nat) => Q_U2 (fl := fl) (st := st) (d := d) hc (mem_csNode r)
      simp -implicitDefEqProofs only [ZZ, seval, h44, q98, hK, extA]
      exact endL_two (keep_none (by decide)) (.inl rfl) rfl (by simp -implicitDefEqProofs only [resA, ZZ, seval]; rfl) (by simp only [resA, EV, seval] <;> rfl) (by simp only [EV, seval] <;> rfl) (by simp only [EV, seval] <;> rfl)
  · rw [if_neg hm]
    have h44 := k44n ns i hm
    have hK := fun (fl : Bool) (st : St) (d : Option Nat) => Q_n2 (fl := fl) (st := st) (d := d) (c98n ns 1 2)
    simp -implicitDefEqProofs only [ZZ, seval, h44, q98, hK, extA]
    exact endL_two (keep_none (by decide)) (.inl rfl) rfl (by simp -implicitDefEqProofs only [resA, ZZ, seval]; rfl) (by simp only [resA, EV, seval] <;> rfl) (by simp only [EV, seval] <;> rfl) (by simp only [EV, seval] <;> rfl)
/-- status.Condemn -/
theorem c71 (ns : List Node) (hu : UpOk ns) (hr : (nd ns 0).up = -1) (hn : (ns.length : Int) < 1000000) (i : Int) : callL Try.prog 71 [.agg (cTree ⟨ns⟩), .v (.int .i64 i)] = some (coV ns i) := by
  rw [callL_eq Try.prog Try.func71 rfl ok71 _ (ext_none _ (by decide)) rfl]
  unfold coV
  by_cases hm : 0 ≤ i ∧ i < ns.length
  · rw [if_pos hm]
    have h47 := k47 ns hu hr hn i hm.1 hm.2
    have hdl := dsc_len ns i ns.length
    have hc := c98 ns (by omega) hn (dsc ns i ns.length) (by omega) (dsc_ne hu hm.1 hm.2 _ hm.2) (dsc_rng ns i) 2 1
    unfold coO
    cases ho : chg 2 1 (dsc ns i ns.length) ns with
    | none =>
      rw [ho] at hc
      have hK := fun (fl : Bool) (st : St) (d : Option Nat) => Q_n2 (fl := fl) (st := st) (d := d) hc
      simp -implicitDefEqProofs only [ZZ, seval, h47, q98, hK, extA]
      exact endL_two (keep_none (by decide)) (.inl rfl) rfl (by simp -implicitDefEqProofs only [resA, ZZ, seval]; rfl) (by simp only [resA, EV, seval] <;> rfl) (by simp only [EV, seval] <;> rfl) (by simp only [EV, seval] <;> rfl)
    | some r =>
      rw [ho] at hc
      have hK := fun (fl : Bool) (st : St) (d : Nat) => Q_U2 (fl := fl) (st := st) (d := d) hc (mem_csNode r)
      simp -implicitDefEqProofs only [ZZ, seval, h47, q98, hK, extA]
      exact endL_two (keep_none (by decide)) (.inl rfl) rfl (by simp -implicitDefEqProofs only [resA, ZZ, seval]; rfl) (by simp only [resA, EV, seval] <;> rfl) (by simp only [EV, seval] <;> rfl) (by simp only [EV, seval] <;> rfl)
  · rw [if_neg hm]
    have h47 := k47n ns i hm
    have hK := fun (fl : Bool) (st : St) (d : Option Nat) => Q_n2 (fl := fl) (st := st) (d := d) (c98n ns 2 1)
    simp -implicitDefEqProofs only [ZZ, seval, h47, q98, hK, extA]
    exact endL_two (keep_none (by decide)) (.inl rfl) rfl (by simp -implicitDefEqProofs only [resA, ZZ, seval]; rfl) (by simp only [resA, EV, seval] <;> rfl) (by simp only [EV, seval] <;> rfl) (by simp only [EV, seval] <;> rfl)
/-- ref11.Raise -/
theorem c96 (ns : List Node) (hu : UpOk ns) (hn : (ns.length : Int) < 1000000) (i : Int) : callL Try.prog 96 [.agg (cTree ⟨ns⟩), .v (.int .i64 i)] = some (raV ns i) := by
  rw [callL_eq Try.prog Try.func96 rfl ok96 _ (ext_none _ (by decide)) rfl]
  unfold raV
  by_cases hm : 0 ≤ i ∧ i < ns.length
  · rw [if_pos hm]
    have hd : (decide (0 ≤ i) && decide (i < ns.length)) = true := by simp [hm.1, hm.2]
    have h45 := k45 ns hu hn i hm.1 hm.2
    have hpl := path_lt hu i
    have hc := c104 ns (by omega) hn (path ns i) (by omega) (path_in hu) 1 2
    unfold raO
    cases ho : chg 1 2 (path ns i) ns with
    | none =>
      rw [ho] at hc
      have hK := fun (fl : Bool) (st : St) (d : Option Nat) => Q_n2 (fl := fl) (st := st) (d := d) hc
      simp -implicitDefEqProofs only [ZZ, seval, k86, hd, h45, q104, hK, extA]
      exact endL_two (keep_none (by decide)) (.inl rfl) rfl (by simp -implicitDefEqProofs only [resA, ZZ, seval]; rfl) (by simp only [resA, EV, seval] <;> rfl) (by simp only [EV, seval] <;> rfl) (by simp only [EV, seval] <;> rfl)
    | some r =>
      rw [ho] at hc
      have hK := fun (fl : Bool) (st : St) (d : Nat) => Q_U2 (fl := fl) (st := st) (d := d) hc (mem_csNode r)
      simp -implicitDefEqProofs only [ZZ, seval, k86, hd, h45, q104, hK, extA]
      exact endL_two (keep_none (by decide)) (.inl rfl) rfl (by simp -implicitDefEqProofs only [resA, ZZ, seval]; rfl) (by simp only [resA, EV, seval] <;> rfl) (by simp only [EV, seval] <;> rfl) (by simp only [EV, seval] <;> rfl)
  · rw [if_neg hm]
    have hd : (decide (0 ≤ i) && decide (i < ns.length)) = false := by rw [← Bool.not_eq_true]; simpa using hm
    simp -implicitDefEqProofs only [ZZ, seval, k86, hd]
    exact endL_two (keep_none (by decide)) (.inl rfl) rfl (by simp -implicitDefEqProofs only [resA, ZZ, seval]; rfl) (by simp only [resA, EV, seval] <;> rfl) (by simp only [EV, seval] <;> rfl) (by simp only [EV, seval] <;> rfl)
/-- ref11.Condemn -/
theorem c97 (ns : List Node) (hu : UpOk ns) (hn : (ns.length : Int) < 1000000) (i : Int) : callL Try.prog 97 [.agg (cTree ⟨ns⟩), .v (.int .i64 i)] = some (coV ns i) := by
  rw [callL_eq Try.prog Try.func97 rfl ok97 _ (ext_none _ (by decide)) rfl]
  unfold coV
  by_cases hm : 0 ≤ i ∧ i < ns.length
  · rw [if_pos hm]
    have hd : (decide (0 ≤ i) && decide (i < ns.length)) = true := by simp [hm.1, hm.2]
    have h36 := k36 ns hu hn i (dsc_ne hu hm.1 hm.2 _ hm.2)
    have hdl := dsc_len ns i ns.length
    have hc := c104 ns (by omega) hn (dsc ns i ns.length) (by omega) (dsc_rng ns i) 2 1
    unfold coO
    cases ho : chg 2 1 (dsc ns i ns.length) ns with
    | none =>
      rw [ho] at hc
      have hK := fun (fl : Bool) (st : St) (d : Option Nat) => Q_n2 (fl := fl) (st := st) (d := d) hc
      simp -implicitDefEqProofs only [ZZ, seval, k86, hd, h36, q104, hK, extA]
      exact endL_two (keep_none (by decide)) (.inl rfl) rfl (by simp -implicitDefEqProofs only [resA, ZZ, seval]; rfl) (by simp only [resA, EV, seval] <;> rfl) (by simp only [EV, seval] <;> rfl) (by simp only [EV, seval] <;> rfl)
    | some r =>
      rw [ho] at hc
      have hK := fun (fl : Bool) (st : St) (d : Nat) => Q_U2 (fl := fl) (st := st) (d := d) hc (mem_csNode r)
      simp -implicitDefEqProofs only [ZZ, seval, k86, hd, h36, q104, hK, extA]
      exact endL_two (keep_none (by decide)) (.inl rfl) rfl (by simp -implicitDefEqProofs only [resA, ZZ, seval]; rfl) (by simp only [resA, EV, seval] <;> rfl) (by simp only [EV, seval] <;> rfl) (by simp only [EV, seval] <;> rfl)
  · rw [if_neg hm]
    have hd : (decide (0 ≤ i) && decide (i < ns.length)) = false := by rw [← Bool.not_eq_true]; simpa using hm
    simp -implicitDefEqProofs only [ZZ, seval, k86, hd]
    exact endL_two (keep_none (by decide)) (.inl rfl) rfl (by simp -implicitDefEqProofs only [resA, ZZ, seval]; rfl) (by simp only [resA, EV, seval] <;> rfl) (by simp only [EV, seval] <;> rfl) (by simp only [EV, seval] <;> rfl)
theorem flat_raV (ns : List Node) (i : Int) : Flat (raV ns i) := by unfold raV; split; exact flat_stA _; exact flat_err2 _
theorem flat_coV (ns : List Node) (i : Int) : Flat (coV ns i) := by unfold coV; split; exact flat_stA _; exact flat_err2 _
theorem k70 (ns : List Node) (hu : UpOk ns) (hr : (nd ns 0).up = -1) (hn : (ns.length : Int) < 1000000) (i : Int) (st : St) (d : Option Nat) : callFn (callL Try.prog) 70 [.agg (cTree ⟨ns⟩), .v (.int .i64 i)] st d = some { dst := d, val := raV ns i } := call_flat (flat2 (flatT _) (.v _)) (c70 ns hu hr hn i) (flat_raV ns i)
theorem k71 (ns : List Node) (hu : UpOk ns) (hr : (nd ns 0).up = -1) (hn : (ns.length : Int) < 1000000) (i : Int) (st : St) (d : Option Nat) : callFn (callL Try.prog) 71 [.agg (cTree ⟨ns⟩), .v (.int .i64 i)] st d = some { dst := d, val := coV ns i } := call_flat (flat2 (flatT _) (.v _)) (c71 ns hu hr hn i) (flat_coV ns i)
theorem k96 (ns : List Node) (hu : UpOk ns) (hn : (ns.length : Int) < 1000000) (i : Int) (st : St) (d : Option Nat) : callFn (callL Try.prog) 96 [.agg (cTree ⟨ns⟩), .v (.int .i64 i)] st d = some { dst := d, val := raV ns i } := call_flat (flat2 (flatT _) (.v _)) (c96 ns hu hn i) (flat_raV ns i)
theorem k97 (ns : List Node) (hu : UpOk ns) (hn : (ns.length : Int) < 1000000) (i : Int) (st : St) (d : Option Nat) : callFn (callL Try.prog) 97 [.agg (cTree ⟨ns⟩), .v (.int .i64 i)] st d = some { dst := d, val := coV ns i } := call_flat (flat2 (flatT _) (.v _)) (c97 ns hu hn i) (flat_coV ns i)
end Go.Ab.Try
end
