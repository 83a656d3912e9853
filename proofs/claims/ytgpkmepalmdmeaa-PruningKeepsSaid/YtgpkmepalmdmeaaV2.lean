/-
  Part V2 of the proof: what functions of this program compute.
-/
import Derived.Test.YtgpkmepalmdmeaaV1
import Derived.Test.YtgpkmepalmdmeaaK5
set_option linter.all false
set_option linter.unusedSimpArgs false
set_option linter.unusedVariables false
set_option maxRecDepth 20000
set_option maxHeartbeats 4000000
namespace Go.Ab
open Classical
/-- A look into a map of the call's own, by what it holds. -/
noncomputable def lkE (P : Program) (k : Nat) (z : AV) (e : Option Ent) (x : AV) (ok : Bool) : Option AV :=
  match e with
  | some (.map es) =>
    if keyOkA P k x x ∧ ∀ p ∈ es, keyOkA P k x p.1 then
      match mget es x with
      | some v => some (if ok = true then .tup [v, .v (.bool true)] else v)
      | none => some (if ok = true then .tup [z, .v (.bool false)] else z)
    else none
  | _ => none
noncomputable def msE (P : Program) (k : Nat) (e : Option Ent) (x y : AV) : Option Ent :=
  match e with
  | some (.map es) => if (keyOkA P k x x ∧ ∀ p ∈ es, keyOkA P k x p.1) ∧ y.stor = true then some (.map (mset es x y)) else none
  | _ => none
theorem look_E {P : Program} {st : St} {T k : Nat} {z : AV} (hi : mapInfo P T = some (k, z)) (s g : Nat) (x : AV) (ok : Bool) : lookA P st T (.mp s g) x ok = lkE P k z (st.heap s g) x ok := by
  simp only [lookA, hi, lkE]
  cases st.heap s g with
  | none => rfl
  | some e => cases e <;> rfl
theorem mset_E {P : Program} {st : St} {T k : Nat} {z : AV} (hi : mapInfo P T = some (k, z)) (s g : Nat) (x y : AV) : mapSetA P st T (.mp s g) x y = bnd (msE P k (st.heap s g) x y) fun e => some (s, g, e) := by
  simp only [mapSetA, hi, msE]
  cases st.heap s g with
  | none => rfl
  | some e =>
    cases e with
    | map es =>
      simp only
      split <;> rfl
    | _ => rfl
namespace Try
open Go.Proofs
theorem mi94 : mapInfo Try.prog 94 = some (44, .v (.bool false)) := by kernel_rfl
theorem key44 (a b : Root) : keyOkA Try.prog 44 (.agg (cRoot a)) (.agg (cRoot b)) := by
  have h : eqLeaves Try.prog 20 44 = some lRoot := by kernel_rfl
  have h2 : isAggT Try.prog 44 = true := by kernel_rfl
  unfold keyOkA
  rw [h]
  exact ⟨leafy_root a b, fun _ => ⟨⟨_, rfl⟩, _, rfl⟩, fun h3 => by rw [h2] at h3; cases h3⟩
/-- The roots that are known. -/
def mpR (l : List Root) : List (AV × AV) := l.map fun r => (.agg (cRoot r), .v (.bool true))
theorem mpR_key (l : List Root) (r : Root) : keyOkA Try.prog 44 (.agg (cRoot r)) (.agg (cRoot r)) ∧ ∀ p ∈ mpR l, keyOkA Try.prog 44 (.agg (cRoot r)) p.1 :=
  ⟨key44 r r, fun p hp => by obtain ⟨x, _, rfl⟩ := List.mem_map.1 hp; exact key44 r x⟩
theorem mget_R (r : Root) : ∀ l : List Root, mget (mpR l) (.agg (cRoot r)) = if r ∈ l then some (.v (.bool true)) else none
  | [] => rfl
  | a :: l => by
    have ih := mget_R r l
    simp only [mpR, List.map_cons, mget] at *
    by_cases h : a = r
    · subst h; simp
    · have h2 : ¬ AV.agg (cRoot a) = AV.agg (cRoot r) := fun h' => h ((cRoot_inj a r).1 (by simpa using h'))
      rw [if_neg h2, ih]
      simp [Ne.symm h]
theorem mset_R {r : Root} : ∀ l : List Root, r ∉ l → mset (mpR l) (.agg (cRoot r)) (.v (.bool true)) = mpR (l ++ [r])
  | [], _ => rfl
  | a :: l, hn => by
    have ih := mset_R l (fun (h : r ∈ l) => hn (List.mem_cons_of_mem _ h))
    simp only [mpR, List.map_cons, mset, List.cons_append] at *
    have h2 : ¬ AV.agg (cRoot a) = AV.agg (cRoot r) := fun h' => hn (by rw [(cRoot_inj a r).1 (by simpa using h')]; exact List.mem_cons_self ..)
    rw [if_neg h2, ih]
theorem lk94 (l : List Root) (r : Root) : lkE Try.prog 44 (.v (.bool false)) (some (.map (mpR l))) (.agg (cRoot r)) false = some (.v (.bool (decide (r ∈ l)))) := by
  simp only [lkE]
  rw [if_pos (mpR_key l r), mget_R]
  by_cases h : r ∈ l <;> simp [h]
theorem ms94 (l : List Root) (r : Root) (h : r ∉ l) : msE Try.prog 44 (some (.map (mpR l))) (.agg (cRoot r)) (.v (.bool true)) = some (.map (mpR (l ++ [r]))) := by
  simp only [msE]
  rw [if_pos ⟨mpR_key l r, rfl⟩, mset_R l h]
theorem look94 (st : St) (s g : Nat) (x : AV) (ok : Bool) : lookA Try.prog st 94 (.mp s g) x ok = lkE Try.prog 44 (.v (.bool false)) (st.heap s g) x ok := look_E mi94 s g x ok
theorem mset94 (st : St) (s g : Nat) (x y : AV) : mapSetA Try.prog st 94 (.mp s g) x y = bnd (msE Try.prog 44 (st.heap s g) x y) fun e => some (s, g, e) := mset_E mi94 s g x y
/-- The roots of the first nodes. -/
def rts (ns : List Node) (k : Nat) : List Root := (ns.take k).map fun n => n.block.root
theorem rts_succ {ns : List Node} {k : Nat} (h : k < ns.length) : rts ns (k + 1) = rts ns k ++ [(nd ns k).block.root] := by
  unfold rts
  rw [List.take_succ_eq_append_getElem h, List.map_append]
  simp [nd, h]
theorem rts_mem {ns : List Node} {k : Nat} (hk : k ≤ ns.length) (r : Root) : r ∈ rts ns k ↔ ∃ j : Int, 0 ≤ j ∧ j < k ∧ (nd ns j).block.root = r := by
  unfold rts
  rw [List.mem_map]
  constructor
  · rintro ⟨n, hn, rfl⟩
    obtain ⟨j, hj, rfl⟩ := List.getElem_of_mem hn
    simp only [List.length_take] at hj
    refine ⟨j, by omega, by omega, ?_⟩
    have : j < ns.length := by omega
    simp [nd, this]
  · rintro ⟨j, j0, j1, rfl⟩
    obtain ⟨h, e⟩ := nd_get (ns := ns) j0 (by omega)
    refine ⟨nd ns j, ?_, rfl⟩
    rw [e]
    exact List.mem_take_iff_getElem.2 ⟨j.toNat, by omega, rfl⟩
theorem valF_stop {ns : List Node} : ∀ (d k : Nat), valF ns k = 0 → nodeE ns k ≠ 0 → valF ns (k + 1 + d) = nodeE ns k
  | 0, k, h, h2 => by simp only [valF, Nat.add_zero, h, if_true]
  | d + 1, k, h, h2 => by
    have ih := valF_stop d k h h2
    rw [← Nat.add_assoc]
    simp only [valF]
    rw [if_neg (by rw [ih]; exact h2), ih]
theorem valF_at {ns : List Node} {k : Nat} (hk : k < ns.length) (h : valF ns k = 0) (h2 : nodeE ns k ≠ 0) : valF ns ns.length = nodeE ns k := by
  obtain ⟨d, hd⟩ : ∃ d, ns.length = k + 1 + d := ⟨ns.length - (k + 1), by omega⟩
  rw [hd]
  exact valF_stop d k h h2
end Try
end Go.Ab
