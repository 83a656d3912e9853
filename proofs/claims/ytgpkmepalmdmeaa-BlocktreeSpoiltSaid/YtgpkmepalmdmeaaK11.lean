/-
  Part K11 of the proof: several texts of the evaluator and of what functions of this program compute.
-/
import Derived.Test.YtgpkmepalmdmeaaK8
import Derived.Test.YtgpkmepalmdmeaaG5
import Derived.Test.YtgpkmepalmdmeaaK5
set_option linter.all false
section
set_option linter.unusedSimpArgs false
set_option linter.unusedVariables false
set_option maxRecDepth 20000
namespace Go.Ab.Try
open Classical Go.Proofs Go.Ab
/-- What Validate says of one node. -/
noncomputable def nodeE (ns : List Node) (i : Int) : Int :=
  if isSt (nd ns i).status = false ∨ (i = 0 ∧ (nd ns i).up ≠ -1) ∨ (0 < i ∧ ((nd ns i).up < 0 ∨ i ≤ (nd ns i).up)) then 2
  else if ∃ j : Int, 0 ≤ j ∧ j < i ∧ (nd ns j).block.root = (nd ns i).block.root then 9
  else if i = 0 then 0
  else if (nd ns i).block.parent ≠ (nd ns (nd ns i).up).block.root then 10
  else if (nd ns i).block.slot ≤ (nd ns (nd ns i).up).block.slot then 14
  else 0
noncomputable def valF (ns : List Node) : Nat → Int
  | 0 => 0
  | k + 1 => if valF ns k = 0 then nodeE ns k else valF ns k
noncomputable def valV (ns : List Node) : Int := if ns.length = 0 ∨ 4096 < ns.length then 11 else valF ns ns.length
/-- What Validate says of the statuses. -/
def stE (ns : List Node) (i : Int) : Prop := ((nd ns i).status = 1 ∧ (nd ns (nd ns i).up).status ≠ 1) ∨ ((nd ns (nd ns i).up).status = 2 ∧ (nd ns i).status ≠ 2)
noncomputable def clsV (ns : List Node) : Int := if valV ns = 0 then (if ∃ i : Int, 0 < i ∧ i < ns.length ∧ stE ns i then 15 else 0) else valV ns
/-- A valid tree. -/
structure Vld (ns : List Node) : Prop where
  len0 : 0 < ns.length
  lenM : ns.length ≤ 4096
  up0 : (nd ns 0).up = -1
  up : UpOk ns
  par : ∀ i : Int, 0 < i → i < ns.length → (nd ns i).block.parent = (nd ns (nd ns i).up).block.root
  slot : ∀ i : Int, 0 < i → i < ns.length → (nd ns (nd ns i).up).block.slot < (nd ns i).block.slot
  roots : ∀ i j : Int, 0 ≤ i → i < j → j < ns.length → (nd ns i).block.root ≠ (nd ns j).block.root
  st : ∀ i : Int, 0 ≤ i → i < ns.length → isSt (nd ns i).status = true
def Cld (ns : List Node) : Prop := ∀ i : Int, 0 < i → i < ns.length → ((nd ns i).status = 1 → (nd ns (nd ns i).up).status = 1) ∧ ((nd ns (nd ns i).up).status = 2 → (nd ns i).status = 2)
theorem Good.vld {ns : List Node} (g : Good ns) : Vld ns := ⟨g.len0, by have := g.len9; omega, g.up0, g.up, g.par, g.slot, g.roots, g.st⟩
theorem Good.cld {ns : List Node} (g : Good ns) : Cld ns := g.closed
theorem nodeE_ok {ns : List Node} (v : Vld ns) {i : Int} (i0 : 0 ≤ i) (i1 : i < ns.length) : nodeE ns i = 0 := by
  unfold nodeE
  rw [if_neg, if_neg]
  · by_cases h : i = 0
    · rw [if_pos h]
    · rw [if_neg h, if_neg (fun hn => hn (v.par i (by omega) i1)), if_neg]
      have := v.slot i (by omega) i1
      omega
  · rintro ⟨j, j0, j1, hj⟩
    exact v.roots j i j0 j1 i1 hj
  · rintro (h | ⟨rfl, h⟩ | ⟨h0, h⟩)
    · rw [v.st i i0 i1] at h; cases h
    · exact h v.up0
    · have := v.up i h0 i1; omega
theorem valF_ok {ns : List Node} (v : Vld ns) : ∀ k : Nat, k ≤ ns.length → valF ns k = 0
  | 0, _ => rfl
  | k + 1, h => by
    simp only [valF]
    rw [if_pos (valF_ok v k (by omega))]
    exact nodeE_ok v (by omega) (by omega)
theorem valV_ok {ns : List Node} (v : Vld ns) : valV ns = 0 := by
  unfold valV
  have := v.len0
  have := v.lenM
  rw [if_neg (by omega)]
  exact valF_ok v _ (Nat.le_refl _)
theorem cld_stE {ns : List Node} (c : Cld ns) {i : Int} (i0 : 0 < i) (i1 : i < ns.length) : ¬ stE ns i := by
  obtain ⟨h1, h2⟩ := c i i0 i1
  rintro (⟨h, h'⟩ | ⟨h, h'⟩)
  · exact h' (h1 h)
  · exact h' (h2 h)
theorem clsV_ok {ns : List Node} (v : Vld ns) (c : Cld ns) : clsV ns = 0 := by
  unfold clsV
  rw [if_pos (valV_ok v), if_neg]
  rintro ⟨i, i0, i1, h⟩
  exact cld_stE c i0 i1 h
/-- The pruned tree is valid. -/
theorem pr_back {ns : List Node} (hu : UpOk ns) {i : Int} (hi : anc ns i i = true) {m : Int} (m0 : 0 < m) (m1 : m < (prF ns i ns.length).1.length) : ∃ a : Int, 0 < a ∧ a < ns.length ∧ anc ns i a = true ∧ a ≠ i ∧ anc ns i (nd ns a).up = true ∧ it (prF ns i ns.length).2 a = m ∧
    (nd (prF ns i ns.length).1 m) = { nd ns a with up := it (prF ns i ns.length).2 (nd ns a).up } ∧ (nd (prF ns i ns.length).1 (it (prF ns i ns.length).2 (nd ns a).up)).block = (nd ns (nd ns a).up).block ∧ (nd (prF ns i ns.length).1 (it (prF ns i ns.length).2 (nd ns a).up)).status = (nd ns (nd ns a).up).status := by
  obtain ⟨a, a0, a1, ha, rfl⟩ := prF_onto ns i ns.length m (by omega) m1
  have hai : a ≠ i := by rintro rfl; rw [pr_zero hu hi] at m0; omega
  obtain ⟨a0', ⟨u0, u1⟩, hum⟩ := pr_up hu ha hai
  obtain ⟨_, _, h⟩ := pr_at hu ha
  obtain ⟨_, _, h'⟩ := pr_at hu hum
  refine ⟨a, a0', by omega, ha, hai, hum, rfl, ?_, ?_, ?_⟩
  · rw [h, if_neg hai]
  · rw [h']
  · rw [h']
theorem pr_any {ns : List Node} (hu : UpOk ns) {i m : Int} (m0 : 0 ≤ m) (m1 : m < (prF ns i ns.length).1.length) : ∃ a : Int, 0 ≤ a ∧ a < ns.length ∧ anc ns i a = true ∧ it (prF ns i ns.length).2 a = m ∧ (nd (prF ns i ns.length).1 m).block = (nd ns a).block ∧ (nd (prF ns i ns.length).1 m).status = (nd ns a).status := by
  obtain ⟨a, a0, a1, ha, rfl⟩ := prF_onto ns i ns.length m m0 m1
  obtain ⟨_, _, h⟩ := pr_at hu ha
  exact ⟨a, a0, by omega, ha, rfl, by rw [h], by rw [h]⟩
theorem pr_vld {ns : List Node} (v : Vld ns) {i : Int} (hi : anc ns i i = true) : Vld (prF ns i ns.length).1 where
  len0 := by have h := pr_at v.up hi; omega
  lenM := by have := prF_nodes ns i ns.length; have := v.lenM; omega
  up0 := by
    have h := (pr_at v.up hi).2.2
    rw [pr_zero v.up hi] at h
    rw [h]
    simp
  up := pr_upok v.up hi
  par := fun m m0 m1 => by
    obtain ⟨a, a0, a1, ha, hai, hum, he, h, hb, hs⟩ := pr_back v.up hi m0 m1
    rw [h]
    simp only
    rw [hb]
    exact v.par a a0 a1
  slot := fun m m0 m1 => by
    obtain ⟨a, a0, a1, ha, hai, hum, he, h, hb, hs⟩ := pr_back v.up hi m0 m1
    rw [h]
    simp only
    rw [hb]
    exact v.slot a a0 a1
  roots := fun m n m0 hmn n1 => by
    obtain ⟨a, a0, a1, ha, he, hb, _⟩ := pr_any v.up (i := i) m0 (show m < _ by omega)
    obtain ⟨c, c0, c1, hc, he', hb', _⟩ := pr_any v.up (i := i) (show 0 ≤ n by omega) n1
    rw [hb, hb']
    intro h
    rcases Int.lt_trichotomy a c with hl | hl | hl
    · exact v.roots a c a0 hl c1 h
    · subst hl; omega
    · exact v.roots c a c0 hl a1 h.symm
  st := fun m m0 m1 => by
    obtain ⟨a, a0, a1, ha, he, hb, hs⟩ := pr_any v.up (i := i) m0 m1
    rw [hs]
    exact v.st a a0 a1
theorem pr_cld {ns : List Node} (hu : UpOk ns) (c : Cld ns) {i : Int} (hi : anc ns i i = true) : Cld (prF ns i ns.length).1 := fun m m0 m1 => by
  obtain ⟨a, a0, a1, ha, hai, hum, he, h, hb, hs⟩ := pr_back hu hi m0 m1
  rw [h]
  simp only
  rw [hs]
  exact c a a0 a1
end Go.Ab.Try
end
section
set_option linter.unusedSimpArgs false
set_option linter.unusedVariables false
set_option maxRecDepth 20000
set_option maxHeartbeats 4000000
namespace Go.Ab
open Classical
/-- A look into a map of the call's own, by what it holds. -/
noncomputable def lkE (P : Program) (k : Nat) (z : AV) (e : Option Ent) (x : AV) (ok : Bool) : Option AV :=
  match e with
  | some (.map es) =>
    if keyOkA P k x x ∧ ∀ p ∈ es, keyOkA P k x p.1 then
      match mget es x with
      | some v => some (if ok = true then .tup [v, .v (.bool true)] else v)
      | none => some (if ok = true then .tup [z, .v (.bool false)] else z)
    else none
  | _ => none
noncomputable def msE (P : Program) (k : Nat) (e : Option Ent) (x y : AV) : Option Ent :=
  match e with
  | some (.map es) => if (keyOkA P k x x ∧ ∀ p ∈ es, keyOkA P k x p.1) ∧ y.stor = true then some (.map (mset es x y)) else none
  | _ => none
theorem look_E {P : Program} {st : St} {T k : Nat} {z : AV} (hi : mapInfo P T = some (k, z)) (s g : Nat) (x : AV) (ok : Bool) : lookA P st T (.mp s g) x ok = lkE P k z (st.heap s g) x ok := by
  simp only [lookA, hi, lkE]
  cases st.heap s g with
  | none => rfl
  | some e => cases e <;> rfl
theorem mset_E {P : Program} {st : St} {T k : Nat} {z : AV} (hi : mapInfo P T = some (k, z)) (s g : Nat) (x y : AV) : mapSetA P st T (.mp s g) x y = bnd (msE P k (st.heap s g) x y) fun e => some (s, g, e) := by
  simp only [mapSetA, hi, msE]
  cases st.heap s g with
  | none => rfl
  | some e =>
    cases e with
    | map es =>
      simp only
      split <;> rfl
    | _ => rfl
namespace Try
open Go.Proofs
theorem mi94 : mapInfo Try.prog 94 = some (44, .v (.bool false)) := by kernel_rfl
theorem key44 (a b : Root) : keyOkA Try.prog 44 (.agg (cRoot a)) (.agg (cRoot b)) := by
  have h : eqLeaves Try.prog 20 44 = some lRoot := by kernel_rfl
  have h2 : isAggT Try.prog 44 = true := by kernel_rfl
  unfold keyOkA
  rw [h]
  exact ⟨leafy_root a b, fun _ => ⟨⟨_, rfl⟩, _, rfl⟩, fun h3 => by rw [h2] at h3; cases h3⟩
/-- The roots that are known. -/
def mpR (l : List Root) : List (AV × AV) := l.map fun r => (.agg (cRoot r), .v (.bool true))
theorem mpR_key (l : List Root) (r : Root) : keyOkA Try.prog 44 (.agg (cRoot r)) (.agg (cRoot r)) ∧ ∀ p ∈ mpR l, keyOkA Try.prog 44 (.agg (cRoot r)) p.1 :=
  ⟨key44 r r, fun p hp => by obtain ⟨x, _, rfl⟩ := List.mem_map.1 hp; exact key44 r x⟩
theorem mget_R (r : Root) : ∀ l : List Root, mget (mpR l) (.agg (cRoot r)) = if r ∈ l then some (.v (.bool true)) else none
  | [] => rfl
  | a :: l => by
    have ih := mget_R r l
    simp only [mpR, List.map_cons, mget] at *
    by_cases h : a = r
    · subst h; simp
    · have h2 : ¬ AV.agg (cRoot a) = AV.agg (cRoot r) := fun h' => h ((cRoot_inj a r).1 (by simpa using h'))
      rw [if_neg h2, ih]
      simp [Ne.symm h]
theorem mset_R {r : Root} : ∀ l : List Root, r ∉ l → mset (mpR l) (.agg (cRoot r)) (.v (.bool true)) = mpR (l ++ [r])
  | [], _ => rfl
  | a :: l, hn => by
    have ih := mset_R l (fun (h : r ∈ l) => hn (List.mem_cons_of_mem _ h))
    simp only [mpR, List.map_cons, mset, List.cons_append] at *
    have h2 : ¬ AV.agg (cRoot a) = AV.agg (cRoot r) := fun h' => hn (by rw [(cRoot_inj a r).1 (by simpa using h')]; exact List.mem_cons_self ..)
    rw [if_neg h2, ih]
theorem lk94 (l : List Root) (r : Root) : lkE Try.prog 44 (.v (.bool false)) (some (.map (mpR l))) (.agg (cRoot r)) false = some (.v (.bool (decide (r ∈ l)))) := by
  simp only [lkE]
  rw [if_pos (mpR_key l r), mget_R]
  by_cases h : r ∈ l <;> simp [h]
theorem ms94 (l : List Root) (r : Root) (h : r ∉ l) : msE Try.prog 44 (some (.map (mpR l))) (.agg (cRoot r)) (.v (.bool true)) = some (.map (mpR (l ++ [r]))) := by
  simp only [msE]
  rw [if_pos ⟨mpR_key l r, rfl⟩, mset_R l h]
theorem look94 (st : St) (s g : Nat) (x : AV) (ok : Bool) : lookA Try.prog st 94 (.mp s g) x ok = lkE Try.prog 44 (.v (.bool false)) (st.heap s g) x ok := look_E mi94 s g x ok
theorem mset94 (st : St) (s g : Nat) (x y : AV) : mapSetA Try.prog st 94 (.mp s g) x y = bnd (msE Try.prog 44 (st.heap s g) x y) fun e => some (s, g, e) := mset_E mi94 s g x y
/-- The roots of the first nodes. -/
def rts (ns : List Node) (k : Nat) : List Root := (ns.take k).map fun n => n.block.root
theorem rts_succ {ns : List Node} {k : Nat} (h : k < ns.length) : rts ns (k + 1) = rts ns k ++ [(nd ns k).block.root] := by
  unfold rts
  rw [List.take_succ_eq_append_getElem h, List.map_append]
  simp [nd, h]
theorem rts_mem {ns : List Node} {k : Nat} (hk : k ≤ ns.length) (r : Root) : r ∈ rts ns k ↔ ∃ j : Int, 0 ≤ j ∧ j < k ∧ (nd ns j).block.root = r := by
  unfold rts
  rw [List.mem_map]
  constructor
  · rintro ⟨n, hn, rfl⟩
    obtain ⟨j, hj, rfl⟩ := List.getElem_of_mem hn
    simp only [List.length_take] at hj
    refine ⟨j, by omega, by omega, ?_⟩
    have : j < ns.length := by omega
    simp [nd, this]
  · rintro ⟨j, j0, j1, rfl⟩
    obtain ⟨h, e⟩ := nd_get (ns := ns) j0 (by omega)
    refine ⟨nd ns j, ?_, rfl⟩
    rw [e]
    exact List.mem_take_iff_getElem.2 ⟨j.toNat, by omega, rfl⟩
theorem valF_stop {ns : List Node} : ∀ (d k : Nat), valF ns k = 0 → nodeE ns k ≠ 0 → valF ns (k + 1 + d) = nodeE ns k
  | 0, k, h, h2 => by simp only [valF, Nat.add_zero, h, if_true]
  | d + 1, k, h, h2 => by
    have ih := valF_stop d k h h2
    rw [← Nat.add_assoc]
    simp only [valF]
    rw [if_neg (by rw [ih]; exact h2), ih]
theorem valF_at {ns : List Node} {k : Nat} (hk : k < ns.length) (h : valF ns k = 0) (h2 : nodeE ns k ≠ 0) : valF ns ns.length = nodeE ns k := by
  obtain ⟨d, hd⟩ : ∃ d, ns.length = k + 1 + d := ⟨ns.length - (k + 1), by omega⟩
  rw [hd]
  exact valF_stop d k h h2
end Try
end Go.Ab
end
section
set_option linter.unusedSimpArgs false
set_option linter.unusedVariables false
set_option maxRecDepth 20000
set_option maxHeartbeats 4000000
namespace Go.Ab.Try
open Classical Go.Proofs Go.Ab
/-- blocktree.Validate -/
theorem c49 (ns : List Node) (hn : (ns.length : Int) < 1000000) : callL Try.prog 49 [.agg (cTree ⟨ns⟩)] = some (.v (.int .i64 (valV ns))) := by
  rw [callL_eq Try.prog Try.func49 rfl ok49 _ (ext_none _ (by decide)) rfl]
  by_cases h0 : ns.length = 0
  · have hq : ((ns.length : Int) == 0) = true := by simp [h0]
    have hv : valV ns = 11 := if_pos (.inl h0)
    simp -implicitDefEqProofs only [ZZ, seval, hq]
    exact endL_tmp (keep_none (by decide)) (.inl rfl) rfl (by simp only [EV, seval, hv]) (.v _)
  · have hq : ((ns.length : Int) == 0) = false := by simp [h0]
    by_cases h1 : (4096 : Int) < ns.length
    · have hv : valV ns = 11 := if_pos (.inr (by omega))
      simp -implicitDefEqProofs only [ZZ, seval, hq, h1]
      exact endL_tmp (keep_none (by decide)) (.inl rfl) rfl (by simp only [EV, seval, hv]) (.v _)
    · have hv : valV ns = valF ns ns.length := if_neg (by omega)
      rw [hv]
      simp -implicitDefEqProofs only [ZZ, seval, hq, h1]
      refine use_loop (fun n st => ∃ k : Nat, (st.env 1 = .ptr 1 0 0 ∧ st.heap 1 0 = some (.cells (cTree ⟨ns⟩)) ∧ st.env 3 = .mp 16 0 ∧ st.heap 16 0 = some (.map (mpR (rts ns k))) ∧ st.env 18 = .sl ns.length (csNode ns) ∧ st.env 19 = .v (.int .i64 ns.length) ∧ st.env 20 = .v (.int .i64 k)) ∧ valF ns k = 0 ∧ k ≤ ns.length ∧ n = ns.length - k)
        (fun e st => (e = .ret ∧ st.env 2 = .v (.int .i64 (valF ns ns.length))) ∨ (e = .exit 0 ∧ valF ns ns.length = 0)) ns.length ?step ?start ?rest
      case step =>
        rintro n st ⟨k, hI, hz, hk, hn'⟩
        by_cases hlt : (k : Int) < ns.length
        · have hw : IntKind.i64.wrap ((k : Int) + 1) = ((k + 1 : Nat) : Int) := by rw [w64 _ (by omega) (by omega)]; omega
          have q0 : (0 : Int) ≤ k := by omega
          have hat := fun h => valF_at (ns := ns) (k := k) (by omega) hz h
          cases hst : isSt (nd ns k).status
          · have hE : nodeE ns k = 2 := by unfold nodeE; rw [if_pos (.inl hst)]
            refine go_out (e := .ret) (st' := ?s1) ?h1 (by simp) ?q1
            case h1 =>
              simp -implicitDefEqProofs only [ZZ, seval, hI, hlt, q0, k90, hst]
              rfl
            case q1 => exact .inl ⟨rfl, by rw [hat (by omega), hE]; simp only [EV, seval]⟩
          · by_cases hk0 : k = 0
            · have hki : (k : Int) = 0 := by omega
              have heq : ((k : Int) == 0) = true := by simp [hk0]
              by_cases hup : (nd ns k).up = -1
              · have hu : ((nd ns k).up != -1) = false := by simp [hup]
                have hE : nodeE ns k = 0 := by
                  unfold nodeE
                  rw [if_neg, if_neg, if_pos hki]
                  · rintro ⟨j, j0, j1, _⟩; omega
                  · rintro (h | ⟨_, h⟩ | ⟨h, _⟩)
                    · rw [hst] at h; cases h
                    · exact h hup
                    · omega
                have hm : decide ((nd ns k).block.root ∈ rts ns k) = false := by simp [rts, hk0]
                have hm' : (nd ns k).block.root ∉ rts ns k := by simp [rts, hk0]
                have hs := rts_succ (ns := ns) (k := k) (by omega)
                have hng : ¬ (0 : Int) < k := by omega
                refine go_on (st' := ?s2) ?h2 (ns.length - (k + 1)) (by omega) ?q2
                case h2 =>
                  simp -implicitDefEqProofs only [ZZ, seval, hI, hlt, q0, k90, hst, hu, hng, heq, look94, mset94, lk94, ms94 _ _ hm', hm, hw]
                  rfl
                case q2 => exact ⟨k + 1, ⟨by simp only [EV, seval, hI], by simp only [EV, seval, hI], by simp only [EV, seval, hI], by rw [hs]; simp only [EV, seval, hI], by simp only [EV, seval, hI], by simp only [EV, seval, hI], by simp only [EV, seval, hI]⟩, by simp only [valF, hz, if_true, hE], by omega, rfl⟩
              · have hu : ((nd ns k).up != -1) = true := by simp [hup]
                have hE : nodeE ns k = 2 := by unfold nodeE; rw [if_pos (.inr (.inl ⟨hki, hup⟩))]
                refine go_out (e := .ret) (st' := ?s3) ?h3 (by simp) ?q3
                case h3 =>
                  simp -implicitDefEqProofs only [ZZ, seval, hI, hlt, q0, k90, hst, hu, heq]
                  rfl
                case q3 => exact .inl ⟨rfl, by rw [hat (by omega), hE]; simp only [EV, seval]⟩
            · have hg : (0 : Int) < k := by omega
              have heq : ((k : Int) == 0) = false := by simp [hk0]
              by_cases hu0 : (nd ns k).up < 0
              · have hE : nodeE ns k = 2 := by unfold nodeE; rw [if_pos (.inr (.inr ⟨hg, .inl hu0⟩))]
                refine go_out (e := .ret) (st' := ?s4) ?h4 (by simp) ?q4
                case h4 =>
                  simp -implicitDefEqProofs only [ZZ, seval, hI, hlt, q0, k90, hst, heq, hg, hu0]
                  rfl
                case q4 => exact .inl ⟨rfl, by rw [hat (by omega), hE]; simp only [EV, seval]⟩
              · by_cases hu1 : (k : Int) ≤ (nd ns k).up
                · have hE : nodeE ns k = 2 := by unfold nodeE; rw [if_pos (.inr (.inr ⟨hg, .inr hu1⟩))]
                  refine go_out (e := .ret) (st' := ?s5) ?h5 (by simp) ?q5
                  case h5 =>
                    simp -implicitDefEqProofs only [ZZ, seval, hI, hlt, q0, k90, hst, heq, hg, hu0, hu1]
                    rfl
                  case q5 => exact .inl ⟨rfl, by rw [hat (by omega), hE]; simp only [EV, seval]⟩
                · have hE0 : nodeE ns k = if ∃ j : Int, 0 ≤ j ∧ j < k ∧ (nd ns j).block.root = (nd ns k).block.root then 9 else if (k : Int) = 0 then 0 else if (nd ns k).block.parent ≠ (nd ns (nd ns k).up).block.root then 10 else if (nd ns k).block.slot ≤ (nd ns (nd ns k).up).block.slot then 14 else 0 := by
                    conv => lhs; unfold nodeE
                    rw [if_neg]
                    rintro (h | ⟨h, _⟩ | ⟨_, h | h⟩)
                    · rw [hst] at h; cases h
                    · omega
                    · omega
                    · omega
                  have u0 : 0 ≤ (nd ns k).up := by omega
                  have u1 : (nd ns k).up < ns.length := by omega
                  by_cases hm' : (nd ns k).block.root ∈ rts ns k
                  · have hm : decide ((nd ns k).block.root ∈ rts ns k) = true := decide_eq_true hm'
                    have hE : nodeE ns k = 9 := by rw [hE0, if_pos ((rts_mem hk _).1 hm')]
                    refine go_out (e := .ret) (st' := ?s6) ?h6 (by simp) ?q6
                    case h6 =>
                      simp -implicitDefEqProofs only [ZZ, seval, hI, hlt, q0, k90, hst, heq, hg, hu0, hu1, look94, lk94, hm]
                      rfl
                    case q6 => exact .inl ⟨rfl, by rw [hat (by omega), hE]; simp only [EV, seval]⟩
                  · have hm : decide ((nd ns k).block.root ∈ rts ns k) = false := decide_eq_false hm'
                    rw [if_neg (fun h => hm' ((rts_mem hk _).2 h)), if_neg (by omega)] at hE0
                    by_cases hp : (nd ns k).block.parent = (nd ns (nd ns k).up).block.root
                    · have hpd : decide ((nd ns k).block.parent = (nd ns (nd ns k).up).block.root) = true := decide_eq_true hp
                      rw [if_neg (fun h => h hp)] at hE0
                      by_cases hs : (nd ns k).block.slot ≤ (nd ns (nd ns k).up).block.slot
                      · rw [if_pos hs] at hE0
                        refine go_out (e := .ret) (st' := ?s7) ?h7 (by simp) ?q7
                        case h7 =>
                          simp -implicitDefEqProofs only [ZZ, seval, hI, hlt, q0, k90, hst, heq, hg, hu0, hu1, look94, lk94, hm, mset94, ms94 _ _ hm', u0, u1, hpd, hs]
                          rfl
                        case q7 => exact .inl ⟨rfl, by rw [hat (by omega), hE0]; simp only [EV, seval]⟩
                      · rw [if_neg hs] at hE0
                        have hrs := rts_succ (ns := ns) (k := k) (by omega)
                        refine go_on (st' := ?s8) ?h8 (ns.length - (k + 1)) (by omega) ?q8
                        case h8 =>
                          simp -implicitDefEqProofs only [ZZ, seval, hI, hlt, q0, k90, hst, heq, hg, hu0, hu1, look94, lk94, hm, mset94, ms94 _ _ hm', u0, u1, hpd, hs, hw]
                          rfl
                        case q8 => exact ⟨k + 1, ⟨by simp only [EV, seval, hI], by simp only [EV, seval, hI], by simp only [EV, seval, hI], by rw [hrs]; simp only [EV, seval, hI], by simp only [EV, seval, hI], by simp only [EV, seval, hI], by simp only [EV, seval, hI]⟩, by simp only [valF, hz, if_true, hE0], by omega, rfl⟩
                    · have hpd : decide ((nd ns k).block.parent = (nd ns (nd ns k).up).block.root) = false := decide_eq_false hp
                      rw [if_pos hp] at hE0
                      refine go_out (e := .ret) (st' := ?s9) ?h9 (by simp) ?q9
                      case h9 =>
                        simp -implicitDefEqProofs only [ZZ, seval, hI, hlt, q0, k90, hst, heq, hg, hu0, hu1, look94, lk94, hm, mset94, ms94 _ _ hm', u0, u1, hpd]
                        rfl
                      case q9 => exact .inl ⟨rfl, by rw [hat (by omega), hE0]; simp only [EV, seval]⟩
        · obtain rfl : k = ns.length := by omega
          refine go_out (e := .exit 0) (st' := ?s10) ?h10 (by simp) ?q10
          case h10 =>
            simp -implicitDefEqProofs only [ZZ, seval, hI, hlt]
            rfl
          case q10 => exact .inr ⟨rfl, hz⟩
      case start => exact ⟨0, by simp only [EV, seval]; rfl, rfl, by omega, by omega⟩
      case rest =>
        rintro e st (⟨rfl, h⟩ | ⟨rfl, h⟩)
        · simp -implicitDefEqProofs only [ZZ, seval]
          exact endL_tmp (keep_none (by decide)) (.inl rfl) rfl h (.v _)
        · simp -implicitDefEqProofs only [ZZ, seval]
          exact endL_tmp (keep_none (by decide)) (.inl rfl) rfl (by simp only [EV, seval, h]) (.v _)
theorem k49 (ns : List Node) (hn : (ns.length : Int) < 1000000) (st : St) (d : Option Nat) : callFn (callL Try.prog) 49 [.agg (cTree ⟨ns⟩)] st d = some { dst := d, val := .v (.int .i64 (valV ns)) } := call_flat (flat1 (flatT _)) (c49 ns hn) (.v _)
end Go.Ab.Try
end
section
set_option linter.unusedSimpArgs false
set_option linter.unusedVariables false
set_option maxRecDepth 20000
set_option maxHeartbeats 4000000
namespace Go.Ab.Try
open Classical Go.Proofs Go.Ab
theorem csNode_drop (ns : List Node) : (csNode ns).drop 240 = csNode (ns.drop 1) := by
  cases ns with
  | nil => rfl
  | cons a l =>
    simp only [csNode, List.flatMap_cons, List.drop_succ_cons, List.drop_zero]
    rw [List.drop_append_of_le_length (by simp), List.drop_of_length_le (by simp)]
    rfl
theorem slice23_1 (st : St) {ns : List Node} (h0 : 0 < ns.length) : sliceA Try.prog st 23 (.sl ns.length (csNode ns)) (some (.const (.int .i64 1))) none = some (.sl (ns.drop 1).length (csNode (ns.drop 1))) := by
  have hl : (csNode ns).length = ns.length * 240 := by simp
  have e : ((csNode ns).drop ((1 : Int).toNat * 240)).take (((ns.length : Int) - 1).toNat * 240) = csNode (ns.drop 1) := by
    rw [show (1 : Int).toNat * 240 = 240 from rfl, csNode_drop]
    exact List.take_of_length_le (by simp)
  simp only [sliceA, sl23, hl, St.ev]
  rw [if_pos (by refine ⟨by decide, by omega, Int.le_refl _, trivial⟩), e]
  congr 2
  simp
theorem nd_drop (ns : List Node) {j : Int} (j0 : 0 ≤ j) : nd (ns.drop 1) j = nd ns (j + 1) := by
  unfold nd
  rw [List.getD_eq_getElem?_getD, List.getD_eq_getElem?_getD, List.getElem?_drop]
  congr 2
  omega
theorem nodeE_zero {ns : List Node} {i : Int} (i0 : 0 ≤ i) (h : nodeE ns i = 0) : isSt (nd ns i).status = true ∧ (i = 0 → (nd ns i).up = -1) ∧ (0 < i → 0 ≤ (nd ns i).up ∧ (nd ns i).up < i) ∧ (∀ j : Int, 0 ≤ j → j < i → (nd ns j).block.root ≠ (nd ns i).block.root) ∧
    (0 < i → (nd ns i).block.parent = (nd ns (nd ns i).up).block.root ∧ (nd ns (nd ns i).up).block.slot < (nd ns i).block.slot) := by
  unfold nodeE at h
  by_cases h1 : isSt (nd ns i).status = false ∨ (i = 0 ∧ (nd ns i).up ≠ -1) ∨ (0 < i ∧ ((nd ns i).up < 0 ∨ i ≤ (nd ns i).up))
  · rw [if_pos h1] at h; omega
  · rw [if_neg h1] at h
    by_cases h2 : ∃ j : Int, 0 ≤ j ∧ j < i ∧ (nd ns j).block.root = (nd ns i).block.root
    · rw [if_pos h2] at h; omega
    · rw [if_neg h2] at h
      simp only [not_or, not_and] at h1
      refine ⟨by simpa using h1.1, fun hi => Decidable.of_not_not (h1.2.1 hi), fun hi => by have := h1.2.2 hi; omega, fun j j0 j1 hj => h2 ⟨j, j0, j1, hj⟩, fun hi => ?_⟩
      rw [if_neg (by omega)] at h
      by_cases h3 : (nd ns i).block.parent ≠ (nd ns (nd ns i).up).block.root
      · rw [if_pos h3] at h; omega
      · rw [if_neg h3] at h
        by_cases h4 : (nd ns i).block.slot ≤ (nd ns (nd ns i).up).block.slot
        · rw [if_pos h4] at h; omega
        · exact ⟨Decidable.of_not_not h3, by omega⟩
theorem valF_all {ns : List Node} : ∀ k : Nat, valF ns k = 0 → ∀ i : Int, 0 ≤ i → i < k → nodeE ns i = 0
  | 0, _, i, i0, i1 => by omega
  | k + 1, h, i, i0, i1 => by
    simp only [valF] at h
    by_cases hk : valF ns k = 0
    · rw [if_pos hk] at h
      by_cases hi : i < k
      · exact valF_all k hk i i0 hi
      · rw [show i = k by omega]; exact h
    · rw [if_neg hk] at h; exact absurd h hk
theorem valV_zero {ns : List Node} (h : valV ns = 0) : Vld ns := by
  unfold valV at h
  by_cases h0 : ns.length = 0 ∨ 4096 < ns.length
  · rw [if_pos h0] at h; omega
  · rw [if_neg h0] at h
    have hz := fun i i0 i1 => nodeE_zero (ns := ns) (i := i) i0 (valF_all _ h i i0 i1)
    exact ⟨by omega, by omega, (hz 0 (by omega) (by omega)).2.1 rfl, fun i i0 i1 => (hz i (by omega) i1).2.2.1 i0, fun i i0 i1 => ((hz i (by omega) i1).2.2.2.2 i0).1, fun i i0 i1 => ((hz i (by omega) i1).2.2.2.2 i0).2,
      fun i j i0 i1 j1 => (hz j (by omega) j1).2.2.2.1 i i0 i1, fun i i0 i1 => (hz i i0 i1).1⟩
/-- status.Validate -/
theorem c50 (ns : List Node) (hn : (ns.length : Int) < 1000000) : callL Try.prog 50 [.agg (cTree ⟨ns⟩)] = some (.v (.int .i64 (clsV ns))) := by
  rw [callL_eq Try.prog Try.func50 rfl ok50 _ (ext_none _ (by decide)) rfl]
  have hK := k49 ns hn
  by_cases hv : valV ns = 0
  · have v := valV_zero hv
    have h0 := v.len0
    have hq : (valV ns != 0) = false := by simp [hv]
    have hc : clsV ns = if ∃ i : Int, 0 < i ∧ i < ns.length ∧ stE ns i then 15 else 0 := if_pos hv
    have hsl := fun st => slice23_1 st h0
    have hdl : (ns.drop 1).length = ns.length - 1 := by simp
    simp -implicitDefEqProofs only [ZZ, seval, hK, hq, hsl]
    refine use_loop (fun n st => ∃ k : Nat, (st.env 1 = .ptr 1 0 0 ∧ st.heap 1 0 = some (.cells (cTree ⟨ns⟩)) ∧ st.env 14 = .sl (ns.drop 1).length (csNode (ns.drop 1)) ∧ st.env 15 = .v (.int .i64 (ns.drop 1).length) ∧ st.env 16 = .v (.int .i64 k)) ∧ (∀ i : Int, 0 < i → i ≤ k → ¬ stE ns i) ∧ k ≤ ns.length - 1 ∧ n = ns.length - 1 - k)
      (fun e st => (e = .ret ∧ st.env 2 = .v (.int .i64 (clsV ns))) ∨ (e = .exit 0 ∧ clsV ns = 0)) (ns.length - 1) ?step ?start ?rest
    case step =>
      rintro n st ⟨k, hI, hj, hk, hn'⟩
      by_cases hlt : (k : Int) < (ns.drop 1).length
      · have hw : IntKind.i64.wrap ((k : Int) + 1) = ((k + 1 : Nat) : Int) := by rw [w64 _ (by omega) (by omega)]; omega
        have q0 : (0 : Int) ≤ k := by omega
        have hnd := nd_drop ns q0
        obtain ⟨u0, u1⟩ := v.up ((k : Int) + 1) (by omega) (by omega)
        have u2 : (nd ns ((k : Int) + 1)).up < ns.length := by omega
        have hnext : ¬ stE ns ((k : Int) + 1) → ∀ i : Int, 0 < i → i ≤ ((k + 1 : Nat) : Int) → ¬ stE ns i := fun h i i0 i1 => by
          by_cases hi : i ≤ k
          · exact hj i i0 hi
          · rw [show i = (k : Int) + 1 by omega]; exact h
        have hbad : stE ns ((k : Int) + 1) → clsV ns = 15 := fun h => by rw [hc, if_pos ⟨_, by omega, by omega, h⟩]
        by_cases hA : (nd ns ((k : Int) + 1)).status = 1 ∧ (nd ns (nd ns ((k : Int) + 1)).up).status ≠ 1
        · have h1 : ((nd ns ((k : Int) + 1)).status == 1) = true := by simp [hA.1]
          have h2 : ((nd ns (nd ns ((k : Int) + 1)).up).status != 1) = true := by simp [hA.2]
          refine go_out (e := .ret) (st' := ?s1) ?h1 (by simp) ?q1
          case h1 =>
            simp -implicitDefEqProofs only [ZZ, seval, hI, hlt, q0, hnd, u0, u2, h1, h2]
            rfl
          case q1 => exact .inl ⟨rfl, by rw [hbad (.inl hA)]; simp only [EV, seval]⟩
        · by_cases hB : (nd ns (nd ns ((k : Int) + 1)).up).status = 2 ∧ (nd ns ((k : Int) + 1)).status ≠ 2
          · have h1 : ((nd ns ((k : Int) + 1)).status == 1) = false := by
              rw [beq_eq_false_iff_ne]; intro h; exact hA ⟨h, by omega⟩
            have h3 : ((nd ns (nd ns ((k : Int) + 1)).up).status == 2) = true := by simp [hB.1]
            have h4 : ((nd ns ((k : Int) + 1)).status != 2) = true := by simp [hB.2]
            refine go_out (e := .ret) (st' := ?s2) ?h2 (by simp) ?q2
            case h2 =>
              simp -implicitDefEqProofs only [ZZ, seval, hI, hlt, q0, hnd, u0, u2, h1, h3, h4]
              rfl
            case q2 => exact .inl ⟨rfl, by rw [hbad (.inr hB)]; simp only [EV, seval]⟩
          · have hno : ¬ stE ns ((k : Int) + 1) := by rintro (h | h); exact hA h; exact hB h
            by_cases hs : (nd ns ((k : Int) + 1)).status = 1
            · have hu : (nd ns (nd ns ((k : Int) + 1)).up).status = 1 := Decidable.of_not_not fun h => hA ⟨hs, h⟩
              have h1 : ((nd ns ((k : Int) + 1)).status == 1) = true := by simp [hs]
              have h2 : ((nd ns (nd ns ((k : Int) + 1)).up).status != 1) = false := by simp [hu]
              have h3 : ((nd ns (nd ns ((k : Int) + 1)).up).status == 2) = false := by simp [hu]
              refine go_on (st' := ?s3) ?h3 (ns.length - 1 - (k + 1)) (by omega) ?q3
              case h3 =>
                simp -implicitDefEqProofs only [ZZ, seval, hI, hlt, q0, hnd, u0, u2, h1, h2, h3, hw]
                rfl
              case q3 => exact ⟨k + 1, by simp only [EV, seval, hI], hnext hno, by omega, rfl⟩
            · have h1 : ((nd ns ((k : Int) + 1)).status == 1) = false := by simp [hs]
              by_cases hu : (nd ns (nd ns ((k : Int) + 1)).up).status = 2
              · have h3 : ((nd ns (nd ns ((k : Int) + 1)).up).status == 2) = true := by simp [hu]
                have h4 : ((nd ns ((k : Int) + 1)).status != 2) = false := by
                  have : (nd ns ((k : Int) + 1)).status = 2 := Decidable.of_not_not fun h => hB ⟨hu, h⟩
                  simp [this]
                refine go_on (st' := ?s4) ?h4 (ns.length - 1 - (k + 1)) (by omega) ?q4
                case h4 =>
                  simp -implicitDefEqProofs only [ZZ, seval, hI, hlt, q0, hnd, u0, u2, h1, h3, h4, hw]
                  rfl
                case q4 => exact ⟨k + 1, by simp only [EV, seval, hI], hnext hno, by omega, rfl⟩
              · have h3 : ((nd ns (nd ns ((k : Int) + 1)).up).status == 2) = false := by simp [hu]
                refine go_on (st' := ?s5) ?h5 (ns.length - 1 - (k + 1)) (by omega) ?q5
                case h5 =>
                  simp -implicitDefEqProofs only [ZZ, seval, hI, hlt, q0, hnd, u0, u2, h1, h3, hw]
                  rfl
                case q5 => exact ⟨k + 1, by simp only [EV, seval, hI], hnext hno, by omega, rfl⟩
      · have hend : clsV ns = 0 := by
          rw [hc, if_neg]
          rintro ⟨i, i0, i1, h⟩
          exact hj i i0 (by omega) h
        refine go_out (e := .exit 0) (st' := ?s6) ?h6 (by simp) ?q6
        case h6 =>
          simp -implicitDefEqProofs only [ZZ, seval, hI, hlt]
          rfl
        case q6 => exact .inr ⟨rfl, hend⟩
    case start => exact ⟨0, by simp only [EV, seval], fun i i0 i1 => by omega, by omega, by omega⟩
    case rest =>
      rintro e st (⟨rfl, h⟩ | ⟨rfl, h⟩)
      · simp -implicitDefEqProofs only [ZZ, seval]
        exact endL_tmp (keep_none (by decide)) (.inl rfl) rfl h (.v _)
      · simp -implicitDefEqProofs only [ZZ, seval]
        exact endL_tmp (keep_none (by decide)) (.inl rfl) rfl (by simp only [EV, seval, h]) (.v _)
  · have hq : (valV ns != 0) = true := by simp [hv]
    have hc : clsV ns = valV ns := if_neg hv
    simp -implicitDefEqProofs only [ZZ, seval, hK, hq]
    exact endL_tmp (keep_none (by decide)) (.inl rfl) rfl (by simp only [EV, seval, hc]) (.v _)
theorem k50 (ns : List Node) (hn : (ns.length : Int) < 1000000) (st : St) (d : Option Nat) : callFn (callL Try.prog) 50 [.agg (cTree ⟨ns⟩)] st d = some { dst := d, val := .v (.int .i64 (clsV ns)) } := call_flat (flat1 (flatT _)) (c50 ns hn) (.v _)
end Go.Ab.Try
end
