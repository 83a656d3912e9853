/-
  Part V1 of the proof: what functions of this program compute.
-/
import Derived.Test.YtgpkmepalmdmeaaK8
import Derived.Test.YtgpkmepalmdmeaaG5
set_option linter.all false
set_option linter.unusedSimpArgs false
set_option linter.unusedVariables false
set_option maxRecDepth 20000
namespace Go.Ab.Try
open Classical Go.Proofs Go.Ab
/-- What Validate says of one node. -/
noncomputable def nodeE (ns : List Node) (i : Int) : Int :=
  if isSt (nd ns i).status = false ∨ (i = 0 ∧ (nd ns i).up ≠ -1) ∨ (0 < i ∧ ((nd ns i).up < 0 ∨ i ≤ (nd ns i).up)) then 2
  else if ∃ j : Int, 0 ≤ j ∧ j < i ∧ (nd ns j).block.root = (nd ns i).block.root then 9
  else if i = 0 then 0
  else if (nd ns i).block.parent ≠ (nd ns (nd ns i).up).block.root then 10
  else if (nd ns i).block.slot ≤ (nd ns (nd ns i).up).block.slot then 14
  else 0
noncomputable def valF (ns : List Node) : Nat → Int
  | 0 => 0
  | k + 1 => if valF ns k = 0 then nodeE ns k else valF ns k
noncomputable def valV (ns : List Node) : Int := if ns.length = 0 ∨ 4096 < ns.length then 11 else valF ns ns.length
/-- What Validate says of the statuses. -/
def stE (ns : List Node) (i : Int) : Prop := ((nd ns i).status = 1 ∧ (nd ns (nd ns i).up).status ≠ 1) ∨ ((nd ns (nd ns i).up).status = 2 ∧ (nd ns i).status ≠ 2)
noncomputable def clsV (ns : List Node) : Int := if valV ns = 0 then (if ∃ i : Int, 0 < i ∧ i < ns.length ∧ stE ns i then 15 else 0) else valV ns
/-- A valid tree. -/
structure Vld (ns : List Node) : Prop where
  len0 : 0 < ns.length
  lenM : ns.length ≤ 4096
  up0 : (nd ns 0).up = -1
  up : UpOk ns
  par : ∀ i : Int, 0 < i → i < ns.length → (nd ns i).block.parent = (nd ns (nd ns i).up).block.root
  slot : ∀ i : Int, 0 < i → i < ns.length → (nd ns (nd ns i).up).block.slot < (nd ns i).block.slot
  roots : ∀ i j : Int, 0 ≤ i → i < j → j < ns.length → (nd ns i).block.root ≠ (nd ns j).block.root
  st : ∀ i : Int, 0 ≤ i → i < ns.length → isSt (nd ns i).status = true
def Cld (ns : List Node) : Prop := ∀ i : Int, 0 < i → i < ns.length → ((nd ns i).status = 1 → (nd ns (nd ns i).up).status = 1) ∧ ((nd ns (nd ns i).up).status = 2 → (nd ns i).status = 2)
theorem Good.vld {ns : List Node} (g : Good ns) : Vld ns := ⟨g.len0, by have := g.len9; omega, g.up0, g.up, g.par, g.slot, g.roots, g.st⟩
theorem Good.cld {ns : List Node} (g : Good ns) : Cld ns := g.closed
theorem nodeE_ok {ns : List Node} (v : Vld ns) {i : Int} (i0 : 0 ≤ i) (i1 : i < ns.length) : nodeE ns i = 0 := by
  unfold nodeE
  rw [if_neg, if_neg]
  · by_cases h : i = 0
    · rw [if_pos h]
    · rw [if_neg h, if_neg (fun hn => hn (v.par i (by omega) i1)), if_neg]
      have := v.slot i (by omega) i1
      omega
  · rintro ⟨j, j0, j1, hj⟩
    exact v.roots j i j0 j1 i1 hj
  · rintro (h | ⟨rfl, h⟩ | ⟨h0, h⟩)
    · rw [v.st i i0 i1] at h; cases h
    · exact h v.up0
    · have := v.up i h0 i1; omega
theorem valF_ok {ns : List Node} (v : Vld ns) : ∀ k : Nat, k ≤ ns.length → valF ns k = 0
  | 0, _ => rfl
  | k + 1, h => by
    simp only [valF]
    rw [if_pos (valF_ok v k (by omega))]
    exact nodeE_ok v (by omega) (by omega)
theorem valV_ok {ns : List Node} (v : Vld ns) : valV ns = 0 := by
  unfold valV
  have := v.len0
  have := v.lenM
  rw [if_neg (by omega)]
  exact valF_ok v _ (Nat.le_refl _)
theorem cld_stE {ns : List Node} (c : Cld ns) {i : Int} (i0 : 0 < i) (i1 : i < ns.length) : ¬ stE ns i := by
  obtain ⟨h1, h2⟩ := c i i0 i1
  rintro (⟨h, h'⟩ | ⟨h, h'⟩)
  · exact h' (h1 h)
  · exact h' (h2 h)
theorem clsV_ok {ns : List Node} (v : Vld ns) (c : Cld ns) : clsV ns = 0 := by
  unfold clsV
  rw [if_pos (valV_ok v), if_neg]
  rintro ⟨i, i0, i1, h⟩
  exact cld_stE c i0 i1 h
/-- The pruned tree is valid. -/
theorem pr_back {ns : List Node} (hu : UpOk ns) {i : Int} (hi : anc ns i i = true) {m : Int} (m0 : 0 < m) (m1 : m < (prF ns i ns.length).1.length) : ∃ a : Int, 0 < a ∧ a < ns.length ∧ anc ns i a = true ∧ a ≠ i ∧ anc ns i (nd ns a).up = true ∧ it (prF ns i ns.length).2 a = m ∧
    (nd (prF ns i ns.length).1 m) = { nd ns a with up := it (prF ns i ns.length).2 (nd ns a).up } ∧ (nd (prF ns i ns.length).1 (it (prF ns i ns.length).2 (nd ns a).up)).block = (nd ns (nd ns a).up).block ∧ (nd (prF ns i ns.length).1 (it (prF ns i ns.length).2 (nd ns a).up)).status = (nd ns (nd ns a).up).status := by
  obtain ⟨a, a0, a1, ha, rfl⟩ := prF_onto ns i ns.length m (by omega) m1
  have hai : a ≠ i := by rintro rfl; rw [pr_zero hu hi] at m0; omega
  obtain ⟨a0', ⟨u0, u1⟩, hum⟩ := pr_up hu ha hai
  obtain ⟨_, _, h⟩ := pr_at hu ha
  obtain ⟨_, _, h'⟩ := pr_at hu hum
  refine ⟨a, a0', by omega, ha, hai, hum, rfl, ?_, ?_, ?_⟩
  · rw [h, if_neg hai]
  · rw [h']
  · rw [h']
theorem pr_any {ns : List Node} (hu : UpOk ns) {i m : Int} (m0 : 0 ≤ m) (m1 : m < (prF ns i ns.length).1.length) : ∃ a : Int, 0 ≤ a ∧ a < ns.length ∧ anc ns i a = true ∧ it (prF ns i ns.length).2 a = m ∧ (nd (prF ns i ns.length).1 m).block = (nd ns a).block ∧ (nd (prF ns i ns.length).1 m).status = (nd ns a).status := by
  obtain ⟨a, a0, a1, ha, rfl⟩ := prF_onto ns i ns.length m m0 m1
  obtain ⟨_, _, h⟩ := pr_at hu ha
  exact ⟨a, a0, by omega, ha, rfl, by rw [h], by rw [h]⟩
theorem pr_vld {ns : List Node} (v : Vld ns) {i : Int} (hi : anc ns i i = true) : Vld (prF ns i ns.length).1 where
  len0 := by have h := pr_at v.up hi; omega
  lenM := by have := prF_nodes ns i ns.length; have := v.lenM; omega
  up0 := by
    have h := (pr_at v.up hi).2.2
    rw [pr_zero v.up hi] at h
    rw [h]
    simp
  up := pr_upok v.up hi
  par := fun m m0 m1 => by
    obtain ⟨a, a0, a1, ha, hai, hum, he, h, hb, hs⟩ := pr_back v.up hi m0 m1
    rw [h]
    simp only
    rw [hb]
    exact v.par a a0 a1
  slot := fun m m0 m1 => by
    obtain ⟨a, a0, a1, ha, hai, hum, he, h, hb, hs⟩ := pr_back v.up hi m0 m1
    rw [h]
    simp only
    rw [hb]
    exact v.slot a a0 a1
  roots := fun m n m0 hmn n1 => by
    obtain ⟨a, a0, a1, ha, he, hb, _⟩ := pr_any v.up (i := i) m0 (show m < _ by omega)
    obtain ⟨c, c0, c1, hc, he', hb', _⟩ := pr_any v.up (i := i) (show 0 ≤ n by omega) n1
    rw [hb, hb']
    intro h
    rcases Int.lt_trichotomy a c with hl | hl | hl
    · exact v.roots a c a0 hl c1 h
    · subst hl; omega
    · exact v.roots c a c0 hl a1 h.symm
  st := fun m m0 m1 => by
    obtain ⟨a, a0, a1, ha, he, hb, hs⟩ := pr_any v.up (i := i) m0 m1
    rw [hs]
    exact v.st a a0 a1
theorem pr_cld {ns : List Node} (hu : UpOk ns) (c : Cld ns) {i : Int} (hi : anc ns i i = true) : Cld (prF ns i ns.length).1 := fun m m0 m1 => by
  obtain ⟨a, a0, a1, ha, hai, hum, he, h, hb, hs⟩ := pr_back hu hi m0 m1
  rw [h]
  simp only
  rw [hs]
  exact c a a0 a1
end Go.Ab.Try
