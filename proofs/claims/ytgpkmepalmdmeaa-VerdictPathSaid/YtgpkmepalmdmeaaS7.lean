/-
  Part S7 of the proof: what functions of this program compute.
-/
import Derived.Test.YtgpkmepalmdmeaaS5
set_option linter.all false
set_option linter.unusedSimpArgs false
set_option linter.unusedVariables false
set_option maxRecDepth 20000
set_option maxHeartbeats 4000000
namespace Go.Ab.Try
open Classical Go.Proofs Go.Ab
theorem nd_set {ns : List Node} {i j : Int} (i0 : 0 ≤ i) (i1 : i < ns.length) (j0 : 0 ≤ j) (y : Node) : nd (ns.set i.toNat y) j = if j = i then y else nd ns j := by
  unfold nd
  rw [List.getD_eq_getElem?_getD, List.getD_eq_getElem?_getD]
  by_cases h : j = i
  · subst h
    have : j.toNat < ns.length := by omega
    simp [this]
  · rw [if_neg h, List.getElem?_set_ne (by omega)]
theorem chg_some {to never : Int} (hne : to ≠ never) : ∀ (l : List Int) (ns r : List Node), (∀ x ∈ l, 0 ≤ x ∧ x < ns.length) → chg to never l ns = some r →
    (∀ x ∈ l, (nd ns x).status ≠ never) ∧ r.length = ns.length ∧ ∀ j : Int, 0 ≤ j → j < ns.length → nd r j = if j ∈ l then withSt (nd ns j) to else nd ns j
  | [], ns, r, _, h => by
    simp only [chg, Option.some.injEq] at h
    subst h
    exact ⟨by simp, rfl, by simp⟩
  | i :: l, ns, r, hl, h => by
    simp only [chg] at h
    split at h
    · cases h
    · rename_i hs
      obtain ⟨i0, i1⟩ := hl i (by simp)
      obtain ⟨h1, h2, h3⟩ := chg_some hne l (setAt ns i to) r (fun x hx => by rw [setAt_len]; exact hl x (by simp [hx])) h
      rw [setAt_len] at h2 h3
      have hnd : ∀ j : Int, 0 ≤ j → nd (setAt ns i to) j = if j = i then withSt (nd ns i) to else nd ns j := fun j j0 => nd_set i0 i1 j0 _
      refine ⟨fun x hx => ?_, h2, fun j j0 j1 => ?_⟩
      · rcases List.mem_cons.1 hx with rfl | hx
        · exact hs
        · by_cases hxi : x = i
          · subst hxi; exact hs
          · have := h1 x hx
            rw [hnd x (hl x (by simp [hx])).1, if_neg hxi] at this
            exact this
      · rw [h3 j j0 j1, hnd j j0]
        by_cases hji : j = i
        · subst hji
          simp only [if_true, List.mem_cons, true_or]
          split <;> rfl
        · simp [hji]
theorem chg_ok {to never : Int} (hne : to ≠ never) : ∀ (l : List Int) (ns : List Node), (∀ x ∈ l, 0 ≤ x ∧ x < ns.length) → (∀ x ∈ l, (nd ns x).status ≠ never) → ∃ r, chg to never l ns = some r
  | [], ns, _, _ => ⟨ns, rfl⟩
  | i :: l, ns, hl, hs => by
    obtain ⟨i0, i1⟩ := hl i (by simp)
    simp only [chg]
    rw [if_neg (hs i (by simp))]
    refine chg_ok hne l _ (fun x hx => by rw [setAt_len]; exact hl x (by simp [hx])) fun x hx => ?_
    have : nd (setAt ns i to) x = if x = i then withSt (nd ns i) to else nd ns x := nd_set i0 i1 (hl x (by simp [hx])).1 _
    rw [this]
    split
    · exact hne
    · exact hs x (by simp [hx])
theorem nodes_ext {a b : List Node} (hl : a.length = b.length) (h : ∀ j : Int, 0 ≤ j → j < a.length → nd a j = nd b j) : a = b := by
  apply List.ext_getElem hl
  intro j h1 h2
  have := h j (by omega) (by omega)
  simpa [nd, h1, h2] using this
/-- Trees that differ in their statuses alone. -/
structure SameUp (a b : List Node) : Prop where
  len : a.length = b.length
  up : ∀ j : Int, 0 ≤ j → j < a.length → (nd a j).up = (nd b j).up
theorem SameUp.pathE {a b : List Node} (h : SameUp a b) (hu : UpOk a) : ∀ (k : Nat) (i : Int), i.toNat = k → 0 ≤ i → i < a.length → path a i = path b i := by
  have hub : UpOk b := fun i i0 i1 => by rw [← h.up i (by omega) (by rw [h.len]; exact i1)]; exact hu i i0 (by rw [h.len]; exact i1)
  intro k
  induction k using Nat.strongRecOn with
  | _ k ih =>
    intro i hk i0 i1
    by_cases hi : i = 0
    · subst hi; rw [path_zero (by omega), path_zero (by rw [← h.len]; omega)]
    · obtain ⟨u0, u1⟩ := hu i (by omega) i1
      rw [path_step hu (by omega) i1, path_step hub (by omega) (by rw [← h.len]; exact i1), ← h.up i i0 i1, ih _ (by omega) _ rfl u0 (by omega)]
theorem SameUp.pathA {a b : List Node} (h : SameUp a b) (hu : UpOk a) (i : Int) : path a i = path b i := by
  by_cases hi : 0 ≤ i ∧ i < a.length
  · exact h.pathE hu _ i rfl hi.1 hi.2
  · rw [path_none hi, path_none (by rw [← h.len]; exact hi)]
theorem SameUp.ancE {a b : List Node} (h : SameUp a b) (hu : UpOk a) (i j : Int) : anc a i j = anc b i j := by
  unfold anc
  rw [h.pathA hu]
theorem SameUp.dscE {a b : List Node} (h : SameUp a b) (hu : UpOk a) (i : Int) : ∀ k, dsc a i k = dsc b i k
  | 0 => rfl
  | k + 1 => by simp only [dsc]; rw [h.ancE hu, SameUp.dscE h hu i k]
theorem SameUp.upok {a b : List Node} (h : SameUp a b) (hu : UpOk a) : UpOk b := fun i i0 i1 => by rw [← h.up i (by omega) (by rw [h.len]; exact i1)]; exact hu i i0 (by rw [h.len]; exact i1)
theorem withSt_up (n : Node) (s : Int) : (withSt n s).up = n.up := rfl
theorem withSt_block (n : Node) (s : Int) : (withSt n s).block = n.block := rfl
theorem withSt_status (n : Node) (s : Int) : (withSt n s).status = s := rfl
theorem withSt_same {n : Node} {s : Int} (h : n.status = s) : withSt n s = n := by subst h; rfl
/-- What a change of statuses leaves. -/
structure Chd (ns r : List Node) (l : List Int) (to : Int) : Prop where
  len : r.length = ns.length
  at_ : ∀ j : Int, 0 ≤ j → j < ns.length → nd r j = if j ∈ l then withSt (nd ns j) to else nd ns j
theorem Chd.su {ns r : List Node} {l : List Int} {to : Int} (h : Chd ns r l to) : SameUp ns r where
  len := h.len.symm
  up := fun j j0 j1 => by rw [h.at_ j j0 j1]; split <;> rfl
theorem Chd.block {ns r : List Node} {l : List Int} {to : Int} (h : Chd ns r l to) {j : Int} (j0 : 0 ≤ j) (j1 : j < ns.length) : (nd r j).block = (nd ns j).block := by
  rw [h.at_ j j0 j1]; split <;> rfl
theorem Chd.upE {ns r : List Node} {l : List Int} {to : Int} (h : Chd ns r l to) {j : Int} (j0 : 0 ≤ j) (j1 : j < ns.length) : (nd r j).up = (nd ns j).up := by
  rw [h.at_ j j0 j1]; split <;> rfl
theorem Chd.st {ns r : List Node} {l : List Int} {to : Int} (h : Chd ns r l to) {j : Int} (j0 : 0 ≤ j) (j1 : j < ns.length) : (nd r j).status = if j ∈ l then to else (nd ns j).status := by
  rw [h.at_ j j0 j1]; split <;> rfl
theorem Chd.vld {ns r : List Node} {l : List Int} {to : Int} (h : Chd ns r l to) (v : Vld ns) (ht : isSt to = true) : Vld r where
  len0 := by rw [h.len]; exact v.len0
  lenM := by rw [h.len]; exact v.lenM
  up0 := by rw [h.upE (by omega) (by have := v.len0; omega)]; exact v.up0
  up := h.su.upok v.up
  par := fun i i0 i1 => by
    rw [h.len] at i1
    obtain ⟨u0, u1⟩ := v.up i i0 i1
    rw [h.upE (by omega) i1, h.block (by omega) i1, h.block u0 (by omega)]
    exact v.par i i0 i1
  slot := fun i i0 i1 => by
    rw [h.len] at i1
    obtain ⟨u0, u1⟩ := v.up i i0 i1
    rw [h.upE (by omega) i1, h.block (by omega) i1, h.block u0 (by omega)]
    exact v.slot i i0 i1
  roots := fun i j i0 hij j1 => by
    rw [h.len] at j1
    rw [h.block i0 (by omega), h.block (by omega) j1]
    exact v.roots i j i0 hij j1
  st := fun i i0 i1 => by
    rw [h.len] at i1
    rw [h.st i0 i1]
    split
    · exact ht
    · exact v.st i i0 i1
/-- Raising. -/
structure Raised (ns r : List Node) (i : Int) : Prop where
  c : Chd ns r (path ns i) 1
  ok : ∀ x ∈ path ns i, (nd ns x).status ≠ 2
theorem raised_of {ns r : List Node} (hu : UpOk ns) {i : Int} (h : raO ns i = some r) : Raised ns r i := by
  obtain ⟨h1, h2, h3⟩ := chg_some (by decide) _ _ _ (path_in hu) h
  exact ⟨⟨h2, h3⟩, h1⟩
structure Condemned (ns r : List Node) (i : Int) : Prop where
  c : Chd ns r (dsc ns i ns.length) 2
  ok : ∀ x ∈ dsc ns i ns.length, (nd ns x).status ≠ 1
theorem condemned_of {ns r : List Node} {i : Int} (h : coO ns i = some r) : Condemned ns r i := by
  obtain ⟨h1, h2, h3⟩ := chg_some (by decide) _ _ _ (dsc_rng ns i) h
  exact ⟨⟨h2, h3⟩, h1⟩
theorem path_up_mem {ns : List Node} (hu : UpOk ns) {i j : Int} (hj : j ∈ path ns i) (j0 : 0 < j) : (nd ns j).up ∈ path ns i := by
  have hr := path_range hu hj
  have h1 : anc ns j i = true := decide_eq_true hj
  obtain ⟨u0, u1⟩ := hu j j0 hr.2
  have h2 : anc ns (nd ns j).up j = true := by
    unfold anc
    rw [path_step hu j0 hr.2]
    exact decide_eq_true (List.mem_append_left _ (path_self hu u0 (by omega)))
  exact of_decide_eq_true (anc_trans hu _ _ _ _ rfl h2 h1)
theorem Raised.cld {ns r : List Node} {i : Int} (h : Raised ns r i) (v : Vld ns) (c : Cld ns) : Cld r := fun j j0 j1 => by
  rw [h.c.len] at j1
  obtain ⟨u0, u1⟩ := v.up j j0 j1
  rw [h.c.upE (by omega) j1, h.c.st (by omega) j1, h.c.st u0 (by omega)]
  obtain ⟨c1, c2⟩ := c j j0 j1
  by_cases hj : j ∈ path ns i
  · rw [if_pos hj, if_pos (path_up_mem v.up hj j0)]
    exact ⟨fun _ => rfl, by omega⟩
  · rw [if_neg hj]
    by_cases hup : (nd ns j).up ∈ path ns i
    · rw [if_pos hup]; exact ⟨fun _ => rfl, by omega⟩
    · rw [if_neg hup]; exact ⟨c1, c2⟩
theorem dsc_down {ns : List Node} (hu : UpOk ns) {i j : Int} (j0 : 0 < j) (j1 : j < ns.length) (h : (nd ns j).up ∈ dsc ns i ns.length) : j ∈ dsc ns i ns.length := by
  obtain ⟨_, h2⟩ := (dsc_mem ns i _ _).1 h
  refine (dsc_mem ns i j _).2 ⟨⟨by omega, j1⟩, ?_⟩
  obtain ⟨u0, u1⟩ := hu j j0 j1
  have h3 : anc ns (nd ns j).up j = true := by
    unfold anc
    rw [path_step hu j0 j1]
    exact decide_eq_true (List.mem_append_left _ (path_self hu u0 (by omega)))
  exact anc_trans hu _ _ _ _ rfl h2 h3
theorem Condemned.cld {ns r : List Node} {i : Int} (h : Condemned ns r i) (v : Vld ns) (c : Cld ns) : Cld r := fun j j0 j1 => by
  rw [h.c.len] at j1
  obtain ⟨u0, u1⟩ := v.up j j0 j1
  rw [h.c.upE (by omega) j1, h.c.st (by omega) j1, h.c.st u0 (by omega)]
  obtain ⟨c1, c2⟩ := c j j0 j1
  by_cases hj : j ∈ dsc ns i ns.length
  · rw [if_pos hj]
    exact ⟨by omega, fun _ => rfl⟩
  · rw [if_neg hj, if_neg (fun hup => hj (dsc_down v.up j0 j1 hup))]
    exact ⟨c1, c2⟩
theorem raise_again {ns r : List Node} {i : Int} (hu : UpOk ns) (h : Raised ns r i) : raO r i = some r := by
  have hp : path r i = path ns i := (h.c.su.pathA hu i).symm
  have hin : ∀ x ∈ path ns i, 0 ≤ x ∧ x < r.length := fun x hx => by rw [h.c.len]; exact path_in hu x hx
  unfold raO
  rw [hp]
  obtain ⟨q, hq⟩ := chg_ok (to := 1) (never := 2) (by decide) (path ns i) r hin (fun x hx => by
    obtain ⟨x0, x1⟩ := path_in hu x hx
    rw [h.c.st x0 x1, if_pos hx]; omega)
  obtain ⟨_, h2, h3⟩ := chg_some (by decide) _ _ _ hin hq
  rw [hq]
  congr 1
  refine nodes_ext h2 fun j j0 j1 => ?_
  rw [h2] at j1
  rw [h3 j j0 j1]
  split
  · rename_i hj
    rw [h.c.len] at j1
    exact withSt_same (by rw [h.c.st j0 j1, if_pos hj])
  · rfl
theorem condemn_again {ns r : List Node} {i : Int} (hu : UpOk ns) (h : Condemned ns r i) : coO r i = some r := by
  have hp : dsc r i r.length = dsc ns i ns.length := by rw [h.c.len]; exact (h.c.su.dscE hu i _).symm
  have hin : ∀ x ∈ dsc ns i ns.length, 0 ≤ x ∧ x < r.length := fun x hx => by rw [h.c.len]; exact dsc_rng ns i x hx
  unfold coO
  rw [hp]
  obtain ⟨q, hq⟩ := chg_ok (to := 2) (never := 1) (by decide) (dsc ns i ns.length) r hin (fun x hx => by
    obtain ⟨x0, x1⟩ := dsc_rng ns i x hx
    rw [h.c.st x0 x1, if_pos hx]; omega)
  obtain ⟨_, h2, h3⟩ := chg_some (by decide) _ _ _ hin hq
  rw [hq]
  congr 1
  refine nodes_ext h2 fun j j0 j1 => ?_
  rw [h2] at j1
  rw [h3 j j0 j1]
  split
  · rename_i hj
    rw [h.c.len] at j1
    exact withSt_same (by rw [h.c.st j0 j1, if_pos hj])
  · rfl
end Go.Ab.Try
