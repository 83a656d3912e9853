/-
  Part J9 of the proof: what functions of this program compute.
-/
import Derived.Test.YtgpkmepalmdmeaaJ8
import Derived.Test.YtgpkmepalmdmeaaS8
set_option linter.all false
set_option linter.unusedSimpArgs false
set_option linter.unusedVariables false
set_option maxRecDepth 20000
set_option maxHeartbeats 4000000
namespace Go.Ab.Try
open Classical Go.Proofs Go.Ab
noncomputable def cndO (ns : List Node) (i : Int) (h : Root) (l : List Int) : Option (List Node) :=
  if Keeps ns (reachV ns i h).2 l then none
  else if 0 ≤ (reachV ns i h).1 then
    match raO ns (reachV ns i h).1 with
    | none => none
    | some r => coO r (reachV ns i h).2
  else coO ns (reachV ns i h).2
theorem cndV_O {ns : List Node} (hu : UpOk ns) (hr : (nd ns 0).up = -1) {i : Int} (i0 : 0 ≤ i) (i1 : i < ns.length) (h : Root) (l : List Int) : cndV ns i h l = stA (cndO ns i h l) := by
  obtain ⟨hc, _⟩ := reach_fact hu hr i0 i1 h
  obtain ⟨c0, c1⟩ := path_in hu _ hc
  unfold cndV cndO
  split
  · rfl
  · split
    · cases hq : raO ns (reachV ns i h).1 with
      | none => rfl
      | some r =>
        simp only
        exact if_pos ⟨c0, by rw [(raised_of hu hq).c.len]; exact c1⟩
    · exact if_pos ⟨c0, c1⟩
/-- What a condemnation brings about. -/
structure Cnd (ns r : List Node) (a c : Int) : Prop where
  len : r.length = ns.length
  upE : ∀ j : Int, 0 ≤ j → j < ns.length → (nd r j).up = (nd ns j).up
  block : ∀ j : Int, 0 ≤ j → j < ns.length → (nd r j).block = (nd ns j).block
  st : ∀ j : Int, 0 ≤ j → j < ns.length → (nd r j).status = if j ∈ dsc ns c ns.length then 2 else if 0 ≤ a ∧ j ∈ path ns a then 1 else (nd ns j).status
  same : ∀ j : Int, 0 ≤ j → j < ns.length → withSt (nd r j) (nd ns j).status = nd ns j
  disj : ∀ j : Int, 0 ≤ a → j ∈ path ns a → j ∉ dsc ns c ns.length
  okc : ∀ j ∈ dsc ns c ns.length, (nd ns j).status ≠ 1
  oka : ∀ j : Int, 0 ≤ a → j ∈ path ns a → (nd ns j).status ≠ 2
  vld : Vld ns → Vld r
  cld : Vld ns → Cld ns → Cld r
theorem Cnd.su {ns r : List Node} {a c : Int} (h : Cnd ns r a c) : SameUp ns r := ⟨h.len.symm, fun j j0 j1 => (h.upE j j0 j1).symm⟩
theorem withSt_withSt (n : Node) (s t : Int) : withSt (withSt n s) t = withSt n t := rfl
theorem Chd.same {ns r : List Node} {l : List Int} {to : Int} (h : Chd ns r l to) {j : Int} (j0 : 0 ≤ j) (j1 : j < ns.length) (s : Int) : withSt (nd r j) s = withSt (nd ns j) s := by
  rw [h.at_ j j0 j1]; split <;> rfl
theorem cnd_of {ns r : List Node} (hu : UpOk ns) {i : Int} {h : Root} {l : List Int} (hc : cndO ns i h l = some r) : Cnd ns r (reachV ns i h).1 (reachV ns i h).2 ∧ ¬ Keeps ns (reachV ns i h).2 l := by
  unfold cndO at hc
  split at hc
  · cases hc
  rename_i hk
  refine ⟨?_, hk⟩
  generalize (reachV ns i h).1 = a at *
  generalize (reachV ns i h).2 = c at *
  split at hc
  · rename_i ha
    cases hq : raO ns a with
    | none => rw [hq] at hc; cases hc
    | some q =>
      rw [hq] at hc
      simp only at hc
      have hR := raised_of hu hq
      have hC := condemned_of hc
      have hd : dsc q c q.length = dsc ns c ns.length := by rw [hR.c.len]; exact (hR.c.su.dscE hu c _).symm
      have hdisj : ∀ j : Int, 0 ≤ a → j ∈ path ns a → j ∉ dsc ns c ns.length := fun j _ hj hj' => by
        obtain ⟨j0, j1⟩ := path_in hu j hj
        have := hC.ok j (by rw [hd]; exact hj')
        rw [hR.c.st j0 j1, if_pos hj] at this
        exact this rfl
      refine ⟨by rw [hC.c.len, hR.c.len], fun j j0 j1 => ?_, fun j j0 j1 => ?_, fun j j0 j1 => ?_, fun j j0 j1 => ?_, hdisj, fun j hj => ?_, fun j _ hj => hR.ok j hj, fun v => ?_, fun v cl => ?_⟩
      · rw [hC.c.upE j0 (by rw [hR.c.len]; exact j1), hR.c.upE j0 j1]
      · rw [hC.c.block j0 (by rw [hR.c.len]; exact j1), hR.c.block j0 j1]
      · rw [hC.c.st j0 (by rw [hR.c.len]; exact j1), hR.c.st j0 j1, hd]
        simp only [ha, true_and]
      · rw [hC.c.same j0 (by rw [hR.c.len]; exact j1), hR.c.same j0 j1]; rfl
      · obtain ⟨j0, j1⟩ := dsc_rng ns c j hj
        have := hC.ok j (by rw [hd]; exact hj)
        rw [hR.c.st j0 j1] at this
        split at this
        · exact absurd rfl this
        · exact this
      · exact hC.c.vld (hR.c.vld v rfl) rfl
      · exact hC.cld (hR.c.vld v rfl) (hR.cld v cl)
  · rename_i ha
    have hC := condemned_of hc
    refine ⟨hC.c.len, fun j j0 j1 => hC.c.upE j0 j1, fun j j0 j1 => hC.c.block j0 j1, fun j j0 j1 => ?_, fun j j0 j1 => ?_, fun j h => absurd h ha, hC.ok, fun j h => absurd h ha, fun v => hC.c.vld v rfl, fun v cl => hC.cld v cl⟩
    · rw [hC.c.st j0 j1, if_neg (c := 0 ≤ a ∧ _) (fun h => ha h.1)]
    · rw [hC.c.same j0 j1]; rfl
/-- A change that finds everything done. -/
theorem chg_id {to never : Int} (hne : to ≠ never) {l : List Int} {r : List Node} (hin : ∀ x ∈ l, 0 ≤ x ∧ x < r.length) (hs : ∀ x ∈ l, (nd r x).status = to) : chg to never l r = some r := by
  obtain ⟨q, hq⟩ := chg_ok (to := to) (never := never) hne l r hin (fun x hx => by rw [hs x hx]; exact hne)
  obtain ⟨_, h2, h3⟩ := chg_some hne _ _ _ hin hq
  rw [hq]
  congr 1
  refine nodes_ext h2 fun j j0 j1 => ?_
  rw [h2] at j1
  rw [h3 j j0 j1]
  split
  · rename_i hj
    exact withSt_same (hs j hj)
  · rfl
theorem chg_no {to never : Int} (hne : to ≠ never) {l : List Int} {r : List Node} (hin : ∀ x ∈ l, 0 ≤ x ∧ x < r.length) {x : Int} (hx : x ∈ l) (hs : (nd r x).status = never) : chg to never l r = none := by
  cases h : chg to never l r with
  | none => rfl
  | some q => exact absurd hs ((chg_some hne _ _ _ hin h).1 x hx)
theorem pay_of {ns r : List Node} (hb : ∀ j : Int, 0 ≤ j → j < ns.length → (nd r j).block = (nd ns j).block) {x : Int} (x0 : 0 ≤ x) (x1 : x < ns.length) : pay r x = pay ns x := by
  unfold pay; rw [hb x x0 x1]
theorem firstF_E {ns r : List Node} {p : List Int} (h : ∀ x ∈ p, pay r x = pay ns x) : ∀ n, n ≤ p.length → firstF r p n = firstF ns p n
  | 0, _ => rfl
  | n + 1, hn => by simp only [firstF]; rw [firstF_E h n (by omega), h _ (it_mem (by omega) (by omega))]
theorem lastF_E {ns r : List Node} {p : List Int} {g : Root} (h : ∀ x ∈ p, pay r x = pay ns x) : ∀ n, n ≤ p.length → lastF r p g n = lastF ns p g n
  | 0, _ => rfl
  | n + 1, hn => by simp only [lastF]; rw [lastF_E h n (by omega), h _ (it_mem (by omega) (by omega))]
theorem reach_E {ns r : List Node} (hu : UpOk ns) (hs : SameUp ns r) (hb : ∀ j : Int, 0 ≤ j → j < ns.length → (nd r j).block = (nd ns j).block) (i : Int) (h : Root) : reachV r i h = reachV ns i h := by
  have hp : ∀ x ∈ path ns i, pay r x = pay ns x := fun x hx => by
    obtain ⟨x0, x1⟩ := path_in hu x hx
    exact pay_of hb x0 x1
  unfold reachV
  rw [← hs.pathA hu i, firstF_E hp _ (Nat.le_refl _), lastF_E hp _ (by omega)]
theorem keeps_E {ns r : List Node} (hu : UpOk ns) (hs : SameUp ns r) (c : Int) (l : List Int) : Keeps r c l ↔ Keeps ns c l := by
  unfold Keeps
  simp only [← hs.ancE hu]
theorem dsc_E {ns r : List Node} (hu : UpOk ns) (hs : SameUp ns r) (c : Int) : dsc r c r.length = dsc ns c ns.length := by
  rw [← hs.len]; exact (hs.dscE hu c _).symm
/-- To condemn once more changes nothing. -/
theorem cnd_again {ns r : List Node} (hu : UpOk ns) {i : Int} {h : Root} {l : List Int} (hc : cndO ns i h l = some r) : cndO r i h l = some r := by
  obtain ⟨hC, hk⟩ := cnd_of hu hc
  unfold cndO
  rw [reach_E hu hC.su hC.block]
  generalize (reachV ns i h).1 = a at *
  generalize (reachV ns i h).2 = c at *
  rw [if_neg (by rw [keeps_E hu hC.su]; exact hk)]
  have hco : coO r c = some r := by
    unfold coO
    rw [dsc_E hu hC.su]
    exact chg_id (by decide) (fun x hx => by rw [hC.len]; exact dsc_rng ns c x hx) fun x hx => by
      obtain ⟨x0, x1⟩ := dsc_rng ns c x hx
      rw [hC.st x x0 x1, if_pos hx]
  split
  · rename_i ha
    have hra : raO r a = some r := by
      unfold raO
      rw [← hC.su.pathA hu]
      exact chg_id (by decide) (fun x hx => by rw [hC.len]; exact path_in hu x hx) fun x hx => by
        obtain ⟨x0, x1⟩ := path_in hu x hx
        rw [hC.st x x0 x1, if_neg (hC.disj x ha hx), if_pos ⟨ha, hx⟩]
    rw [hra]
    exact hco
  · exact hco
theorem dsc_self {ns : List Node} (hu : UpOk ns) {c : Int} (c0 : 0 ≤ c) (c1 : c < ns.length) : c ∈ dsc ns c ns.length := (dsc_mem ns c c _).2 ⟨⟨c0, c1⟩, decide_eq_true (path_self hu c0 c1)⟩
/-- A node that is raised cannot be condemned by way of itself. -/
theorem cnd_raised {ns r : List Node} (hu : UpOk ns) (hr : (nd ns 0).up = -1) {i : Int} (i0 : 0 ≤ i) (i1 : i < ns.length) (hq : raO ns i = some r) (h : Root) (l : List Int) : cndO r i h l = none := by
  have hR := raised_of hu hq
  have hu2 := hR.c.su.upok hu
  have hp : path r i = path ns i := (hR.c.su.pathA hu i).symm
  obtain ⟨hc, ha⟩ := reach_fact hu hr i0 i1 h
  unfold cndO
  rw [reach_E hu hR.c.su (fun j j0 j1 => hR.c.block j0 j1)]
  generalize (reachV ns i h).1 = a at *
  generalize (reachV ns i h).2 = c at *
  obtain ⟨c0, c1⟩ := path_in hu c hc
  split
  · rfl
  have hst : ∀ x ∈ path ns i, (nd r x).status = 1 := fun x hx => by
    obtain ⟨x0, x1⟩ := path_in hu x hx
    rw [hR.c.st x0 x1, if_pos hx]
  have hco : coO r c = none := by
    unfold coO
    exact chg_no (by decide) (dsc_rng r c) (dsc_self hu2 c0 (by rw [hR.c.len]; exact c1)) (hst c hc)
  split
  · rename_i h0
    have hap : a ∈ path ns i := by
      rcases ha with h | h
      · omega
      · exact h.1
    have hra : raO r a = some r := by
      unfold raO
      refine chg_id (by decide) (path_in hu2) fun x hx => hst x ?_
      rw [← hR.c.su.pathA hu] at hx
      have h1 : anc ns x a = true := decide_eq_true hx
      have h2 : anc ns a i = true := decide_eq_true hap
      exact of_decide_eq_true (anc_trans hu _ _ _ _ rfl h1 h2)
    rw [hra]
    exact hco
  · exact hco
/-- A node below what is condemned cannot be raised. -/
theorem raise_cnd {ns r : List Node} (hu : UpOk ns) (hr : (nd ns 0).up = -1) {i : Int} (i0 : 0 ≤ i) (i1 : i < ns.length) {h : Root} {l : List Int} (hq : cndO ns i h l = some r) : raO r i = none := by
  obtain ⟨hC, _⟩ := cnd_of hu hq
  obtain ⟨hc, _⟩ := reach_fact hu hr i0 i1 h
  have hu2 := hC.su.upok hu
  unfold raO
  rw [← hC.su.pathA hu]
  generalize (reachV ns i h).2 = c at *
  obtain ⟨c0, c1⟩ := path_in hu c hc
  exact chg_no (by decide) (fun x hx => by rw [hC.len]; exact path_in hu x hx) hc (by rw [hC.st c c0 c1, if_pos (dsc_self hu c0 c1)])
end Go.Ab.Try
