/-
  Part X7 of the proof: equations of the evaluator at this program.
-/
import Derived.Test.YtgpkmepalmdmeaaK5
set_option linter.all false
set_option linter.unusedVariables false
set_option linter.unusedSimpArgs false
set_option maxRecDepth 20000
namespace Go.Ab
open Classical
structure Tagged where
  tag : Int

def cTagged (s : Tagged) : List AV := cU64 s.tag
@[simp] theorem len_cTagged (s : Tagged) : (cTagged s).length = 1 := by simp [cTagged]
theorem flat_cTagged (s : Tagged) : ∀ x ∈ cTagged s, Flat x := by
  intro x hx
  simp only [cTagged, List.mem_append, List.mem_singleton] at hx
  (exact flat_cU64 _ _ hx)
theorem mem_cTagged (s : Tagged) : ∀ x ∈ cTagged s, MemFree x := by
  intro x hx
  simp only [cTagged, List.mem_append] at hx
  exact mem_cU64 _ _ hx
theorem get_Tagged_tag (s : Tagged) : (cTagged s)[0]? = some (.v (.int .u64 s.tag)) := rfl
theorem up_Tagged_tag (s : Tagged) (x : Int) : upd (cTagged s) 0 ([.v (.int .u64 x)]) 1 = cTagged { s with tag := x } := up_last (len_cU64 _)
def zTagged : Tagged := ⟨0⟩
def vTagged : List Value := [.int .u64 0]
theorem vTagged_c : vTagged.map AV.v = cTagged zTagged := by simp only [vTagged, List.map_append, List.map_cons, List.map_nil, vRoot_c, vWide_c]; rfl
def lTagged : List Bool := [true]
theorem leafy_Tagged (a b : Tagged) : Leafy lTagged (cTagged a) (cTagged b) := (show Leafy [true] [_] [_] from ⟨rfl, trivial⟩)
theorem cTagged_inj (a b : Tagged) : cTagged a = cTagged b ↔ a = b := by
  refine ⟨fun h => ?_, fun h => by rw [h]⟩
  cases a; cases b
  simp only [cTagged] at h
  have e0 := (cU64_inj _ _).1 h
  subst e0
  rfl
theorem rd_Tagged_all (s : Tagged) : rd (cTagged s) 0 1 = cTagged s := rd_last (len_cTagged _)
theorem up_Tagged_all (s x : Tagged) : upd (cTagged s) 0 (cTagged x) 1 = cTagged x := up_last (len_cTagged _)

structure Verdict where
  tagged : Tagged
  kind : Int
  latest : Root

def cVerdict (s : Verdict) : List AV := cTagged s.tagged ++ (cInt s.kind ++ (cRoot s.latest))
@[simp] theorem len_cVerdict (s : Verdict) : (cVerdict s).length = 34 := by simp [cVerdict]
theorem flat_cVerdict (s : Verdict) : ∀ x ∈ cVerdict s, Flat x := by
  intro x hx
  simp only [cVerdict, List.mem_append, List.mem_singleton] at hx
  rcases hx with hx | hx | hx
  · (exact flat_cTagged _ _ hx)
  · (exact flat_cInt _ _ hx)
  · (exact flat_cRoot _ _ hx)
theorem mem_cVerdict (s : Verdict) : ∀ x ∈ cVerdict s, MemFree x := by
  intro x hx
  simp only [cVerdict, List.mem_append] at hx
  rcases hx with hx | hx | hx
  · exact mem_cTagged _ _ hx
  · exact mem_cInt _ _ hx
  · exact mem_cRoot _ _ hx
theorem rd_Verdict_tagged (s : Verdict) : rd (cVerdict s) 0 1 = cTagged s.tagged := rd_head (len_cTagged _)
theorem up_Verdict_tagged (s : Verdict) (x : Tagged) : upd (cVerdict s) 0 (cTagged x) 1 = cVerdict { s with tagged := x } := up_head (len_cTagged _)
theorem get_Verdict_tagged_tag (s : Verdict) : (cVerdict s)[0]? = some (.v (.int .u64 s.tagged.tag)) := (get_in (by rw [len_cTagged]; decide)).trans (get_Tagged_tag _)
theorem up_Verdict_tagged_tag (s : Verdict) (x : Int) : upd (cVerdict s) 0 ([.v (.int .u64 x)]) 1 = cVerdict { s with tagged := { s.tagged with tag := x } } := (up_in (by rw [len_cTagged]; decide)).trans (appL (up_Tagged_tag _ x))
theorem get_Verdict_kind (s : Verdict) : (cVerdict s)[1]? = some (.v (.int .i64 s.kind)) := (get_skip rfl (len_cTagged _)).trans (rfl)
theorem up_Verdict_kind (s : Verdict) (x : Int) : upd (cVerdict s) 1 ([.v (.int .i64 x)]) 2 = cVerdict { s with kind := x } := (up_skip rfl rfl (len_cTagged _)).trans (appR (up_head (len_cInt _)))
theorem rd_Verdict_latest (s : Verdict) : rd (cVerdict s) 2 32 = cRoot s.latest := (rd_skip rfl (len_cTagged _)).trans ((rd_skip rfl (len_cInt _)).trans (rd_last (len_cRoot _)))
theorem up_Verdict_latest (s : Verdict) (x : Root) : upd (cVerdict s) 2 (cRoot x) 34 = cVerdict { s with latest := x } := (up_skip rfl rfl (len_cTagged _)).trans (appR ((up_skip rfl rfl (len_cInt _)).trans (appR (up_last (len_cRoot _)))))
def zVerdict : Verdict := ⟨zTagged, 0, zRoot⟩
def vVerdict : List Value := vTagged ++ ([.int .i64 0] ++ (vRoot))
theorem vVerdict_c : vVerdict.map AV.v = cVerdict zVerdict := by simp only [vVerdict, List.map_append, List.map_cons, List.map_nil, vRoot_c, vWide_c, vTagged_c]; rfl
def lVerdict : List Bool := lTagged ++ ([true] ++ (lRoot))
theorem leafy_Verdict (a b : Verdict) : Leafy lVerdict (cVerdict a) (cVerdict b) := (leafy_app (leafy_Tagged _ _) (leafy_app (show Leafy [true] [_] [_] from ⟨rfl, trivial⟩) (leafy_root _ _)))
theorem cVerdict_inj (a b : Verdict) : cVerdict a = cVerdict b ↔ a = b := by
  refine ⟨fun h => ?_, fun h => by rw [h]⟩
  cases a; cases b
  simp only [cVerdict] at h
  obtain ⟨h0, h⟩ := List.append_inj h (by simp)
  obtain ⟨h1, h⟩ := List.append_inj h (by simp)
  have e0 := (cTagged_inj _ _).1 h0
  have e1 := (cInt_inj _ _).1 h1
  have e2 := (cRoot_inj _ _).1 h
  subst e0 e1 e2
  rfl
theorem rd_Verdict_all (s : Verdict) : rd (cVerdict s) 0 34 = cVerdict s := rd_last (len_cVerdict _)
theorem up_Verdict_all (s x : Verdict) : upd (cVerdict s) 0 (cVerdict x) 34 = cVerdict x := up_last (len_cVerdict _)


namespace Try
open Go.Proofs
theorem ld83 (cs : List AV) (o : Nat) (h : 1 ≤ cs.length - o) : ldAt Try.prog 83 cs o = some (.agg (rd cs o 1)) := by
  have : ldInfo Try.prog 83 = some (true, 1) := by kernel_rfl
  simp [ldAt, this, h]
theorem lk83 : ldK Try.prog 83 = some 1 := by kernel_rfl
theorem fo83_0 : fieldOff Try.prog 83 0 = some 0 := by kernel_rfl
theorem ze83 : zeroL Try.prog 83 = some vTagged := by kernel_rfl
theorem eq83 (a b : Tagged) : eqAgg Try.prog 83 (cTagged a) (cTagged b) = some (decide (a = b)) := eqAgg_of (l := lTagged) (by kernel_rfl) (by kernel_rfl) (by kernel_rfl) (leafy_Tagged a b) (cTagged_inj a b)
theorem be83 (a b : Tagged) : binA Try.prog .eql 83 (.agg (cTagged a)) (.agg (cTagged b)) = some (.v (.bool (decide (a = b)))) := by simp only [binA, eq83, Option.map_some]
theorem bn83 (a b : Tagged) : binA Try.prog .neq 83 (.agg (cTagged a)) (.agg (cTagged b)) = some (.v (.bool (!(decide (a = b))))) := by simp only [binA, eq83, Option.map_some]
theorem bu83 (st : St) (parts : List (Nat × Operand)) : buildA Try.prog st 83 parts = if (parts.all fun p => (st.ev p.2).stor) = true then (fillA (fun i => ([(0, 1)] : List (Nat × Nat))[i]?) (cTagged zTagged) (parts.map fun p => (p.1, st.ev p.2))).map .agg else none := build_of (z := vTagged) (by kernel_rfl) vTagged_c (placeTab_eq (by kernel_rfl))
theorem ld85 (cs : List AV) (o : Nat) (h : 34 ≤ cs.length - o) : ldAt Try.prog 85 cs o = some (.agg (rd cs o 34)) := by
  have : ldInfo Try.prog 85 = some (true, 34) := by kernel_rfl
  simp [ldAt, this, h]
theorem lk85 : ldK Try.prog 85 = some 34 := by kernel_rfl
theorem fo85_0 : fieldOff Try.prog 85 0 = some 0 := by kernel_rfl
theorem fo85_1 : fieldOff Try.prog 85 1 = some 1 := by kernel_rfl
theorem fo85_2 : fieldOff Try.prog 85 2 = some 2 := by kernel_rfl
theorem ze85 : zeroL Try.prog 85 = some vVerdict := by kernel_rfl
theorem eq85 (a b : Verdict) : eqAgg Try.prog 85 (cVerdict a) (cVerdict b) = some (decide (a = b)) := eqAgg_of (l := lVerdict) (by kernel_rfl) (by kernel_rfl) (by kernel_rfl) (leafy_Verdict a b) (cVerdict_inj a b)
theorem be85 (a b : Verdict) : binA Try.prog .eql 85 (.agg (cVerdict a)) (.agg (cVerdict b)) = some (.v (.bool (decide (a = b)))) := by simp only [binA, eq85, Option.map_some]
theorem bn85 (a b : Verdict) : binA Try.prog .neq 85 (.agg (cVerdict a)) (.agg (cVerdict b)) = some (.v (.bool (!(decide (a = b))))) := by simp only [binA, eq85, Option.map_some]
theorem bu85 (st : St) (parts : List (Nat × Operand)) : buildA Try.prog st 85 parts = if (parts.all fun p => (st.ev p.2).stor) = true then (fillA (fun i => ([(0, 1), (1, 1), (2, 32)] : List (Nat × Nat))[i]?) (cVerdict zVerdict) (parts.map fun p => (p.1, st.ev p.2))).map .agg else none := build_of (z := vVerdict) (by kernel_rfl) vVerdict_c (placeTab_eq (by kernel_rfl))
theorem expo_verdict (st : St) (t : Verdict) : expo st (.agg (cVerdict t)) = some (.agg (cVerdict t)) := expo_id (.agg _ (flat_cVerdict t))
theorem ZV : (((((type_of% @ld83) ∧ (type_of% @lk83)) ∧ ((type_of% @fo83_0) ∧ (type_of% @ze83))) ∧ (((type_of% @eq83) ∧ (type_of% @be83)) ∧ ((type_of% @bn83) ∧ ((type_of% @bu83) ∧ (type_of% @ld85))))) ∧ ((((type_of% @lk85) ∧ (type_of% @fo85_0)) ∧ ((type_of% @fo85_1) ∧ (type_of% @fo85_2))) ∧ (((type_of% @ze85) ∧ (type_of% @eq85)) ∧ ((type_of% @be85) ∧ ((type_of% @bn85) ∧ (type_of% @bu85)))))) ∧ (((((type_of% @get_Tagged_tag) ∧ (type_of% @up_Tagged_tag)) ∧ ((type_of% @rd_Tagged_all) ∧ (type_of% @up_Tagged_all))) ∧ (((type_of% @rd_Verdict_tagged) ∧ (type_of% @up_Verdict_tagged)) ∧ ((type_of% @get_Verdict_tagged_tag) ∧ ((type_of% @up_Verdict_tagged_tag) ∧ (type_of% @get_Verdict_kind))))) ∧ ((((type_of% @up_Verdict_kind) ∧ (type_of% @rd_Verdict_latest)) ∧ ((type_of% @up_Verdict_latest) ∧ ((type_of% @rd_Verdict_all) ∧ (type_of% @up_Verdict_all)))) ∧ (((type_of% @len_cTagged) ∧ (type_of% @len_cVerdict)) ∧ ((type_of% @vTagged_c) ∧ ((type_of% @vVerdict_c) ∧ (type_of% @expo_verdict)))))) := ⟨⟨⟨⟨⟨@ld83, @lk83⟩, ⟨@fo83_0, @ze83⟩⟩, ⟨⟨@eq83, @be83⟩, ⟨@bn83, ⟨@bu83, @ld85⟩⟩⟩⟩, ⟨⟨⟨@lk85, @fo85_0⟩, ⟨@fo85_1, @fo85_2⟩⟩, ⟨⟨@ze85, @eq85⟩, ⟨@be85, ⟨@bn85, @bu85⟩⟩⟩⟩⟩, ⟨⟨⟨⟨@get_Tagged_tag, @up_Tagged_tag⟩, ⟨@rd_Tagged_all, @up_Tagged_all⟩⟩, ⟨⟨@rd_Verdict_tagged, @up_Verdict_tagged⟩, ⟨@get_Verdict_tagged_tag, ⟨@up_Verdict_tagged_tag, @get_Verdict_kind⟩⟩⟩⟩, ⟨⟨⟨@up_Verdict_kind, @rd_Verdict_latest⟩, ⟨@up_Verdict_latest, ⟨@rd_Verdict_all, @up_Verdict_all⟩⟩⟩, ⟨⟨@len_cTagged, @len_cVerdict⟩, ⟨@vTagged_c, ⟨@vVerdict_c, @expo_verdict⟩⟩⟩⟩⟩⟩
end Try
end Go.Ab
