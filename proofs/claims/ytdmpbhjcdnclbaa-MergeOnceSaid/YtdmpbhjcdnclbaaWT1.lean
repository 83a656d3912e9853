/-
  Part WT1 of the proof: what functions of this program compute.
-/
import Derived.Test.YtdmpbhjcdnclbaaWX2
set_option linter.all false
set_option linter.unusedVariables false
set_option linter.unusedSimpArgs false
set_option maxRecDepth 20000
namespace Go.Ab
open Classical
variable [Ext]
/-- What is handed on, cell by cell. -/
noncomputable def exq (st : St) (cs : List AV) : Option (List AV) := optAll (cs.map (expo1 st))
theorem exq_nil (st : St) : exq st [] = some [] := rfl
theorem exq_app (st : St) (a b : List AV) : exq st (a ++ b) = bnd (exq st a) fun x => bnd (exq st b) fun y => some (x ++ y) := by
  unfold exq
  induction a with
  | nil => simp [optAll, bnd]; cases optAll (b.map (expo1 st)) <;> rfl
  | cons c a ih =>
    simp only [List.cons_append, List.map_cons]
    cases expo1 st c with
    | none => rfl
    | some c' =>
      simp only [optAll, ih]
      cases optAll (a.map (expo1 st)) with
      | none => rfl
      | some a' =>
        simp only [bnd, Option.map_some]
        cases optAll (b.map (expo1 st)) <;> rfl
theorem exq_one (st : St) (x : AV) : exq st [x] = bnd (expo1 st x) fun y => some [y] := by
  unfold exq
  simp only [List.map_cons, List.map_nil]
  cases expo1 st x <;> rfl
theorem exq_flat {st : St} {cs : List AV} (h : ∀ c ∈ cs, Flat c) : exq st cs = some cs := by
  unfold exq
  induction cs with
  | nil => rfl
  | cons c cs ih =>
    simp only [List.map_cons, expo1_id (h c (by simp)), optAll, ih fun x hx => h x (by simp [hx]), Option.map_some]
theorem expo_aggq (st : St) (cs : List AV) : expo st (.agg cs) = bnd (exq st cs) fun x => some (.agg x) := by
  unfold expo
  by_cases h : Flat (.agg cs)
  · rw [if_pos h]
    have h' : ∀ c ∈ cs, Flat c := by cases h with | agg _ h => exact h
    rw [exq_flat h']
    rfl
  · rw [if_neg h]
    simp only [exq]
    cases optAll (cs.map (expo1 st)) <;> rfl
/-- A slice that may be nil. -/
def ov {α : Type} (c : List α → List AV) : Option (List α) → AV
  | none => .v (.slice none 0 0)
  | some l => .sl l.length (c l)
def ol {α : Type} (o : Option (List α)) : List α := o.getD []
theorem ol_some {α : Type} (l : List α) : ol (some l) = l := rfl
theorem ol_none {α : Type} : ol (none : Option (List α)) = [] := rfl
def gx {α : Type} (z : α) (l : List α) (i : Int) : α := l.getD i.toNat z
theorem gx_get {α : Type} {z : α} {l : List α} {i : Int} (h0 : 0 ≤ i) (h1 : i < l.length) : ∃ h : i.toNat < l.length, gx z l i = l[i.toNat] := by
  have h : i.toNat < l.length := by omega
  exact ⟨h, by simp [gx, h]⟩
theorem gx_mem {α : Type} {z : α} {l : List α} {i : Int} (h0 : 0 ≤ i) (h1 : i < l.length) : gx z l i ∈ l := by
  obtain ⟨h, e⟩ := gx_get (z := z) h0 h1
  rw [e]; exact List.getElem_mem h
def csCkpt (l : List Ckpt) : List AV := l.flatMap cCkpt
@[simp] theorem len_csCkpt (l : List (Ckpt)) : (csCkpt l).length = l.length * 33 := by
  induction l with
  | nil => rfl
  | cons x l ih => simp only [csCkpt, List.flatMap_cons, List.length_append, len_cCkpt, List.length_cons] at *; omega
theorem flat_csCkpt (l : List (Ckpt)) : ∀ x ∈ csCkpt l, Flat x := by
  intro x hx
  obtain ⟨y, _, hy⟩ := List.mem_flatMap.1 hx
  exact flat_cCkpt y x hy
theorem rd_csCkpt (l : List (Ckpt)) (i : Nat) (h : i < l.length) : rd (csCkpt l) (i * 33) 33 = cCkpt l[i] := rd_flatMap cCkpt 33 (len_cCkpt) l i h

def csBlock (l : List Block) : List AV := l.flatMap cBlock
@[simp] theorem len_csBlock (l : List (Block)) : (csBlock l).length = l.length * 238 := by
  induction l with
  | nil => rfl
  | cons x l ih => simp only [csBlock, List.flatMap_cons, List.length_append, len_cBlock, List.length_cons] at *; omega
theorem flat_csBlock (l : List (Block)) : ∀ x ∈ csBlock l, Flat x := by
  intro x hx
  obtain ⟨y, _, hy⟩ := List.mem_flatMap.1 hx
  exact flat_cBlock y x hy
theorem rd_csBlock (l : List (Block)) (i : Nat) (h : i < l.length) : rd (csBlock l) (i * 238) 238 = cBlock l[i] := rd_flatMap cBlock 238 (len_cBlock) l i h

def csBool (l : List Bool) : List AV := l.flatMap cBool
@[simp] theorem len_csBool (l : List (Bool)) : (csBool l).length = l.length * 1 := by
  induction l with
  | nil => rfl
  | cons x l ih => simp only [csBool, List.flatMap_cons, List.length_append, len_cBool, List.length_cons] at *; omega
theorem flat_csBool (l : List (Bool)) : ∀ x ∈ csBool l, Flat x := by
  intro x hx
  obtain ⟨y, _, hy⟩ := List.mem_flatMap.1 hx
  exact flat_cBool y x hy
theorem rd_csBool (l : List (Bool)) (i : Nat) (h : i < l.length) : rd (csBool l) (i * 1) 1 = cBool l[i] := rd_flatMap cBool 1 (len_cBool) l i h

structure Tagged where
  tag : Int

def cTagged (s : Tagged) : List AV := cU64 s.tag
@[simp] theorem len_cTagged (s : Tagged) : (cTagged s).length = 1 := by simp [cTagged]
theorem flat_cTagged (s : Tagged) : ∀ x ∈ cTagged s, Flat x := by
  intro x hx
  simp only [cTagged, List.mem_append, List.mem_singleton] at hx
  (exact flat_cU64 _ _ hx)
theorem mem_cTagged (s : Tagged) : ∀ x ∈ cTagged s, MemFree x := by
  intro x hx
  simp only [cTagged, List.mem_append] at hx
  exact mem_cU64 _ _ hx
theorem get_Tagged_tag (s : Tagged) : (cTagged s)[0]? = some (.v (.int .u64 s.tag)) := rfl
theorem up_Tagged_tag (s : Tagged) (x : Int) : upd (cTagged s) 0 ([.v (.int .u64 x)]) 1 = cTagged { s with tag := x } := up_last (len_cU64 _)
def zTagged : Tagged := ⟨0⟩
def vTagged : List Value := [.int .u64 0]
theorem vTagged_c : vTagged.map AV.v = cTagged zTagged := by simp only [vTagged, List.map_append, List.map_cons, List.map_nil, vRoot_c, vWide_c]; rfl
def lTagged : List Bool := [true]
theorem leafy_Tagged (a b : Tagged) : Leafy lTagged (cTagged a) (cTagged b) := (show Leafy [true] [_] [_] from ⟨rfl, trivial⟩)
theorem cTagged_inj (a b : Tagged) : cTagged a = cTagged b ↔ a = b := by
  refine ⟨fun h => ?_, fun h => by rw [h]⟩
  cases a; cases b
  simp only [cTagged] at h
  have e0 := (cU64_inj _ _).1 h
  subst e0
  rfl
theorem rd_Tagged_all (s : Tagged) : rd (cTagged s) 0 1 = cTagged s := rd_last (len_cTagged _)
theorem up_Tagged_all (s x : Tagged) : upd (cTagged s) 0 (cTagged x) 1 = cTagged x := up_last (len_cTagged _)

structure Verdict where
  tagged : Tagged
  kind : Int
  latest : Root

def cVerdict (s : Verdict) : List AV := cTagged s.tagged ++ (cInt s.kind ++ (cRoot s.latest))
@[simp] theorem len_cVerdict (s : Verdict) : (cVerdict s).length = 34 := by simp [cVerdict]
theorem flat_cVerdict (s : Verdict) : ∀ x ∈ cVerdict s, Flat x := by
  intro x hx
  simp only [cVerdict, List.mem_append, List.mem_singleton] at hx
  rcases hx with hx | hx | hx
  · (exact flat_cTagged _ _ hx)
  · (exact flat_cInt _ _ hx)
  · (exact flat_cRoot _ _ hx)
theorem mem_cVerdict (s : Verdict) : ∀ x ∈ cVerdict s, MemFree x := by
  intro x hx
  simp only [cVerdict, List.mem_append] at hx
  rcases hx with hx | hx | hx
  · exact mem_cTagged _ _ hx
  · exact mem_cInt _ _ hx
  · exact mem_cRoot _ _ hx
theorem rd_Verdict_tagged (s : Verdict) : rd (cVerdict s) 0 1 = cTagged s.tagged := rd_head (len_cTagged _)
theorem up_Verdict_tagged (s : Verdict) (x : Tagged) : upd (cVerdict s) 0 (cTagged x) 1 = cVerdict { s with tagged := x } := up_head (len_cTagged _)
theorem get_Verdict_tagged_tag (s : Verdict) : (cVerdict s)[0]? = some (.v (.int .u64 s.tagged.tag)) := (get_in (by rw [len_cTagged]; decide)).trans (get_Tagged_tag _)
theorem up_Verdict_tagged_tag (s : Verdict) (x : Int) : upd (cVerdict s) 0 ([.v (.int .u64 x)]) 1 = cVerdict { s with tagged := { s.tagged with tag := x } } := (up_in (by rw [len_cTagged]; decide)).trans (appL (up_Tagged_tag _ x))
theorem get_Verdict_kind (s : Verdict) : (cVerdict s)[1]? = some (.v (.int .i64 s.kind)) := (get_skip rfl (len_cTagged _)).trans (rfl)
theorem up_Verdict_kind (s : Verdict) (x : Int) : upd (cVerdict s) 1 ([.v (.int .i64 x)]) 2 = cVerdict { s with kind := x } := (up_skip rfl rfl (len_cTagged _)).trans (appR (up_head (len_cInt _)))
theorem rd_Verdict_latest (s : Verdict) : rd (cVerdict s) 2 32 = cRoot s.latest := (rd_skip rfl (len_cTagged _)).trans ((rd_skip rfl (len_cInt _)).trans (rd_last (len_cRoot _)))
theorem up_Verdict_latest (s : Verdict) (x : Root) : upd (cVerdict s) 2 (cRoot x) 34 = cVerdict { s with latest := x } := (up_skip rfl rfl (len_cTagged _)).trans (appR ((up_skip rfl rfl (len_cInt _)).trans (appR (up_last (len_cRoot _)))))
def zVerdict : Verdict := ⟨zTagged, 0, zRoot⟩
def vVerdict : List Value := vTagged ++ ([.int .i64 0] ++ (vRoot))
theorem vVerdict_c : vVerdict.map AV.v = cVerdict zVerdict := by simp only [vVerdict, List.map_append, List.map_cons, List.map_nil, vRoot_c, vWide_c, vTagged_c]; rfl
def lVerdict : List Bool := lTagged ++ ([true] ++ (lRoot))
theorem leafy_Verdict (a b : Verdict) : Leafy lVerdict (cVerdict a) (cVerdict b) := (leafy_app (leafy_Tagged _ _) (leafy_app (show Leafy [true] [_] [_] from ⟨rfl, trivial⟩) (leafy_root _ _)))
theorem cVerdict_inj (a b : Verdict) : cVerdict a = cVerdict b ↔ a = b := by
  refine ⟨fun h => ?_, fun h => by rw [h]⟩
  cases a; cases b
  simp only [cVerdict] at h
  obtain ⟨h0, h⟩ := List.append_inj h (by simp)
  obtain ⟨h1, h⟩ := List.append_inj h (by simp)
  have e0 := (cTagged_inj _ _).1 h0
  have e1 := (cInt_inj _ _).1 h1
  have e2 := (cRoot_inj _ _).1 h
  subst e0 e1 e2
  rfl
theorem rd_Verdict_all (s : Verdict) : rd (cVerdict s) 0 34 = cVerdict s := rd_last (len_cVerdict _)
theorem up_Verdict_all (s x : Verdict) : upd (cVerdict s) 0 (cVerdict x) 34 = cVerdict x := up_last (len_cVerdict _)

structure Limits where
  nodeL : Int
  orphL : Int
  earlyL : Int
  tableL : Int
  retryL : Int
  backoff : Int

def cLimits (s : Limits) : List AV := cInt s.nodeL ++ (cInt s.orphL ++ (cInt s.earlyL ++ (cInt s.tableL ++ (cInt s.retryL ++ (cU64 s.backoff)))))
@[simp] theorem len_cLimits (s : Limits) : (cLimits s).length = 6 := by simp [cLimits]
theorem flat_cLimits (s : Limits) : ∀ x ∈ cLimits s, Flat x := by
  intro x hx
  simp only [cLimits, List.mem_append, List.mem_singleton] at hx
  rcases hx with hx | hx | hx | hx | hx | hx
  · (exact flat_cInt _ _ hx)
  · (exact flat_cInt _ _ hx)
  · (exact flat_cInt _ _ hx)
  · (exact flat_cInt _ _ hx)
  · (exact flat_cInt _ _ hx)
  · (exact flat_cU64 _ _ hx)
theorem mem_cLimits (s : Limits) : ∀ x ∈ cLimits s, MemFree x := by
  intro x hx
  simp only [cLimits, List.mem_append] at hx
  rcases hx with hx | hx | hx | hx | hx | hx
  · exact mem_cInt _ _ hx
  · exact mem_cInt _ _ hx
  · exact mem_cInt _ _ hx
  · exact mem_cInt _ _ hx
  · exact mem_cInt _ _ hx
  · exact mem_cU64 _ _ hx
theorem get_Limits_nodeL (s : Limits) : (cLimits s)[0]? = some (.v (.int .i64 s.nodeL)) := rfl
theorem up_Limits_nodeL (s : Limits) (x : Int) : upd (cLimits s) 0 ([.v (.int .i64 x)]) 1 = cLimits { s with nodeL := x } := up_head (len_cInt _)
theorem get_Limits_orphL (s : Limits) : (cLimits s)[1]? = some (.v (.int .i64 s.orphL)) := (get_skip rfl (len_cInt _)).trans (rfl)
theorem up_Limits_orphL (s : Limits) (x : Int) : upd (cLimits s) 1 ([.v (.int .i64 x)]) 2 = cLimits { s with orphL := x } := (up_skip rfl rfl (len_cInt _)).trans (appR (up_head (len_cInt _)))
theorem get_Limits_earlyL (s : Limits) : (cLimits s)[2]? = some (.v (.int .i64 s.earlyL)) := (get_skip rfl (len_cInt _)).trans ((get_skip rfl (len_cInt _)).trans (rfl))
theorem up_Limits_earlyL (s : Limits) (x : Int) : upd (cLimits s) 2 ([.v (.int .i64 x)]) 3 = cLimits { s with earlyL := x } := (up_skip rfl rfl (len_cInt _)).trans (appR ((up_skip rfl rfl (len_cInt _)).trans (appR (up_head (len_cInt _)))))
theorem get_Limits_tableL (s : Limits) : (cLimits s)[3]? = some (.v (.int .i64 s.tableL)) := (get_skip rfl (len_cInt _)).trans ((get_skip rfl (len_cInt _)).trans ((get_skip rfl (len_cInt _)).trans (rfl)))
theorem up_Limits_tableL (s : Limits) (x : Int) : upd (cLimits s) 3 ([.v (.int .i64 x)]) 4 = cLimits { s with tableL := x } := (up_skip rfl rfl (len_cInt _)).trans (appR ((up_skip rfl rfl (len_cInt _)).trans (appR ((up_skip rfl rfl (len_cInt _)).trans (appR (up_head (len_cInt _)))))))
theorem get_Limits_retryL (s : Limits) : (cLimits s)[4]? = some (.v (.int .i64 s.retryL)) := (get_skip rfl (len_cInt _)).trans ((get_skip rfl (len_cInt _)).trans ((get_skip rfl (len_cInt _)).trans ((get_skip rfl (len_cInt _)).trans (rfl))))
theorem up_Limits_retryL (s : Limits) (x : Int) : upd (cLimits s) 4 ([.v (.int .i64 x)]) 5 = cLimits { s with retryL := x } := (up_skip rfl rfl (len_cInt _)).trans (appR ((up_skip rfl rfl (len_cInt _)).trans (appR ((up_skip rfl rfl (len_cInt _)).trans (appR ((up_skip rfl rfl (len_cInt _)).trans (appR (up_head (len_cInt _)))))))))
theorem get_Limits_backoff (s : Limits) : (cLimits s)[5]? = some (.v (.int .u64 s.backoff)) := (get_skip rfl (len_cInt _)).trans ((get_skip rfl (len_cInt _)).trans ((get_skip rfl (len_cInt _)).trans ((get_skip rfl (len_cInt _)).trans ((get_skip rfl (len_cInt _)).trans (rfl)))))
theorem up_Limits_backoff (s : Limits) (x : Int) : upd (cLimits s) 5 ([.v (.int .u64 x)]) 6 = cLimits { s with backoff := x } := (up_skip rfl rfl (len_cInt _)).trans (appR ((up_skip rfl rfl (len_cInt _)).trans (appR ((up_skip rfl rfl (len_cInt _)).trans (appR ((up_skip rfl rfl (len_cInt _)).trans (appR ((up_skip rfl rfl (len_cInt _)).trans (appR (up_last (len_cU64 _)))))))))))
def zLimits : Limits := ⟨0, 0, 0, 0, 0, 0⟩
def vLimits : List Value := [.int .i64 0] ++ ([.int .i64 0] ++ ([.int .i64 0] ++ ([.int .i64 0] ++ ([.int .i64 0] ++ ([.int .u64 0])))))
theorem vLimits_c : vLimits.map AV.v = cLimits zLimits := by simp only [vLimits, List.map_append, List.map_cons, List.map_nil, vRoot_c, vWide_c]; rfl
def lLimits : List Bool := [true] ++ ([true] ++ ([true] ++ ([true] ++ ([true] ++ ([true])))))
theorem leafy_Limits (a b : Limits) : Leafy lLimits (cLimits a) (cLimits b) := (leafy_app (show Leafy [true] [_] [_] from ⟨rfl, trivial⟩) (leafy_app (show Leafy [true] [_] [_] from ⟨rfl, trivial⟩) (leafy_app (show Leafy [true] [_] [_] from ⟨rfl, trivial⟩) (leafy_app (show Leafy [true] [_] [_] from ⟨rfl, trivial⟩) (leafy_app (show Leafy [true] [_] [_] from ⟨rfl, trivial⟩) (show Leafy [true] [_] [_] from ⟨rfl, trivial⟩))))))
theorem cLimits_inj (a b : Limits) : cLimits a = cLimits b ↔ a = b := by
  refine ⟨fun h => ?_, fun h => by rw [h]⟩
  cases a; cases b
  simp only [cLimits] at h
  obtain ⟨h0, h⟩ := List.append_inj h (by simp)
  obtain ⟨h1, h⟩ := List.append_inj h (by simp)
  obtain ⟨h2, h⟩ := List.append_inj h (by simp)
  obtain ⟨h3, h⟩ := List.append_inj h (by simp)
  obtain ⟨h4, h⟩ := List.append_inj h (by simp)
  have e0 := (cInt_inj _ _).1 h0
  have e1 := (cInt_inj _ _).1 h1
  have e2 := (cInt_inj _ _).1 h2
  have e3 := (cInt_inj _ _).1 h3
  have e4 := (cInt_inj _ _).1 h4
  have e5 := (cU64_inj _ _).1 h
  subst e0 e1 e2 e3 e4 e5
  rfl
theorem rd_Limits_all (s : Limits) : rd (cLimits s) 0 6 = cLimits s := rd_last (len_cLimits _)
theorem up_Limits_all (s x : Limits) : upd (cLimits s) 0 (cLimits x) 6 = cLimits x := up_last (len_cLimits _)

structure Config where
  lim : Limits
  spe : Int
  boostP : Int
  ttd : Wide
  genesis : Root
  bal : AV

def cConfig (s : Config) : List AV := cLimits s.lim ++ (cU64 s.spe ++ (cU64 s.boostP ++ (cWide s.ttd ++ (cRoot s.genesis ++ ([s.bal])))))
@[simp] theorem len_cConfig (s : Config) : (cConfig s).length = 45 := by simp [cConfig]
theorem flat_cConfig (s : Config) (h0 : Flat s.bal) : ∀ x ∈ cConfig s, Flat x := by
  intro x hx
  simp only [cConfig, List.mem_append, List.mem_singleton] at hx
  rcases hx with hx | hx | hx | hx | hx | hx
  · (exact flat_cLimits _ _ hx)
  · (exact flat_cU64 _ _ hx)
  · (exact flat_cU64 _ _ hx)
  · (exact flat_cWide _ _ hx)
  · (exact flat_cRoot _ _ hx)
  · (subst hx; assumption)
theorem rd_Config_lim (s : Config) : rd (cConfig s) 0 6 = cLimits s.lim := rd_head (len_cLimits _)
theorem up_Config_lim (s : Config) (x : Limits) : upd (cConfig s) 0 (cLimits x) 6 = cConfig { s with lim := x } := up_head (len_cLimits _)
theorem get_Config_lim_nodeL (s : Config) : (cConfig s)[0]? = some (.v (.int .i64 s.lim.nodeL)) := (get_in (by rw [len_cLimits]; decide)).trans (get_Limits_nodeL _)
theorem up_Config_lim_nodeL (s : Config) (x : Int) : upd (cConfig s) 0 ([.v (.int .i64 x)]) 1 = cConfig { s with lim := { s.lim with nodeL := x } } := (up_in (by rw [len_cLimits]; decide)).trans (appL (up_Limits_nodeL _ x))
theorem get_Config_lim_orphL (s : Config) : (cConfig s)[1]? = some (.v (.int .i64 s.lim.orphL)) := (get_in (by rw [len_cLimits]; decide)).trans (get_Limits_orphL _)
theorem up_Config_lim_orphL (s : Config) (x : Int) : upd (cConfig s) 1 ([.v (.int .i64 x)]) 2 = cConfig { s with lim := { s.lim with orphL := x } } := (up_in (by rw [len_cLimits]; decide)).trans (appL (up_Limits_orphL _ x))
theorem get_Config_lim_earlyL (s : Config) : (cConfig s)[2]? = some (.v (.int .i64 s.lim.earlyL)) := (get_in (by rw [len_cLimits]; decide)).trans (get_Limits_earlyL _)
theorem up_Config_lim_earlyL (s : Config) (x : Int) : upd (cConfig s) 2 ([.v (.int .i64 x)]) 3 = cConfig { s with lim := { s.lim with earlyL := x } } := (up_in (by rw [len_cLimits]; decide)).trans (appL (up_Limits_earlyL _ x))
theorem get_Config_lim_tableL (s : Config) : (cConfig s)[3]? = some (.v (.int .i64 s.lim.tableL)) := (get_in (by rw [len_cLimits]; decide)).trans (get_Limits_tableL _)
theorem up_Config_lim_tableL (s : Config) (x : Int) : upd (cConfig s) 3 ([.v (.int .i64 x)]) 4 = cConfig { s with lim := { s.lim with tableL := x } } := (up_in (by rw [len_cLimits]; decide)).trans (appL (up_Limits_tableL _ x))
theorem get_Config_lim_retryL (s : Config) : (cConfig s)[4]? = some (.v (.int .i64 s.lim.retryL)) := (get_in (by rw [len_cLimits]; decide)).trans (get_Limits_retryL _)
theorem up_Config_lim_retryL (s : Config) (x : Int) : upd (cConfig s) 4 ([.v (.int .i64 x)]) 5 = cConfig { s with lim := { s.lim with retryL := x } } := (up_in (by rw [len_cLimits]; decide)).trans (appL (up_Limits_retryL _ x))
theorem get_Config_lim_backoff (s : Config) : (cConfig s)[5]? = some (.v (.int .u64 s.lim.backoff)) := (get_in (by rw [len_cLimits]; decide)).trans (get_Limits_backoff _)
theorem up_Config_lim_backoff (s : Config) (x : Int) : upd (cConfig s) 5 ([.v (.int .u64 x)]) 6 = cConfig { s with lim := { s.lim with backoff := x } } := (up_in (by rw [len_cLimits]; decide)).trans (appL (up_Limits_backoff _ x))
theorem get_Config_spe (s : Config) : (cConfig s)[6]? = some (.v (.int .u64 s.spe)) := (get_skip rfl (len_cLimits _)).trans (rfl)
theorem up_Config_spe (s : Config) (x : Int) : upd (cConfig s) 6 ([.v (.int .u64 x)]) 7 = cConfig { s with spe := x } := (up_skip rfl rfl (len_cLimits _)).trans (appR (up_head (len_cU64 _)))
theorem get_Config_boostP (s : Config) : (cConfig s)[7]? = some (.v (.int .u64 s.boostP)) := (get_skip rfl (len_cLimits _)).trans ((get_skip rfl (len_cU64 _)).trans (rfl))
theorem up_Config_boostP (s : Config) (x : Int) : upd (cConfig s) 7 ([.v (.int .u64 x)]) 8 = cConfig { s with boostP := x } := (up_skip rfl rfl (len_cLimits _)).trans (appR ((up_skip rfl rfl (len_cU64 _)).trans (appR (up_head (len_cU64 _)))))
theorem rd_Config_ttd (s : Config) : rd (cConfig s) 8 4 = cWide s.ttd := (rd_skip rfl (len_cLimits _)).trans ((rd_skip rfl (len_cU64 _)).trans ((rd_skip rfl (len_cU64 _)).trans (rd_head (len_cWide _))))
theorem up_Config_ttd (s : Config) (x : Wide) : upd (cConfig s) 8 (cWide x) 12 = cConfig { s with ttd := x } := (up_skip rfl rfl (len_cLimits _)).trans (appR ((up_skip rfl rfl (len_cU64 _)).trans (appR ((up_skip rfl rfl (len_cU64 _)).trans (appR (up_head (len_cWide _)))))))
theorem rd_Config_genesis (s : Config) : rd (cConfig s) 12 32 = cRoot s.genesis := (rd_skip rfl (len_cLimits _)).trans ((rd_skip rfl (len_cU64 _)).trans ((rd_skip rfl (len_cU64 _)).trans ((rd_skip rfl (len_cWide _)).trans (rd_head (len_cRoot _)))))
theorem up_Config_genesis (s : Config) (x : Root) : upd (cConfig s) 12 (cRoot x) 44 = cConfig { s with genesis := x } := (up_skip rfl rfl (len_cLimits _)).trans (appR ((up_skip rfl rfl (len_cU64 _)).trans (appR ((up_skip rfl rfl (len_cU64 _)).trans (appR ((up_skip rfl rfl (len_cWide _)).trans (appR (up_head (len_cRoot _)))))))))
theorem get_Config_bal (s : Config) : (cConfig s)[44]? = some (s.bal) := (get_skip rfl (len_cLimits _)).trans ((get_skip rfl (len_cU64 _)).trans ((get_skip rfl (len_cU64 _)).trans ((get_skip rfl (len_cWide _)).trans ((get_skip rfl (len_cRoot _)).trans (rfl)))))
theorem up_Config_bal (s : Config) (x : AV) : upd (cConfig s) 44 ([x]) 45 = cConfig { s with bal := x } := (up_skip rfl rfl (len_cLimits _)).trans (appR ((up_skip rfl rfl (len_cU64 _)).trans (appR ((up_skip rfl rfl (len_cU64 _)).trans (appR ((up_skip rfl rfl (len_cWide _)).trans (appR ((up_skip rfl rfl (len_cRoot _)).trans (appR (up_last rfl))))))))))
def zConfig : Config := ⟨zLimits, 0, 0, zWide, zRoot, (.v (.slice none 0 0))⟩
def vConfig : List Value := vLimits ++ ([.int .u64 0] ++ ([.int .u64 0] ++ (vWide ++ (vRoot ++ ([.slice none 0 0])))))
theorem vConfig_c : vConfig.map AV.v = cConfig zConfig := by simp only [vConfig, List.map_append, List.map_cons, List.map_nil, vRoot_c, vWide_c, vLimits_c]; rfl
theorem exq_Config (st : St) (s : Config) : exq st (cConfig s) = bnd (expo1 st s.bal) fun x_bal => some (cConfig { s with bal := x_bal }) := by
  simp only [cConfig, exq_app, exq_flat (flat_cLimits _), exq_flat (flat_cU64 _), exq_flat (flat_cWide _), exq_flat (flat_cRoot _), exq_one, bnd_assoc, bnd_some]
theorem rd_Config_all (s : Config) : rd (cConfig s) 0 45 = cConfig s := rd_last (len_cConfig _)
theorem up_Config_all (s x : Config) : upd (cConfig s) 0 (cConfig x) 45 = cConfig x := up_last (len_cConfig _)

structure Vote where
  has : Bool
  epoch : Int
  root : Root

def cVote (s : Vote) : List AV := cBool s.has ++ (cU64 s.epoch ++ (cRoot s.root))
@[simp] theorem len_cVote (s : Vote) : (cVote s).length = 34 := by simp [cVote]
theorem flat_cVote (s : Vote) : ∀ x ∈ cVote s, Flat x := by
  intro x hx
  simp only [cVote, List.mem_append, List.mem_singleton] at hx
  rcases hx with hx | hx | hx
  · (exact flat_cBool _ _ hx)
  · (exact flat_cU64 _ _ hx)
  · (exact flat_cRoot _ _ hx)
theorem mem_cVote (s : Vote) : ∀ x ∈ cVote s, MemFree x := by
  intro x hx
  simp only [cVote, List.mem_append] at hx
  rcases hx with hx | hx | hx
  · exact mem_cBool _ _ hx
  · exact mem_cU64 _ _ hx
  · exact mem_cRoot _ _ hx
theorem get_Vote_has (s : Vote) : (cVote s)[0]? = some (.v (.bool s.has)) := rfl
theorem up_Vote_has (s : Vote) (x : Bool) : upd (cVote s) 0 ([.v (.bool x)]) 1 = cVote { s with has := x } := up_head (len_cBool _)
theorem get_Vote_epoch (s : Vote) : (cVote s)[1]? = some (.v (.int .u64 s.epoch)) := (get_skip rfl (len_cBool _)).trans (rfl)
theorem up_Vote_epoch (s : Vote) (x : Int) : upd (cVote s) 1 ([.v (.int .u64 x)]) 2 = cVote { s with epoch := x } := (up_skip rfl rfl (len_cBool _)).trans (appR (up_head (len_cU64 _)))
theorem rd_Vote_root (s : Vote) : rd (cVote s) 2 32 = cRoot s.root := (rd_skip rfl (len_cBool _)).trans ((rd_skip rfl (len_cU64 _)).trans (rd_last (len_cRoot _)))
theorem up_Vote_root (s : Vote) (x : Root) : upd (cVote s) 2 (cRoot x) 34 = cVote { s with root := x } := (up_skip rfl rfl (len_cBool _)).trans (appR ((up_skip rfl rfl (len_cU64 _)).trans (appR (up_last (len_cRoot _)))))
def zVote : Vote := ⟨false, 0, zRoot⟩
def vVote : List Value := [.bool false] ++ ([.int .u64 0] ++ (vRoot))
theorem vVote_c : vVote.map AV.v = cVote zVote := by simp only [vVote, List.map_append, List.map_cons, List.map_nil, vRoot_c, vWide_c]; rfl
def lVote : List Bool := [false] ++ ([true] ++ (lRoot))
theorem leafy_Vote (a b : Vote) : Leafy lVote (cVote a) (cVote b) := (leafy_app (show Leafy [false] [_] [_] from trivial) (leafy_app (show Leafy [true] [_] [_] from ⟨rfl, trivial⟩) (leafy_root _ _)))
theorem cVote_inj (a b : Vote) : cVote a = cVote b ↔ a = b := by
  refine ⟨fun h => ?_, fun h => by rw [h]⟩
  cases a; cases b
  simp only [cVote] at h
  obtain ⟨h0, h⟩ := List.append_inj h (by simp)
  obtain ⟨h1, h⟩ := List.append_inj h (by simp)
  have e0 := (cBool_inj _ _).1 h0
  have e1 := (cU64_inj _ _).1 h1
  have e2 := (cRoot_inj _ _).1 h
  subst e0 e1 e2
  rfl
theorem rd_Vote_all (s : Vote) : rd (cVote s) 0 34 = cVote s := rd_last (len_cVote _)
theorem up_Vote_all (s x : Vote) : upd (cVote s) 0 (cVote x) 34 = cVote x := up_last (len_cVote _)

structure Att where
  slot : Int
  root : Root
  target : Ckpt
  vals : AV

def cAtt (s : Att) : List AV := cU64 s.slot ++ (cRoot s.root ++ (cCkpt s.target ++ ([s.vals])))
@[simp] theorem len_cAtt (s : Att) : (cAtt s).length = 67 := by simp [cAtt]
theorem flat_cAtt (s : Att) (h0 : Flat s.vals) : ∀ x ∈ cAtt s, Flat x := by
  intro x hx
  simp only [cAtt, List.mem_append, List.mem_singleton] at hx
  rcases hx with hx | hx | hx | hx
  · (exact flat_cU64 _ _ hx)
  · (exact flat_cRoot _ _ hx)
  · (exact flat_cCkpt _ _ hx)
  · (subst hx; assumption)
theorem get_Att_slot (s : Att) : (cAtt s)[0]? = some (.v (.int .u64 s.slot)) := rfl
theorem up_Att_slot (s : Att) (x : Int) : upd (cAtt s) 0 ([.v (.int .u64 x)]) 1 = cAtt { s with slot := x } := up_head (len_cU64 _)
theorem rd_Att_root (s : Att) : rd (cAtt s) 1 32 = cRoot s.root := (rd_skip rfl (len_cU64 _)).trans (rd_head (len_cRoot _))
theorem up_Att_root (s : Att) (x : Root) : upd (cAtt s) 1 (cRoot x) 33 = cAtt { s with root := x } := (up_skip rfl rfl (len_cU64 _)).trans (appR (up_head (len_cRoot _)))
theorem rd_Att_target (s : Att) : rd (cAtt s) 33 33 = cCkpt s.target := (rd_skip rfl (len_cU64 _)).trans ((rd_skip rfl (len_cRoot _)).trans (rd_head (len_cCkpt _)))
theorem up_Att_target (s : Att) (x : Ckpt) : upd (cAtt s) 33 (cCkpt x) 66 = cAtt { s with target := x } := (up_skip rfl rfl (len_cU64 _)).trans (appR ((up_skip rfl rfl (len_cRoot _)).trans (appR (up_head (len_cCkpt _)))))
theorem get_Att_target_epoch (s : Att) : (cAtt s)[33]? = some (.v (.int .u64 s.target.epoch)) := (get_skip rfl (len_cU64 _)).trans ((get_skip rfl (len_cRoot _)).trans ((get_in (by rw [len_cCkpt]; decide)).trans (get_Ckpt_epoch _)))
theorem up_Att_target_epoch (s : Att) (x : Int) : upd (cAtt s) 33 ([.v (.int .u64 x)]) 34 = cAtt { s with target := { s.target with epoch := x } } := (up_skip rfl rfl (len_cU64 _)).trans (appR ((up_skip rfl rfl (len_cRoot _)).trans (appR ((up_in (by rw [len_cCkpt]; decide)).trans (appL (up_Ckpt_epoch _ x))))))
theorem rd_Att_target_root (s : Att) : rd (cAtt s) 34 32 = cRoot s.target.root := (rd_skip rfl (len_cU64 _)).trans ((rd_skip rfl (len_cRoot _)).trans ((rd_in (by rw [len_cCkpt]; decide)).trans (rd_Ckpt_root _)))
theorem up_Att_target_root (s : Att) (x : Root) : upd (cAtt s) 34 (cRoot x) 66 = cAtt { s with target := { s.target with root := x } } := (up_skip rfl rfl (len_cU64 _)).trans (appR ((up_skip rfl rfl (len_cRoot _)).trans (appR ((up_in (by rw [len_cCkpt]; decide)).trans (appL (up_Ckpt_root _ x))))))
theorem get_Att_vals (s : Att) : (cAtt s)[66]? = some (s.vals) := (get_skip rfl (len_cU64 _)).trans ((get_skip rfl (len_cRoot _)).trans ((get_skip rfl (len_cCkpt _)).trans (rfl)))
theorem up_Att_vals (s : Att) (x : AV) : upd (cAtt s) 66 ([x]) 67 = cAtt { s with vals := x } := (up_skip rfl rfl (len_cU64 _)).trans (appR ((up_skip rfl rfl (len_cRoot _)).trans (appR ((up_skip rfl rfl (len_cCkpt _)).trans (appR (up_last rfl))))))
def zAtt : Att := ⟨0, zRoot, zCkpt, (.v (.slice none 0 0))⟩
def vAtt : List Value := [.int .u64 0] ++ (vRoot ++ (vCkpt ++ ([.slice none 0 0])))
theorem vAtt_c : vAtt.map AV.v = cAtt zAtt := by simp only [vAtt, List.map_append, List.map_cons, List.map_nil, vRoot_c, vWide_c, vCkpt_c]; rfl
theorem exq_Att (st : St) (s : Att) : exq st (cAtt s) = bnd (expo1 st s.vals) fun x_vals => some (cAtt { s with vals := x_vals }) := by
  simp only [cAtt, exq_app, exq_flat (flat_cU64 _), exq_flat (flat_cRoot _), exq_flat (flat_cCkpt _), exq_one, bnd_assoc, bnd_some]
theorem rd_Att_all (s : Att) : rd (cAtt s) 0 67 = cAtt s := rd_last (len_cAtt _)
theorem up_Att_all (s x : Att) : upd (cAtt s) 0 (cAtt x) 67 = cAtt x := up_last (len_cAtt _)

structure Claim where
  source : Int
  target : Int
  root : Root
  vals : AV

def cClaim (s : Claim) : List AV := cU64 s.source ++ (cU64 s.target ++ (cRoot s.root ++ ([s.vals])))
@[simp] theorem len_cClaim (s : Claim) : (cClaim s).length = 35 := by simp [cClaim]
theorem flat_cClaim (s : Claim) (h0 : Flat s.vals) : ∀ x ∈ cClaim s, Flat x := by
  intro x hx
  simp only [cClaim, List.mem_append, List.mem_singleton] at hx
  rcases hx with hx | hx | hx | hx
  · (exact flat_cU64 _ _ hx)
  · (exact flat_cU64 _ _ hx)
  · (exact flat_cRoot _ _ hx)
  · (subst hx; assumption)
theorem get_Claim_source (s : Claim) : (cClaim s)[0]? = some (.v (.int .u64 s.source)) := rfl
theorem up_Claim_source (s : Claim) (x : Int) : upd (cClaim s) 0 ([.v (.int .u64 x)]) 1 = cClaim { s with source := x } := up_head (len_cU64 _)
theorem get_Claim_target (s : Claim) : (cClaim s)[1]? = some (.v (.int .u64 s.target)) := (get_skip rfl (len_cU64 _)).trans (rfl)
theorem up_Claim_target (s : Claim) (x : Int) : upd (cClaim s) 1 ([.v (.int .u64 x)]) 2 = cClaim { s with target := x } := (up_skip rfl rfl (len_cU64 _)).trans (appR (up_head (len_cU64 _)))
theorem rd_Claim_root (s : Claim) : rd (cClaim s) 2 32 = cRoot s.root := (rd_skip rfl (len_cU64 _)).trans ((rd_skip rfl (len_cU64 _)).trans (rd_head (len_cRoot _)))
theorem up_Claim_root (s : Claim) (x : Root) : upd (cClaim s) 2 (cRoot x) 34 = cClaim { s with root := x } := (up_skip rfl rfl (len_cU64 _)).trans (appR ((up_skip rfl rfl (len_cU64 _)).trans (appR (up_head (len_cRoot _)))))
theorem get_Claim_vals (s : Claim) : (cClaim s)[34]? = some (s.vals) := (get_skip rfl (len_cU64 _)).trans ((get_skip rfl (len_cU64 _)).trans ((get_skip rfl (len_cRoot _)).trans (rfl)))
theorem up_Claim_vals (s : Claim) (x : AV) : upd (cClaim s) 34 ([x]) 35 = cClaim { s with vals := x } := (up_skip rfl rfl (len_cU64 _)).trans (appR ((up_skip rfl rfl (len_cU64 _)).trans (appR ((up_skip rfl rfl (len_cRoot _)).trans (appR (up_last rfl))))))
def zClaim : Claim := ⟨0, 0, zRoot, (.v (.slice none 0 0))⟩
def vClaim : List Value := [.int .u64 0] ++ ([.int .u64 0] ++ (vRoot ++ ([.slice none 0 0])))
theorem vClaim_c : vClaim.map AV.v = cClaim zClaim := by simp only [vClaim, List.map_append, List.map_cons, List.map_nil, vRoot_c, vWide_c]; rfl
theorem exq_Claim (st : St) (s : Claim) : exq st (cClaim s) = bnd (expo1 st s.vals) fun x_vals => some (cClaim { s with vals := x_vals }) := by
  simp only [cClaim, exq_app, exq_flat (flat_cU64 _), exq_flat (flat_cRoot _), exq_one, bnd_assoc, bnd_some]
theorem rd_Claim_all (s : Claim) : rd (cClaim s) 0 35 = cClaim s := rd_last (len_cClaim _)
theorem up_Claim_all (s x : Claim) : upd (cClaim s) 0 (cClaim x) 35 = cClaim x := up_last (len_cClaim _)

structure Slashing where
  first : Claim
  second : Claim

def cSlashing (s : Slashing) : List AV := cClaim s.first ++ (cClaim s.second)
@[simp] theorem len_cSlashing (s : Slashing) : (cSlashing s).length = 70 := by simp [cSlashing]
theorem flat_cSlashing (s : Slashing) (h0 : Flat s.first.vals) (h1 : Flat s.second.vals) : ∀ x ∈ cSlashing s, Flat x := by
  intro x hx
  simp only [cSlashing, List.mem_append, List.mem_singleton] at hx
  rcases hx with hx | hx
  · (exact flat_cClaim _ (by assumption) _ hx)
  · (exact flat_cClaim _ (by assumption) _ hx)
theorem rd_Slashing_first (s : Slashing) : rd (cSlashing s) 0 35 = cClaim s.first := rd_head (len_cClaim _)
theorem up_Slashing_first (s : Slashing) (x : Claim) : upd (cSlashing s) 0 (cClaim x) 35 = cSlashing { s with first := x } := up_head (len_cClaim _)
theorem get_Slashing_first_source (s : Slashing) : (cSlashing s)[0]? = some (.v (.int .u64 s.first.source)) := (get_in (by rw [len_cClaim]; decide)).trans (get_Claim_source _)
theorem up_Slashing_first_source (s : Slashing) (x : Int) : upd (cSlashing s) 0 ([.v (.int .u64 x)]) 1 = cSlashing { s with first := { s.first with source := x } } := (up_in (by rw [len_cClaim]; decide)).trans (appL (up_Claim_source _ x))
theorem get_Slashing_first_target (s : Slashing) : (cSlashing s)[1]? = some (.v (.int .u64 s.first.target)) := (get_in (by rw [len_cClaim]; decide)).trans (get_Claim_target _)
theorem up_Slashing_first_target (s : Slashing) (x : Int) : upd (cSlashing s) 1 ([.v (.int .u64 x)]) 2 = cSlashing { s with first := { s.first with target := x } } := (up_in (by rw [len_cClaim]; decide)).trans (appL (up_Claim_target _ x))
theorem rd_Slashing_first_root (s : Slashing) : rd (cSlashing s) 2 32 = cRoot s.first.root := (rd_in (by rw [len_cClaim]; decide)).trans (rd_Claim_root _)
theorem up_Slashing_first_root (s : Slashing) (x : Root) : upd (cSlashing s) 2 (cRoot x) 34 = cSlashing { s with first := { s.first with root := x } } := (up_in (by rw [len_cClaim]; decide)).trans (appL (up_Claim_root _ x))
theorem get_Slashing_first_vals (s : Slashing) : (cSlashing s)[34]? = some (s.first.vals) := (get_in (by rw [len_cClaim]; decide)).trans (get_Claim_vals _)
theorem up_Slashing_first_vals (s : Slashing) (x : AV) : upd (cSlashing s) 34 ([x]) 35 = cSlashing { s with first := { s.first with vals := x } } := (up_in (by rw [len_cClaim]; decide)).trans (appL (up_Claim_vals _ x))
theorem rd_Slashing_second (s : Slashing) : rd (cSlashing s) 35 35 = cClaim s.second := (rd_skip rfl (len_cClaim _)).trans (rd_last (len_cClaim _))
theorem up_Slashing_second (s : Slashing) (x : Claim) : upd (cSlashing s) 35 (cClaim x) 70 = cSlashing { s with second := x } := (up_skip rfl rfl (len_cClaim _)).trans (appR (up_last (len_cClaim _)))
theorem get_Slashing_second_source (s : Slashing) : (cSlashing s)[35]? = some (.v (.int .u64 s.second.source)) := (get_skip rfl (len_cClaim _)).trans (get_Claim_source _)
theorem up_Slashing_second_source (s : Slashing) (x : Int) : upd (cSlashing s) 35 ([.v (.int .u64 x)]) 36 = cSlashing { s with second := { s.second with source := x } } := (up_skip rfl rfl (len_cClaim _)).trans (appR (up_Claim_source _ x))
theorem get_Slashing_second_target (s : Slashing) : (cSlashing s)[36]? = some (.v (.int .u64 s.second.target)) := (get_skip rfl (len_cClaim _)).trans (get_Claim_target _)
theorem up_Slashing_second_target (s : Slashing) (x : Int) : upd (cSlashing s) 36 ([.v (.int .u64 x)]) 37 = cSlashing { s with second := { s.second with target := x } } := (up_skip rfl rfl (len_cClaim _)).trans (appR (up_Claim_target _ x))
theorem rd_Slashing_second_root (s : Slashing) : rd (cSlashing s) 37 32 = cRoot s.second.root := (rd_skip rfl (len_cClaim _)).trans (rd_Claim_root _)
theorem up_Slashing_second_root (s : Slashing) (x : Root) : upd (cSlashing s) 37 (cRoot x) 69 = cSlashing { s with second := { s.second with root := x } } := (up_skip rfl rfl (len_cClaim _)).trans (appR (up_Claim_root _ x))
theorem get_Slashing_second_vals (s : Slashing) : (cSlashing s)[69]? = some (s.second.vals) := (get_skip rfl (len_cClaim _)).trans (get_Claim_vals _)
theorem up_Slashing_second_vals (s : Slashing) (x : AV) : upd (cSlashing s) 69 ([x]) 70 = cSlashing { s with second := { s.second with vals := x } } := (up_skip rfl rfl (len_cClaim _)).trans (appR (up_Claim_vals _ x))
def zSlashing : Slashing := ⟨zClaim, zClaim⟩
def vSlashing : List Value := vClaim ++ (vClaim)
theorem vSlashing_c : vSlashing.map AV.v = cSlashing zSlashing := by simp only [vSlashing, List.map_append, List.map_cons, List.map_nil, vRoot_c, vWide_c, vClaim_c]; rfl
theorem exq_Slashing (st : St) (s : Slashing) : exq st (cSlashing s) = bnd (expo1 st s.first.vals) fun x_first_vals => bnd (expo1 st s.second.vals) fun x_second_vals => some (cSlashing { s with first := { s.first with vals := x_first_vals }, second := { s.second with vals := x_second_vals } }) := by
  simp only [cSlashing, exq_app, exq_Claim, bnd_assoc, bnd_some]
theorem rd_Slashing_all (s : Slashing) : rd (cSlashing s) 0 70 = cSlashing s := rd_last (len_cSlashing _)
theorem up_Slashing_all (s x : Slashing) : upd (cSlashing s) 0 (cSlashing x) 70 = cSlashing x := up_last (len_cSlashing _)

structure Table where
  ck : Ckpt
  bal : AV

def cTable (s : Table) : List AV := cCkpt s.ck ++ ([s.bal])
@[simp] theorem len_cTable (s : Table) : (cTable s).length = 34 := by simp [cTable]
theorem flat_cTable (s : Table) (h0 : Flat s.bal) : ∀ x ∈ cTable s, Flat x := by
  intro x hx
  simp only [cTable, List.mem_append, List.mem_singleton] at hx
  rcases hx with hx | hx
  · (exact flat_cCkpt _ _ hx)
  · (subst hx; assumption)
theorem rd_Table_ck (s : Table) : rd (cTable s) 0 33 = cCkpt s.ck := rd_head (len_cCkpt _)
theorem up_Table_ck (s : Table) (x : Ckpt) : upd (cTable s) 0 (cCkpt x) 33 = cTable { s with ck := x } := up_head (len_cCkpt _)
theorem get_Table_ck_epoch (s : Table) : (cTable s)[0]? = some (.v (.int .u64 s.ck.epoch)) := (get_in (by rw [len_cCkpt]; decide)).trans (get_Ckpt_epoch _)
theorem up_Table_ck_epoch (s : Table) (x : Int) : upd (cTable s) 0 ([.v (.int .u64 x)]) 1 = cTable { s with ck := { s.ck with epoch := x } } := (up_in (by rw [len_cCkpt]; decide)).trans (appL (up_Ckpt_epoch _ x))
theorem rd_Table_ck_root (s : Table) : rd (cTable s) 1 32 = cRoot s.ck.root := (rd_in (by rw [len_cCkpt]; decide)).trans (rd_Ckpt_root _)
theorem up_Table_ck_root (s : Table) (x : Root) : upd (cTable s) 1 (cRoot x) 33 = cTable { s with ck := { s.ck with root := x } } := (up_in (by rw [len_cCkpt]; decide)).trans (appL (up_Ckpt_root _ x))
theorem get_Table_bal (s : Table) : (cTable s)[33]? = some (s.bal) := (get_skip rfl (len_cCkpt _)).trans (rfl)
theorem up_Table_bal (s : Table) (x : AV) : upd (cTable s) 33 ([x]) 34 = cTable { s with bal := x } := (up_skip rfl rfl (len_cCkpt _)).trans (appR (up_last rfl))
def zTable : Table := ⟨zCkpt, (.v (.slice none 0 0))⟩
def vTable : List Value := vCkpt ++ ([.slice none 0 0])
theorem vTable_c : vTable.map AV.v = cTable zTable := by simp only [vTable, List.map_append, List.map_cons, List.map_nil, vRoot_c, vWide_c, vCkpt_c]; rfl
theorem exq_Table (st : St) (s : Table) : exq st (cTable s) = bnd (expo1 st s.bal) fun x_bal => some (cTable { s with bal := x_bal }) := by
  simp only [cTable, exq_app, exq_flat (flat_cCkpt _), exq_one, bnd_assoc, bnd_some]
theorem rd_Table_all (s : Table) : rd (cTable s) 0 34 = cTable s := rd_last (len_cTable _)
theorem up_Table_all (s x : Table) : upd (cTable s) 0 (cTable x) 34 = cTable x := up_last (len_cTable _)

structure Request where
  tagged : Tagged
  block : Root
  tries : Int
  due : Int

def cRequest (s : Request) : List AV := cTagged s.tagged ++ (cRoot s.block ++ (cInt s.tries ++ (cU64 s.due)))
@[simp] theorem len_cRequest (s : Request) : (cRequest s).length = 35 := by simp [cRequest]
theorem flat_cRequest (s : Request) : ∀ x ∈ cRequest s, Flat x := by
  intro x hx
  simp only [cRequest, List.mem_append, List.mem_singleton] at hx
  rcases hx with hx | hx | hx | hx
  · (exact flat_cTagged _ _ hx)
  · (exact flat_cRoot _ _ hx)
  · (exact flat_cInt _ _ hx)
  · (exact flat_cU64 _ _ hx)
theorem mem_cRequest (s : Request) : ∀ x ∈ cRequest s, MemFree x := by
  intro x hx
  simp only [cRequest, List.mem_append] at hx
  rcases hx with hx | hx | hx | hx
  · exact mem_cTagged _ _ hx
  · exact mem_cRoot _ _ hx
  · exact mem_cInt _ _ hx
  · exact mem_cU64 _ _ hx
theorem rd_Request_tagged (s : Request) : rd (cRequest s) 0 1 = cTagged s.tagged := rd_head (len_cTagged _)
theorem up_Request_tagged (s : Request) (x : Tagged) : upd (cRequest s) 0 (cTagged x) 1 = cRequest { s with tagged := x } := up_head (len_cTagged _)
theorem get_Request_tagged_tag (s : Request) : (cRequest s)[0]? = some (.v (.int .u64 s.tagged.tag)) := (get_in (by rw [len_cTagged]; decide)).trans (get_Tagged_tag _)
theorem up_Request_tagged_tag (s : Request) (x : Int) : upd (cRequest s) 0 ([.v (.int .u64 x)]) 1 = cRequest { s with tagged := { s.tagged with tag := x } } := (up_in (by rw [len_cTagged]; decide)).trans (appL (up_Tagged_tag _ x))
theorem rd_Request_block (s : Request) : rd (cRequest s) 1 32 = cRoot s.block := (rd_skip rfl (len_cTagged _)).trans (rd_head (len_cRoot _))
theorem up_Request_block (s : Request) (x : Root) : upd (cRequest s) 1 (cRoot x) 33 = cRequest { s with block := x } := (up_skip rfl rfl (len_cTagged _)).trans (appR (up_head (len_cRoot _)))
theorem get_Request_tries (s : Request) : (cRequest s)[33]? = some (.v (.int .i64 s.tries)) := (get_skip rfl (len_cTagged _)).trans ((get_skip rfl (len_cRoot _)).trans (rfl))
theorem up_Request_tries (s : Request) (x : Int) : upd (cRequest s) 33 ([.v (.int .i64 x)]) 34 = cRequest { s with tries := x } := (up_skip rfl rfl (len_cTagged _)).trans (appR ((up_skip rfl rfl (len_cRoot _)).trans (appR (up_head (len_cInt _)))))
theorem get_Request_due (s : Request) : (cRequest s)[34]? = some (.v (.int .u64 s.due)) := (get_skip rfl (len_cTagged _)).trans ((get_skip rfl (len_cRoot _)).trans ((get_skip rfl (len_cInt _)).trans (rfl)))
theorem up_Request_due (s : Request) (x : Int) : upd (cRequest s) 34 ([.v (.int .u64 x)]) 35 = cRequest { s with due := x } := (up_skip rfl rfl (len_cTagged _)).trans (appR ((up_skip rfl rfl (len_cRoot _)).trans (appR ((up_skip rfl rfl (len_cInt _)).trans (appR (up_last (len_cU64 _)))))))
def zRequest : Request := ⟨zTagged, zRoot, 0, 0⟩
def vRequest : List Value := vTagged ++ (vRoot ++ ([.int .i64 0] ++ ([.int .u64 0])))
theorem vRequest_c : vRequest.map AV.v = cRequest zRequest := by simp only [vRequest, List.map_append, List.map_cons, List.map_nil, vRoot_c, vWide_c, vTagged_c]; rfl
def lRequest : List Bool := lTagged ++ (lRoot ++ ([true] ++ ([true])))
theorem leafy_Request (a b : Request) : Leafy lRequest (cRequest a) (cRequest b) := (leafy_app (leafy_Tagged _ _) (leafy_app (leafy_root _ _) (leafy_app (show Leafy [true] [_] [_] from ⟨rfl, trivial⟩) (show Leafy [true] [_] [_] from ⟨rfl, trivial⟩))))
theorem cRequest_inj (a b : Request) : cRequest a = cRequest b ↔ a = b := by
  refine ⟨fun h => ?_, fun h => by rw [h]⟩
  cases a; cases b
  simp only [cRequest] at h
  obtain ⟨h0, h⟩ := List.append_inj h (by simp)
  obtain ⟨h1, h⟩ := List.append_inj h (by simp)
  obtain ⟨h2, h⟩ := List.append_inj h (by simp)
  have e0 := (cTagged_inj _ _).1 h0
  have e1 := (cRoot_inj _ _).1 h1
  have e2 := (cInt_inj _ _).1 h2
  have e3 := (cU64_inj _ _).1 h
  subst e0 e1 e2 e3
  rfl
theorem rd_Request_all (s : Request) : rd (cRequest s) 0 35 = cRequest s := rd_last (len_cRequest _)
theorem up_Request_all (s x : Request) : upd (cRequest s) 0 (cRequest x) 35 = cRequest x := up_last (len_cRequest _)

structure Command where
  head : Root
  safe : Root
  fin : Root

def cCommand (s : Command) : List AV := cRoot s.head ++ (cRoot s.safe ++ (cRoot s.fin))
@[simp] theorem len_cCommand (s : Command) : (cCommand s).length = 96 := by simp [cCommand]
theorem flat_cCommand (s : Command) : ∀ x ∈ cCommand s, Flat x := by
  intro x hx
  simp only [cCommand, List.mem_append, List.mem_singleton] at hx
  rcases hx with hx | hx | hx
  · (exact flat_cRoot _ _ hx)
  · (exact flat_cRoot _ _ hx)
  · (exact flat_cRoot _ _ hx)
theorem mem_cCommand (s : Command) : ∀ x ∈ cCommand s, MemFree x := by
  intro x hx
  simp only [cCommand, List.mem_append] at hx
  rcases hx with hx | hx | hx
  · exact mem_cRoot _ _ hx
  · exact mem_cRoot _ _ hx
  · exact mem_cRoot _ _ hx
theorem rd_Command_head (s : Command) : rd (cCommand s) 0 32 = cRoot s.head := rd_head (len_cRoot _)
theorem up_Command_head (s : Command) (x : Root) : upd (cCommand s) 0 (cRoot x) 32 = cCommand { s with head := x } := up_head (len_cRoot _)
theorem rd_Command_safe (s : Command) : rd (cCommand s) 32 32 = cRoot s.safe := (rd_skip rfl (len_cRoot _)).trans (rd_head (len_cRoot _))
theorem up_Command_safe (s : Command) (x : Root) : upd (cCommand s) 32 (cRoot x) 64 = cCommand { s with safe := x } := (up_skip rfl rfl (len_cRoot _)).trans (appR (up_head (len_cRoot _)))
theorem rd_Command_fin (s : Command) : rd (cCommand s) 64 32 = cRoot s.fin := (rd_skip rfl (len_cRoot _)).trans ((rd_skip rfl (len_cRoot _)).trans (rd_last (len_cRoot _)))
theorem up_Command_fin (s : Command) (x : Root) : upd (cCommand s) 64 (cRoot x) 96 = cCommand { s with fin := x } := (up_skip rfl rfl (len_cRoot _)).trans (appR ((up_skip rfl rfl (len_cRoot _)).trans (appR (up_last (len_cRoot _)))))
def zCommand : Command := ⟨zRoot, zRoot, zRoot⟩
def vCommand : List Value := vRoot ++ (vRoot ++ (vRoot))
theorem vCommand_c : vCommand.map AV.v = cCommand zCommand := by simp only [vCommand, List.map_append, List.map_cons, List.map_nil, vRoot_c, vWide_c]; rfl
def lCommand : List Bool := lRoot ++ (lRoot ++ (lRoot))
theorem leafy_Command (a b : Command) : Leafy lCommand (cCommand a) (cCommand b) := (leafy_app (leafy_root _ _) (leafy_app (leafy_root _ _) (leafy_root _ _)))
theorem cCommand_inj (a b : Command) : cCommand a = cCommand b ↔ a = b := by
  refine ⟨fun h => ?_, fun h => by rw [h]⟩
  cases a; cases b
  simp only [cCommand] at h
  obtain ⟨h0, h⟩ := List.append_inj h (by simp)
  obtain ⟨h1, h⟩ := List.append_inj h (by simp)
  have e0 := (cRoot_inj _ _).1 h0
  have e1 := (cRoot_inj _ _).1 h1
  have e2 := (cRoot_inj _ _).1 h
  subst e0 e1 e2
  rfl
theorem rd_Command_all (s : Command) : rd (cCommand s) 0 96 = cCommand s := rd_last (len_cCommand _)
theorem up_Command_all (s x : Command) : upd (cCommand s) 0 (cCommand x) 96 = cCommand x := up_last (len_cCommand _)

structure Votes where
  latest : AV
  equiv : AV

def cVotes (s : Votes) : List AV := [s.latest] ++ ([s.equiv])
@[simp] theorem len_cVotes (s : Votes) : (cVotes s).length = 2 := by simp [cVotes]
theorem flat_cVotes (s : Votes) (h0 : Flat s.latest) (h1 : Flat s.equiv) : ∀ x ∈ cVotes s, Flat x := by
  intro x hx
  simp only [cVotes, List.mem_append, List.mem_singleton] at hx
  rcases hx with hx | hx
  · (subst hx; assumption)
  · (subst hx; assumption)
theorem get_Votes_latest (s : Votes) : (cVotes s)[0]? = some (s.latest) := rfl
theorem up_Votes_latest (s : Votes) (x : AV) : upd (cVotes s) 0 ([x]) 1 = cVotes { s with latest := x } := up_head rfl
theorem get_Votes_equiv (s : Votes) : (cVotes s)[1]? = some (s.equiv) := (get_skip rfl rfl).trans (rfl)
theorem up_Votes_equiv (s : Votes) (x : AV) : upd (cVotes s) 1 ([x]) 2 = cVotes { s with equiv := x } := (up_skip rfl rfl rfl).trans (appR (up_last rfl))
def zVotes : Votes := ⟨(.v (.slice none 0 0)), (.v (.slice none 0 0))⟩
def vVotes : List Value := [.slice none 0 0] ++ ([.slice none 0 0])
theorem vVotes_c : vVotes.map AV.v = cVotes zVotes := by simp only [vVotes, List.map_append, List.map_cons, List.map_nil, vRoot_c, vWide_c]; rfl
theorem exq_Votes (st : St) (s : Votes) : exq st (cVotes s) = bnd (expo1 st s.latest) fun x_latest => bnd (expo1 st s.equiv) fun x_equiv => some (cVotes { s with latest := x_latest, equiv := x_equiv }) := by
  simp only [cVotes, exq_app, exq_one, bnd_assoc, bnd_some]
theorem rd_Votes_all (s : Votes) : rd (cVotes s) 0 2 = cVotes s := rd_last (len_cVotes _)
theorem up_Votes_all (s x : Votes) : upd (cVotes s) 0 (cVotes x) 2 = cVotes x := up_last (len_cVotes _)

structure Finality where
  just : Ckpt
  fin : Ckpt

def cFinality (s : Finality) : List AV := cCkpt s.just ++ (cCkpt s.fin)
@[simp] theorem len_cFinality (s : Finality) : (cFinality s).length = 66 := by simp [cFinality]
theorem flat_cFinality (s : Finality) : ∀ x ∈ cFinality s, Flat x := by
  intro x hx
  simp only [cFinality, List.mem_append, List.mem_singleton] at hx
  rcases hx with hx | hx
  · (exact flat_cCkpt _ _ hx)
  · (exact flat_cCkpt _ _ hx)
theorem mem_cFinality (s : Finality) : ∀ x ∈ cFinality s, MemFree x := by
  intro x hx
  simp only [cFinality, List.mem_append] at hx
  rcases hx with hx | hx
  · exact mem_cCkpt _ _ hx
  · exact mem_cCkpt _ _ hx
theorem rd_Finality_just (s : Finality) : rd (cFinality s) 0 33 = cCkpt s.just := rd_head (len_cCkpt _)
theorem up_Finality_just (s : Finality) (x : Ckpt) : upd (cFinality s) 0 (cCkpt x) 33 = cFinality { s with just := x } := up_head (len_cCkpt _)
theorem get_Finality_just_epoch (s : Finality) : (cFinality s)[0]? = some (.v (.int .u64 s.just.epoch)) := (get_in (by rw [len_cCkpt]; decide)).trans (get_Ckpt_epoch _)
theorem up_Finality_just_epoch (s : Finality) (x : Int) : upd (cFinality s) 0 ([.v (.int .u64 x)]) 1 = cFinality { s with just := { s.just with epoch := x } } := (up_in (by rw [len_cCkpt]; decide)).trans (appL (up_Ckpt_epoch _ x))
theorem rd_Finality_just_root (s : Finality) : rd (cFinality s) 1 32 = cRoot s.just.root := (rd_in (by rw [len_cCkpt]; decide)).trans (rd_Ckpt_root _)
theorem up_Finality_just_root (s : Finality) (x : Root) : upd (cFinality s) 1 (cRoot x) 33 = cFinality { s with just := { s.just with root := x } } := (up_in (by rw [len_cCkpt]; decide)).trans (appL (up_Ckpt_root _ x))
theorem rd_Finality_fin (s : Finality) : rd (cFinality s) 33 33 = cCkpt s.fin := (rd_skip rfl (len_cCkpt _)).trans (rd_last (len_cCkpt _))
theorem up_Finality_fin (s : Finality) (x : Ckpt) : upd (cFinality s) 33 (cCkpt x) 66 = cFinality { s with fin := x } := (up_skip rfl rfl (len_cCkpt _)).trans (appR (up_last (len_cCkpt _)))
theorem get_Finality_fin_epoch (s : Finality) : (cFinality s)[33]? = some (.v (.int .u64 s.fin.epoch)) := (get_skip rfl (len_cCkpt _)).trans (get_Ckpt_epoch _)
theorem up_Finality_fin_epoch (s : Finality) (x : Int) : upd (cFinality s) 33 ([.v (.int .u64 x)]) 34 = cFinality { s with fin := { s.fin with epoch := x } } := (up_skip rfl rfl (len_cCkpt _)).trans (appR (up_Ckpt_epoch _ x))
theorem rd_Finality_fin_root (s : Finality) : rd (cFinality s) 34 32 = cRoot s.fin.root := (rd_skip rfl (len_cCkpt _)).trans (rd_Ckpt_root _)
theorem up_Finality_fin_root (s : Finality) (x : Root) : upd (cFinality s) 34 (cRoot x) 66 = cFinality { s with fin := { s.fin with root := x } } := (up_skip rfl rfl (len_cCkpt _)).trans (appR (up_Ckpt_root _ x))
def zFinality : Finality := ⟨zCkpt, zCkpt⟩
def vFinality : List Value := vCkpt ++ (vCkpt)
theorem vFinality_c : vFinality.map AV.v = cFinality zFinality := by simp only [vFinality, List.map_append, List.map_cons, List.map_nil, vRoot_c, vWide_c, vCkpt_c]; rfl
def lFinality : List Bool := lCkpt ++ (lCkpt)
theorem leafy_Finality (a b : Finality) : Leafy lFinality (cFinality a) (cFinality b) := (leafy_app (leafy_Ckpt _ _) (leafy_Ckpt _ _))
theorem cFinality_inj (a b : Finality) : cFinality a = cFinality b ↔ a = b := by
  refine ⟨fun h => ?_, fun h => by rw [h]⟩
  cases a; cases b
  simp only [cFinality] at h
  obtain ⟨h0, h⟩ := List.append_inj h (by simp)
  have e0 := (cCkpt_inj _ _).1 h0
  have e1 := (cCkpt_inj _ _).1 h
  subst e0 e1
  rfl
theorem rd_Finality_all (s : Finality) : rd (cFinality s) 0 66 = cFinality s := rd_last (len_cFinality _)
theorem up_Finality_all (s x : Finality) : upd (cFinality s) 0 (cFinality x) 66 = cFinality x := up_last (len_cFinality _)

structure Queues where
  early : AV
  orphans : AV

def cQueues (s : Queues) : List AV := [s.early] ++ ([s.orphans])
@[simp] theorem len_cQueues (s : Queues) : (cQueues s).length = 2 := by simp [cQueues]
theorem flat_cQueues (s : Queues) (h0 : Flat s.early) (h1 : Flat s.orphans) : ∀ x ∈ cQueues s, Flat x := by
  intro x hx
  simp only [cQueues, List.mem_append, List.mem_singleton] at hx
  rcases hx with hx | hx
  · (subst hx; assumption)
  · (subst hx; assumption)
theorem get_Queues_early (s : Queues) : (cQueues s)[0]? = some (s.early) := rfl
theorem up_Queues_early (s : Queues) (x : AV) : upd (cQueues s) 0 ([x]) 1 = cQueues { s with early := x } := up_head rfl
theorem get_Queues_orphans (s : Queues) : (cQueues s)[1]? = some (s.orphans) := (get_skip rfl rfl).trans (rfl)
theorem up_Queues_orphans (s : Queues) (x : AV) : upd (cQueues s) 1 ([x]) 2 = cQueues { s with orphans := x } := (up_skip rfl rfl rfl).trans (appR (up_last rfl))
def zQueues : Queues := ⟨(.v (.slice none 0 0)), (.v (.slice none 0 0))⟩
def vQueues : List Value := [.slice none 0 0] ++ ([.slice none 0 0])
theorem vQueues_c : vQueues.map AV.v = cQueues zQueues := by simp only [vQueues, List.map_append, List.map_cons, List.map_nil, vRoot_c, vWide_c]; rfl
theorem exq_Queues (st : St) (s : Queues) : exq st (cQueues s) = bnd (expo1 st s.early) fun x_early => bnd (expo1 st s.orphans) fun x_orphans => some (cQueues { s with early := x_early, orphans := x_orphans }) := by
  simp only [cQueues, exq_app, exq_one, bnd_assoc, bnd_some]
theorem rd_Queues_all (s : Queues) : rd (cQueues s) 0 2 = cQueues s := rd_last (len_cQueues _)
theorem up_Queues_all (s x : Queues) : upd (cQueues s) 0 (cQueues x) 2 = cQueues x := up_last (len_cQueues _)

structure TreeA where
  nodes : AV

def cTreeA (s : TreeA) : List AV := [s.nodes]
@[simp] theorem len_cTreeA (s : TreeA) : (cTreeA s).length = 1 := by simp [cTreeA]
theorem flat_cTreeA (s : TreeA) (h0 : Flat s.nodes) : ∀ x ∈ cTreeA s, Flat x := by
  intro x hx
  simp only [cTreeA, List.mem_append, List.mem_singleton] at hx
  (subst hx; assumption)
theorem cTreeA_c (x : AV) : cTreeA ⟨x⟩ = [x] := rfl
theorem get_TreeA_nodes (s : TreeA) : (cTreeA s)[0]? = some (s.nodes) := rfl
theorem up_TreeA_nodes (s : TreeA) (x : AV) : upd (cTreeA s) 0 ([x]) 1 = cTreeA { s with nodes := x } := up_last rfl
def zTreeA : TreeA := ⟨(.v (.slice none 0 0))⟩
def vTreeA : List Value := [.slice none 0 0]
theorem vTreeA_c : vTreeA.map AV.v = cTreeA zTreeA := by simp only [vTreeA, List.map_append, List.map_cons, List.map_nil, vRoot_c, vWide_c]; rfl
theorem exq_TreeA (st : St) (s : TreeA) : exq st (cTreeA s) = bnd (expo1 st s.nodes) fun x_nodes => some (cTreeA { s with nodes := x_nodes }) := by
  simp only [cTreeA, exq_app, exq_one, bnd_assoc, bnd_some]
theorem rd_TreeA_all (s : TreeA) : rd (cTreeA s) 0 1 = cTreeA s := rd_last (len_cTreeA _)
theorem up_TreeA_all (s x : TreeA) : upd (cTreeA s) 0 (cTreeA x) 1 = cTreeA x := up_last (len_cTreeA _)

structure Store where
  cFg : Config
  votes : Votes
  finality : Finality
  queues : Queues
  tree : TreeA
  now : Int
  boost : Root
  tables : AV

def cStore (s : Store) : List AV := cConfig s.cFg ++ (cVotes s.votes ++ (cFinality s.finality ++ (cQueues s.queues ++ (cTreeA s.tree ++ (cU64 s.now ++ (cRoot s.boost ++ ([s.tables])))))))
@[simp] theorem len_cStore (s : Store) : (cStore s).length = 150 := by simp [cStore]
theorem flat_cStore (s : Store) (h0 : Flat s.cFg.bal) (h1 : Flat s.votes.latest) (h2 : Flat s.votes.equiv) (h3 : Flat s.queues.early) (h4 : Flat s.queues.orphans) (h5 : Flat s.tree.nodes) (h6 : Flat s.tables) : ∀ x ∈ cStore s, Flat x := by
  intro x hx
  simp only [cStore, List.mem_append, List.mem_singleton] at hx
  rcases hx with hx | hx | hx | hx | hx | hx | hx | hx
  · (exact flat_cConfig _ (by assumption) _ hx)
  · (exact flat_cVotes _ (by assumption) (by assumption) _ hx)
  · (exact flat_cFinality _ _ hx)
  · (exact flat_cQueues _ (by assumption) (by assumption) _ hx)
  · (exact flat_cTreeA _ (by assumption) _ hx)
  · (exact flat_cU64 _ _ hx)
  · (exact flat_cRoot _ _ hx)
  · (subst hx; assumption)
theorem rd_Store_config (s : Store) : rd (cStore s) 0 45 = cConfig s.cFg := rd_head (len_cConfig _)
theorem up_Store_config (s : Store) (x : Config) : upd (cStore s) 0 (cConfig x) 45 = cStore { s with cFg := x } := up_head (len_cConfig _)
theorem rd_Store_config_lim (s : Store) : rd (cStore s) 0 6 = cLimits s.cFg.lim := (rd_in (by rw [len_cConfig]; decide)).trans (rd_Config_lim _)
theorem up_Store_config_lim (s : Store) (x : Limits) : upd (cStore s) 0 (cLimits x) 6 = cStore { s with cFg := { s.cFg with lim := x } } := (up_in (by rw [len_cConfig]; decide)).trans (appL (up_Config_lim _ x))
theorem get_Store_config_lim_nodeL (s : Store) : (cStore s)[0]? = some (.v (.int .i64 s.cFg.lim.nodeL)) := (get_in (by rw [len_cConfig]; decide)).trans (get_Config_lim_nodeL _)
theorem up_Store_config_lim_nodeL (s : Store) (x : Int) : upd (cStore s) 0 ([.v (.int .i64 x)]) 1 = cStore { s with cFg := { s.cFg with lim := { s.cFg.lim with nodeL := x } } } := (up_in (by rw [len_cConfig]; decide)).trans (appL (up_Config_lim_nodeL _ x))
theorem get_Store_config_lim_orphL (s : Store) : (cStore s)[1]? = some (.v (.int .i64 s.cFg.lim.orphL)) := (get_in (by rw [len_cConfig]; decide)).trans (get_Config_lim_orphL _)
theorem up_Store_config_lim_orphL (s : Store) (x : Int) : upd (cStore s) 1 ([.v (.int .i64 x)]) 2 = cStore { s with cFg := { s.cFg with lim := { s.cFg.lim with orphL := x } } } := (up_in (by rw [len_cConfig]; decide)).trans (appL (up_Config_lim_orphL _ x))
theorem get_Store_config_lim_earlyL (s : Store) : (cStore s)[2]? = some (.v (.int .i64 s.cFg.lim.earlyL)) := (get_in (by rw [len_cConfig]; decide)).trans (get_Config_lim_earlyL _)
theorem up_Store_config_lim_earlyL (s : Store) (x : Int) : upd (cStore s) 2 ([.v (.int .i64 x)]) 3 = cStore { s with cFg := { s.cFg with lim := { s.cFg.lim with earlyL := x } } } := (up_in (by rw [len_cConfig]; decide)).trans (appL (up_Config_lim_earlyL _ x))
theorem get_Store_config_lim_tableL (s : Store) : (cStore s)[3]? = some (.v (.int .i64 s.cFg.lim.tableL)) := (get_in (by rw [len_cConfig]; decide)).trans (get_Config_lim_tableL _)
theorem up_Store_config_lim_tableL (s : Store) (x : Int) : upd (cStore s) 3 ([.v (.int .i64 x)]) 4 = cStore { s with cFg := { s.cFg with lim := { s.cFg.lim with tableL := x } } } := (up_in (by rw [len_cConfig]; decide)).trans (appL (up_Config_lim_tableL _ x))
theorem get_Store_config_lim_retryL (s : Store) : (cStore s)[4]? = some (.v (.int .i64 s.cFg.lim.retryL)) := (get_in (by rw [len_cConfig]; decide)).trans (get_Config_lim_retryL _)
theorem up_Store_config_lim_retryL (s : Store) (x : Int) : upd (cStore s) 4 ([.v (.int .i64 x)]) 5 = cStore { s with cFg := { s.cFg with lim := { s.cFg.lim with retryL := x } } } := (up_in (by rw [len_cConfig]; decide)).trans (appL (up_Config_lim_retryL _ x))
theorem get_Store_config_lim_backoff (s : Store) : (cStore s)[5]? = some (.v (.int .u64 s.cFg.lim.backoff)) := (get_in (by rw [len_cConfig]; decide)).trans (get_Config_lim_backoff _)
theorem up_Store_config_lim_backoff (s : Store) (x : Int) : upd (cStore s) 5 ([.v (.int .u64 x)]) 6 = cStore { s with cFg := { s.cFg with lim := { s.cFg.lim with backoff := x } } } := (up_in (by rw [len_cConfig]; decide)).trans (appL (up_Config_lim_backoff _ x))
theorem get_Store_config_spe (s : Store) : (cStore s)[6]? = some (.v (.int .u64 s.cFg.spe)) := (get_in (by rw [len_cConfig]; decide)).trans (get_Config_spe _)
theorem up_Store_config_spe (s : Store) (x : Int) : upd (cStore s) 6 ([.v (.int .u64 x)]) 7 = cStore { s with cFg := { s.cFg with spe := x } } := (up_in (by rw [len_cConfig]; decide)).trans (appL (up_Config_spe _ x))
theorem get_Store_config_boostP (s : Store) : (cStore s)[7]? = some (.v (.int .u64 s.cFg.boostP)) := (get_in (by rw [len_cConfig]; decide)).trans (get_Config_boostP _)
theorem up_Store_config_boostP (s : Store) (x : Int) : upd (cStore s) 7 ([.v (.int .u64 x)]) 8 = cStore { s with cFg := { s.cFg with boostP := x } } := (up_in (by rw [len_cConfig]; decide)).trans (appL (up_Config_boostP _ x))
theorem rd_Store_config_ttd (s : Store) : rd (cStore s) 8 4 = cWide s.cFg.ttd := (rd_in (by rw [len_cConfig]; decide)).trans (rd_Config_ttd _)
theorem up_Store_config_ttd (s : Store) (x : Wide) : upd (cStore s) 8 (cWide x) 12 = cStore { s with cFg := { s.cFg with ttd := x } } := (up_in (by rw [len_cConfig]; decide)).trans (appL (up_Config_ttd _ x))
theorem rd_Store_config_genesis (s : Store) : rd (cStore s) 12 32 = cRoot s.cFg.genesis := (rd_in (by rw [len_cConfig]; decide)).trans (rd_Config_genesis _)
theorem up_Store_config_genesis (s : Store) (x : Root) : upd (cStore s) 12 (cRoot x) 44 = cStore { s with cFg := { s.cFg with genesis := x } } := (up_in (by rw [len_cConfig]; decide)).trans (appL (up_Config_genesis _ x))
theorem get_Store_config_bal (s : Store) : (cStore s)[44]? = some (s.cFg.bal) := (get_in (by rw [len_cConfig]; decide)).trans (get_Config_bal _)
theorem up_Store_config_bal (s : Store) (x : AV) : upd (cStore s) 44 ([x]) 45 = cStore { s with cFg := { s.cFg with bal := x } } := (up_in (by rw [len_cConfig]; decide)).trans (appL (up_Config_bal _ x))
theorem rd_Store_votes (s : Store) : rd (cStore s) 45 2 = cVotes s.votes := (rd_skip rfl (len_cConfig _)).trans (rd_head (len_cVotes _))
theorem up_Store_votes (s : Store) (x : Votes) : upd (cStore s) 45 (cVotes x) 47 = cStore { s with votes := x } := (up_skip rfl rfl (len_cConfig _)).trans (appR (up_head (len_cVotes _)))
theorem get_Store_votes_latest (s : Store) : (cStore s)[45]? = some (s.votes.latest) := (get_skip rfl (len_cConfig _)).trans ((get_in (by rw [len_cVotes]; decide)).trans (get_Votes_latest _))
theorem up_Store_votes_latest (s : Store) (x : AV) : upd (cStore s) 45 ([x]) 46 = cStore { s with votes := { s.votes with latest := x } } := (up_skip rfl rfl (len_cConfig _)).trans (appR ((up_in (by rw [len_cVotes]; decide)).trans (appL (up_Votes_latest _ x))))
theorem get_Store_votes_equiv (s : Store) : (cStore s)[46]? = some (s.votes.equiv) := (get_skip rfl (len_cConfig _)).trans ((get_in (by rw [len_cVotes]; decide)).trans (get_Votes_equiv _))
theorem up_Store_votes_equiv (s : Store) (x : AV) : upd (cStore s) 46 ([x]) 47 = cStore { s with votes := { s.votes with equiv := x } } := (up_skip rfl rfl (len_cConfig _)).trans (appR ((up_in (by rw [len_cVotes]; decide)).trans (appL (up_Votes_equiv _ x))))
theorem rd_Store_finality (s : Store) : rd (cStore s) 47 66 = cFinality s.finality := (rd_skip rfl (len_cConfig _)).trans ((rd_skip rfl (len_cVotes _)).trans (rd_head (len_cFinality _)))
theorem up_Store_finality (s : Store) (x : Finality) : upd (cStore s) 47 (cFinality x) 113 = cStore { s with finality := x } := (up_skip rfl rfl (len_cConfig _)).trans (appR ((up_skip rfl rfl (len_cVotes _)).trans (appR (up_head (len_cFinality _)))))
theorem rd_Store_finality_just (s : Store) : rd (cStore s) 47 33 = cCkpt s.finality.just := (rd_skip rfl (len_cConfig _)).trans ((rd_skip rfl (len_cVotes _)).trans ((rd_in (by rw [len_cFinality]; decide)).trans (rd_Finality_just _)))
theorem up_Store_finality_just (s : Store) (x : Ckpt) : upd (cStore s) 47 (cCkpt x) 80 = cStore { s with finality := { s.finality with just := x } } := (up_skip rfl rfl (len_cConfig _)).trans (appR ((up_skip rfl rfl (len_cVotes _)).trans (appR ((up_in (by rw [len_cFinality]; decide)).trans (appL (up_Finality_just _ x))))))
theorem get_Store_finality_just_epoch (s : Store) : (cStore s)[47]? = some (.v (.int .u64 s.finality.just.epoch)) := (get_skip rfl (len_cConfig _)).trans ((get_skip rfl (len_cVotes _)).trans ((get_in (by rw [len_cFinality]; decide)).trans (get_Finality_just_epoch _)))
theorem up_Store_finality_just_epoch (s : Store) (x : Int) : upd (cStore s) 47 ([.v (.int .u64 x)]) 48 = cStore { s with finality := { s.finality with just := { s.finality.just with epoch := x } } } := (up_skip rfl rfl (len_cConfig _)).trans (appR ((up_skip rfl rfl (len_cVotes _)).trans (appR ((up_in (by rw [len_cFinality]; decide)).trans (appL (up_Finality_just_epoch _ x))))))
theorem rd_Store_finality_just_root (s : Store) : rd (cStore s) 48 32 = cRoot s.finality.just.root := (rd_skip rfl (len_cConfig _)).trans ((rd_skip rfl (len_cVotes _)).trans ((rd_in (by rw [len_cFinality]; decide)).trans (rd_Finality_just_root _)))
theorem up_Store_finality_just_root (s : Store) (x : Root) : upd (cStore s) 48 (cRoot x) 80 = cStore { s with finality := { s.finality with just := { s.finality.just with root := x } } } := (up_skip rfl rfl (len_cConfig _)).trans (appR ((up_skip rfl rfl (len_cVotes _)).trans (appR ((up_in (by rw [len_cFinality]; decide)).trans (appL (up_Finality_just_root _ x))))))
theorem rd_Store_finality_fin (s : Store) : rd (cStore s) 80 33 = cCkpt s.finality.fin := (rd_skip rfl (len_cConfig _)).trans ((rd_skip rfl (len_cVotes _)).trans ((rd_in (by rw [len_cFinality]; decide)).trans (rd_Finality_fin _)))
theorem up_Store_finality_fin (s : Store) (x : Ckpt) : upd (cStore s) 80 (cCkpt x) 113 = cStore { s with finality := { s.finality with fin := x } } := (up_skip rfl rfl (len_cConfig _)).trans (appR ((up_skip rfl rfl (len_cVotes _)).trans (appR ((up_in (by rw [len_cFinality]; decide)).trans (appL (up_Finality_fin _ x))))))
theorem get_Store_finality_fin_epoch (s : Store) : (cStore s)[80]? = some (.v (.int .u64 s.finality.fin.epoch)) := (get_skip rfl (len_cConfig _)).trans ((get_skip rfl (len_cVotes _)).trans ((get_in (by rw [len_cFinality]; decide)).trans (get_Finality_fin_epoch _)))
theorem up_Store_finality_fin_epoch (s : Store) (x : Int) : upd (cStore s) 80 ([.v (.int .u64 x)]) 81 = cStore { s with finality := { s.finality with fin := { s.finality.fin with epoch := x } } } := (up_skip rfl rfl (len_cConfig _)).trans (appR ((up_skip rfl rfl (len_cVotes _)).trans (appR ((up_in (by rw [len_cFinality]; decide)).trans (appL (up_Finality_fin_epoch _ x))))))
theorem rd_Store_finality_fin_root (s : Store) : rd (cStore s) 81 32 = cRoot s.finality.fin.root := (rd_skip rfl (len_cConfig _)).trans ((rd_skip rfl (len_cVotes _)).trans ((rd_in (by rw [len_cFinality]; decide)).trans (rd_Finality_fin_root _)))
theorem up_Store_finality_fin_root (s : Store) (x : Root) : upd (cStore s) 81 (cRoot x) 113 = cStore { s with finality := { s.finality with fin := { s.finality.fin with root := x } } } := (up_skip rfl rfl (len_cConfig _)).trans (appR ((up_skip rfl rfl (len_cVotes _)).trans (appR ((up_in (by rw [len_cFinality]; decide)).trans (appL (up_Finality_fin_root _ x))))))
theorem rd_Store_queues (s : Store) : rd (cStore s) 113 2 = cQueues s.queues := (rd_skip rfl (len_cConfig _)).trans ((rd_skip rfl (len_cVotes _)).trans ((rd_skip rfl (len_cFinality _)).trans (rd_head (len_cQueues _))))
theorem up_Store_queues (s : Store) (x : Queues) : upd (cStore s) 113 (cQueues x) 115 = cStore { s with queues := x } := (up_skip rfl rfl (len_cConfig _)).trans (appR ((up_skip rfl rfl (len_cVotes _)).trans (appR ((up_skip rfl rfl (len_cFinality _)).trans (appR (up_head (len_cQueues _)))))))
theorem get_Store_queues_early (s : Store) : (cStore s)[113]? = some (s.queues.early) := (get_skip rfl (len_cConfig _)).trans ((get_skip rfl (len_cVotes _)).trans ((get_skip rfl (len_cFinality _)).trans ((get_in (by rw [len_cQueues]; decide)).trans (get_Queues_early _))))
theorem up_Store_queues_early (s : Store) (x : AV) : upd (cStore s) 113 ([x]) 114 = cStore { s with queues := { s.queues with early := x } } := (up_skip rfl rfl (len_cConfig _)).trans (appR ((up_skip rfl rfl (len_cVotes _)).trans (appR ((up_skip rfl rfl (len_cFinality _)).trans (appR ((up_in (by rw [len_cQueues]; decide)).trans (appL (up_Queues_early _ x))))))))
theorem get_Store_queues_orphans (s : Store) : (cStore s)[114]? = some (s.queues.orphans) := (get_skip rfl (len_cConfig _)).trans ((get_skip rfl (len_cVotes _)).trans ((get_skip rfl (len_cFinality _)).trans ((get_in (by rw [len_cQueues]; decide)).trans (get_Queues_orphans _))))
theorem up_Store_queues_orphans (s : Store) (x : AV) : upd (cStore s) 114 ([x]) 115 = cStore { s with queues := { s.queues with orphans := x } } := (up_skip rfl rfl (len_cConfig _)).trans (appR ((up_skip rfl rfl (len_cVotes _)).trans (appR ((up_skip rfl rfl (len_cFinality _)).trans (appR ((up_in (by rw [len_cQueues]; decide)).trans (appL (up_Queues_orphans _ x))))))))
theorem rd_Store_tree (s : Store) : rd (cStore s) 115 1 = cTreeA s.tree := (rd_skip rfl (len_cConfig _)).trans ((rd_skip rfl (len_cVotes _)).trans ((rd_skip rfl (len_cFinality _)).trans ((rd_skip rfl (len_cQueues _)).trans (rd_head (len_cTreeA _)))))
theorem up_Store_tree (s : Store) (x : TreeA) : upd (cStore s) 115 (cTreeA x) 116 = cStore { s with tree := x } := (up_skip rfl rfl (len_cConfig _)).trans (appR ((up_skip rfl rfl (len_cVotes _)).trans (appR ((up_skip rfl rfl (len_cFinality _)).trans (appR ((up_skip rfl rfl (len_cQueues _)).trans (appR (up_head (len_cTreeA _)))))))))
theorem get_Store_tree_nodes (s : Store) : (cStore s)[115]? = some (s.tree.nodes) := (get_skip rfl (len_cConfig _)).trans ((get_skip rfl (len_cVotes _)).trans ((get_skip rfl (len_cFinality _)).trans ((get_skip rfl (len_cQueues _)).trans ((get_in (by rw [len_cTreeA]; decide)).trans (get_TreeA_nodes _)))))
theorem up_Store_tree_nodes (s : Store) (x : AV) : upd (cStore s) 115 ([x]) 116 = cStore { s with tree := { s.tree with nodes := x } } := (up_skip rfl rfl (len_cConfig _)).trans (appR ((up_skip rfl rfl (len_cVotes _)).trans (appR ((up_skip rfl rfl (len_cFinality _)).trans (appR ((up_skip rfl rfl (len_cQueues _)).trans (appR ((up_in (by rw [len_cTreeA]; decide)).trans (appL (up_TreeA_nodes _ x))))))))))
theorem get_Store_now (s : Store) : (cStore s)[116]? = some (.v (.int .u64 s.now)) := (get_skip rfl (len_cConfig _)).trans ((get_skip rfl (len_cVotes _)).trans ((get_skip rfl (len_cFinality _)).trans ((get_skip rfl (len_cQueues _)).trans ((get_skip rfl (len_cTreeA _)).trans (rfl)))))
theorem up_Store_now (s : Store) (x : Int) : upd (cStore s) 116 ([.v (.int .u64 x)]) 117 = cStore { s with now := x } := (up_skip rfl rfl (len_cConfig _)).trans (appR ((up_skip rfl rfl (len_cVotes _)).trans (appR ((up_skip rfl rfl (len_cFinality _)).trans (appR ((up_skip rfl rfl (len_cQueues _)).trans (appR ((up_skip rfl rfl (len_cTreeA _)).trans (appR (up_head (len_cU64 _)))))))))))
theorem rd_Store_boost (s : Store) : rd (cStore s) 117 32 = cRoot s.boost := (rd_skip rfl (len_cConfig _)).trans ((rd_skip rfl (len_cVotes _)).trans ((rd_skip rfl (len_cFinality _)).trans ((rd_skip rfl (len_cQueues _)).trans ((rd_skip rfl (len_cTreeA _)).trans ((rd_skip rfl (len_cU64 _)).trans (rd_head (len_cRoot _)))))))
theorem up_Store_boost (s : Store) (x : Root) : upd (cStore s) 117 (cRoot x) 149 = cStore { s with boost := x } := (up_skip rfl rfl (len_cConfig _)).trans (appR ((up_skip rfl rfl (len_cVotes _)).trans (appR ((up_skip rfl rfl (len_cFinality _)).trans (appR ((up_skip rfl rfl (len_cQueues _)).trans (appR ((up_skip rfl rfl (len_cTreeA _)).trans (appR ((up_skip rfl rfl (len_cU64 _)).trans (appR (up_head (len_cRoot _)))))))))))))
theorem get_Store_tables (s : Store) : (cStore s)[149]? = some (s.tables) := (get_skip rfl (len_cConfig _)).trans ((get_skip rfl (len_cVotes _)).trans ((get_skip rfl (len_cFinality _)).trans ((get_skip rfl (len_cQueues _)).trans ((get_skip rfl (len_cTreeA _)).trans ((get_skip rfl (len_cU64 _)).trans ((get_skip rfl (len_cRoot _)).trans (rfl)))))))
theorem up_Store_tables (s : Store) (x : AV) : upd (cStore s) 149 ([x]) 150 = cStore { s with tables := x } := (up_skip rfl rfl (len_cConfig _)).trans (appR ((up_skip rfl rfl (len_cVotes _)).trans (appR ((up_skip rfl rfl (len_cFinality _)).trans (appR ((up_skip rfl rfl (len_cQueues _)).trans (appR ((up_skip rfl rfl (len_cTreeA _)).trans (appR ((up_skip rfl rfl (len_cU64 _)).trans (appR ((up_skip rfl rfl (len_cRoot _)).trans (appR (up_last rfl))))))))))))))
def zStore : Store := ⟨zConfig, zVotes, zFinality, zQueues, zTreeA, 0, zRoot, (.v (.slice none 0 0))⟩
def vStore : List Value := vConfig ++ (vVotes ++ (vFinality ++ (vQueues ++ (vTreeA ++ ([.int .u64 0] ++ (vRoot ++ ([.slice none 0 0])))))))
theorem vStore_c : vStore.map AV.v = cStore zStore := by simp only [vStore, List.map_append, List.map_cons, List.map_nil, vRoot_c, vWide_c, vConfig_c, vVotes_c, vFinality_c, vQueues_c, vTreeA_c]; rfl
theorem exq_Store (st : St) (s : Store) : exq st (cStore s) = bnd (expo1 st s.cFg.bal) fun x_config_bal => bnd (expo1 st s.votes.latest) fun x_votes_latest => bnd (expo1 st s.votes.equiv) fun x_votes_equiv => bnd (expo1 st s.queues.early) fun x_queues_early => bnd (expo1 st s.queues.orphans) fun x_queues_orphans => bnd (expo1 st s.tree.nodes) fun x_tree_nodes => bnd (expo1 st s.tables) fun x_tables => some (cStore { s with cFg := { s.cFg with bal := x_config_bal }, votes := { s.votes with latest := x_votes_latest, equiv := x_votes_equiv }, queues := { s.queues with early := x_queues_early, orphans := x_queues_orphans }, tree := { s.tree with nodes := x_tree_nodes }, tables := x_tables }) := by
  simp only [cStore, exq_app, exq_Config, exq_Votes, exq_flat (flat_cFinality _), exq_Queues, exq_TreeA, exq_flat (flat_cU64 _), exq_flat (flat_cRoot _), exq_one, bnd_assoc, bnd_some]
theorem rd_Store_all (s : Store) : rd (cStore s) 0 150 = cStore s := rd_last (len_cStore _)
theorem up_Store_all (s x : Store) : upd (cStore s) 0 (cStore x) 150 = cStore x := up_last (len_cStore _)

structure State where
  store : Store
  requests : AV
  retries : AV
  nextTag : Int
  sent : Bool
  last : Command
  overflow : Bool
  halted : Bool

def cState (s : State) : List AV := cStore s.store ++ ([s.requests] ++ ([s.retries] ++ (cU64 s.nextTag ++ (cBool s.sent ++ (cCommand s.last ++ (cBool s.overflow ++ (cBool s.halted)))))))
@[simp] theorem len_cState (s : State) : (cState s).length = 252 := by simp [cState]
theorem flat_cState (s : State) (h0 : Flat s.store.cFg.bal) (h1 : Flat s.store.votes.latest) (h2 : Flat s.store.votes.equiv) (h3 : Flat s.store.queues.early) (h4 : Flat s.store.queues.orphans) (h5 : Flat s.store.tree.nodes) (h6 : Flat s.store.tables) (h7 : Flat s.requests) (h8 : Flat s.retries) : ∀ x ∈ cState s, Flat x := by
  intro x hx
  simp only [cState, List.mem_append, List.mem_singleton] at hx
  rcases hx with hx | hx | hx | hx | hx | hx | hx | hx
  · (exact flat_cStore _ (by assumption) (by assumption) (by assumption) (by assumption) (by assumption) (by assumption) (by assumption) _ hx)
  · (subst hx; assumption)
  · (subst hx; assumption)
  · (exact flat_cU64 _ _ hx)
  · (exact flat_cBool _ _ hx)
  · (exact flat_cCommand _ _ hx)
  · (exact flat_cBool _ _ hx)
  · (exact flat_cBool _ _ hx)
theorem rd_State_store (s : State) : rd (cState s) 0 150 = cStore s.store := rd_head (len_cStore _)
theorem up_State_store (s : State) (x : Store) : upd (cState s) 0 (cStore x) 150 = cState { s with store := x } := up_head (len_cStore _)
theorem rd_State_store_config (s : State) : rd (cState s) 0 45 = cConfig s.store.cFg := (rd_in (by rw [len_cStore]; decide)).trans (rd_Store_config _)
theorem up_State_store_config (s : State) (x : Config) : upd (cState s) 0 (cConfig x) 45 = cState { s with store := { s.store with cFg := x } } := (up_in (by rw [len_cStore]; decide)).trans (appL (up_Store_config _ x))
theorem rd_State_store_config_lim (s : State) : rd (cState s) 0 6 = cLimits s.store.cFg.lim := (rd_in (by rw [len_cStore]; decide)).trans (rd_Store_config_lim _)
theorem up_State_store_config_lim (s : State) (x : Limits) : upd (cState s) 0 (cLimits x) 6 = cState { s with store := { s.store with cFg := { s.store.cFg with lim := x } } } := (up_in (by rw [len_cStore]; decide)).trans (appL (up_Store_config_lim _ x))
theorem get_State_store_config_lim_nodeL (s : State) : (cState s)[0]? = some (.v (.int .i64 s.store.cFg.lim.nodeL)) := (get_in (by rw [len_cStore]; decide)).trans (get_Store_config_lim_nodeL _)
theorem up_State_store_config_lim_nodeL (s : State) (x : Int) : upd (cState s) 0 ([.v (.int .i64 x)]) 1 = cState { s with store := { s.store with cFg := { s.store.cFg with lim := { s.store.cFg.lim with nodeL := x } } } } := (up_in (by rw [len_cStore]; decide)).trans (appL (up_Store_config_lim_nodeL _ x))
theorem get_State_store_config_lim_orphL (s : State) : (cState s)[1]? = some (.v (.int .i64 s.store.cFg.lim.orphL)) := (get_in (by rw [len_cStore]; decide)).trans (get_Store_config_lim_orphL _)
theorem up_State_store_config_lim_orphL (s : State) (x : Int) : upd (cState s) 1 ([.v (.int .i64 x)]) 2 = cState { s with store := { s.store with cFg := { s.store.cFg with lim := { s.store.cFg.lim with orphL := x } } } } := (up_in (by rw [len_cStore]; decide)).trans (appL (up_Store_config_lim_orphL _ x))
theorem get_State_store_config_lim_earlyL (s : State) : (cState s)[2]? = some (.v (.int .i64 s.store.cFg.lim.earlyL)) := (get_in (by rw [len_cStore]; decide)).trans (get_Store_config_lim_earlyL _)
theorem up_State_store_config_lim_earlyL (s : State) (x : Int) : upd (cState s) 2 ([.v (.int .i64 x)]) 3 = cState { s with store := { s.store with cFg := { s.store.cFg with lim := { s.store.cFg.lim with earlyL := x } } } } := (up_in (by rw [len_cStore]; decide)).trans (appL (up_Store_config_lim_earlyL _ x))
theorem get_State_store_config_lim_tableL (s : State) : (cState s)[3]? = some (.v (.int .i64 s.store.cFg.lim.tableL)) := (get_in (by rw [len_cStore]; decide)).trans (get_Store_config_lim_tableL _)
theorem up_State_store_config_lim_tableL (s : State) (x : Int) : upd (cState s) 3 ([.v (.int .i64 x)]) 4 = cState { s with store := { s.store with cFg := { s.store.cFg with lim := { s.store.cFg.lim with tableL := x } } } } := (up_in (by rw [len_cStore]; decide)).trans (appL (up_Store_config_lim_tableL _ x))
theorem get_State_store_config_lim_retryL (s : State) : (cState s)[4]? = some (.v (.int .i64 s.store.cFg.lim.retryL)) := (get_in (by rw [len_cStore]; decide)).trans (get_Store_config_lim_retryL _)
theorem up_State_store_config_lim_retryL (s : State) (x : Int) : upd (cState s) 4 ([.v (.int .i64 x)]) 5 = cState { s with store := { s.store with cFg := { s.store.cFg with lim := { s.store.cFg.lim with retryL := x } } } } := (up_in (by rw [len_cStore]; decide)).trans (appL (up_Store_config_lim_retryL _ x))
theorem get_State_store_config_lim_backoff (s : State) : (cState s)[5]? = some (.v (.int .u64 s.store.cFg.lim.backoff)) := (get_in (by rw [len_cStore]; decide)).trans (get_Store_config_lim_backoff _)
theorem up_State_store_config_lim_backoff (s : State) (x : Int) : upd (cState s) 5 ([.v (.int .u64 x)]) 6 = cState { s with store := { s.store with cFg := { s.store.cFg with lim := { s.store.cFg.lim with backoff := x } } } } := (up_in (by rw [len_cStore]; decide)).trans (appL (up_Store_config_lim_backoff _ x))
theorem get_State_store_config_spe (s : State) : (cState s)[6]? = some (.v (.int .u64 s.store.cFg.spe)) := (get_in (by rw [len_cStore]; decide)).trans (get_Store_config_spe _)
theorem up_State_store_config_spe (s : State) (x : Int) : upd (cState s) 6 ([.v (.int .u64 x)]) 7 = cState { s with store := { s.store with cFg := { s.store.cFg with spe := x } } } := (up_in (by rw [len_cStore]; decide)).trans (appL (up_Store_config_spe _ x))
theorem get_State_store_config_boostP (s : State) : (cState s)[7]? = some (.v (.int .u64 s.store.cFg.boostP)) := (get_in (by rw [len_cStore]; decide)).trans (get_Store_config_boostP _)
theorem up_State_store_config_boostP (s : State) (x : Int) : upd (cState s) 7 ([.v (.int .u64 x)]) 8 = cState { s with store := { s.store with cFg := { s.store.cFg with boostP := x } } } := (up_in (by rw [len_cStore]; decide)).trans (appL (up_Store_config_boostP _ x))
theorem rd_State_store_config_ttd (s : State) : rd (cState s) 8 4 = cWide s.store.cFg.ttd := (rd_in (by rw [len_cStore]; decide)).trans (rd_Store_config_ttd _)
theorem up_State_store_config_ttd (s : State) (x : Wide) : upd (cState s) 8 (cWide x) 12 = cState { s with store := { s.store with cFg := { s.store.cFg with ttd := x } } } := (up_in (by rw [len_cStore]; decide)).trans (appL (up_Store_config_ttd _ x))
theorem rd_State_store_config_genesis (s : State) : rd (cState s) 12 32 = cRoot s.store.cFg.genesis := (rd_in (by rw [len_cStore]; decide)).trans (rd_Store_config_genesis _)
theorem up_State_store_config_genesis (s : State) (x : Root) : upd (cState s) 12 (cRoot x) 44 = cState { s with store := { s.store with cFg := { s.store.cFg with genesis := x } } } := (up_in (by rw [len_cStore]; decide)).trans (appL (up_Store_config_genesis _ x))
theorem get_State_store_config_bal (s : State) : (cState s)[44]? = some (s.store.cFg.bal) := (get_in (by rw [len_cStore]; decide)).trans (get_Store_config_bal _)
theorem up_State_store_config_bal (s : State) (x : AV) : upd (cState s) 44 ([x]) 45 = cState { s with store := { s.store with cFg := { s.store.cFg with bal := x } } } := (up_in (by rw [len_cStore]; decide)).trans (appL (up_Store_config_bal _ x))
theorem rd_State_store_votes (s : State) : rd (cState s) 45 2 = cVotes s.store.votes := (rd_in (by rw [len_cStore]; decide)).trans (rd_Store_votes _)
theorem up_State_store_votes (s : State) (x : Votes) : upd (cState s) 45 (cVotes x) 47 = cState { s with store := { s.store with votes := x } } := (up_in (by rw [len_cStore]; decide)).trans (appL (up_Store_votes _ x))
theorem get_State_store_votes_latest (s : State) : (cState s)[45]? = some (s.store.votes.latest) := (get_in (by rw [len_cStore]; decide)).trans (get_Store_votes_latest _)
theorem up_State_store_votes_latest (s : State) (x : AV) : upd (cState s) 45 ([x]) 46 = cState { s with store := { s.store with votes := { s.store.votes with latest := x } } } := (up_in (by rw [len_cStore]; decide)).trans (appL (up_Store_votes_latest _ x))
theorem get_State_store_votes_equiv (s : State) : (cState s)[46]? = some (s.store.votes.equiv) := (get_in (by rw [len_cStore]; decide)).trans (get_Store_votes_equiv _)
theorem up_State_store_votes_equiv (s : State) (x : AV) : upd (cState s) 46 ([x]) 47 = cState { s with store := { s.store with votes := { s.store.votes with equiv := x } } } := (up_in (by rw [len_cStore]; decide)).trans (appL (up_Store_votes_equiv _ x))
theorem rd_State_store_finality (s : State) : rd (cState s) 47 66 = cFinality s.store.finality := (rd_in (by rw [len_cStore]; decide)).trans (rd_Store_finality _)
theorem up_State_store_finality (s : State) (x : Finality) : upd (cState s) 47 (cFinality x) 113 = cState { s with store := { s.store with finality := x } } := (up_in (by rw [len_cStore]; decide)).trans (appL (up_Store_finality _ x))
theorem rd_State_store_finality_just (s : State) : rd (cState s) 47 33 = cCkpt s.store.finality.just := (rd_in (by rw [len_cStore]; decide)).trans (rd_Store_finality_just _)
theorem up_State_store_finality_just (s : State) (x : Ckpt) : upd (cState s) 47 (cCkpt x) 80 = cState { s with store := { s.store with finality := { s.store.finality with just := x } } } := (up_in (by rw [len_cStore]; decide)).trans (appL (up_Store_finality_just _ x))
theorem get_State_store_finality_just_epoch (s : State) : (cState s)[47]? = some (.v (.int .u64 s.store.finality.just.epoch)) := (get_in (by rw [len_cStore]; decide)).trans (get_Store_finality_just_epoch _)
theorem up_State_store_finality_just_epoch (s : State) (x : Int) : upd (cState s) 47 ([.v (.int .u64 x)]) 48 = cState { s with store := { s.store with finality := { s.store.finality with just := { s.store.finality.just with epoch := x } } } } := (up_in (by rw [len_cStore]; decide)).trans (appL (up_Store_finality_just_epoch _ x))
theorem rd_State_store_finality_just_root (s : State) : rd (cState s) 48 32 = cRoot s.store.finality.just.root := (rd_in (by rw [len_cStore]; decide)).trans (rd_Store_finality_just_root _)
theorem up_State_store_finality_just_root (s : State) (x : Root) : upd (cState s) 48 (cRoot x) 80 = cState { s with store := { s.store with finality := { s.store.finality with just := { s.store.finality.just with root := x } } } } := (up_in (by rw [len_cStore]; decide)).trans (appL (up_Store_finality_just_root _ x))
theorem rd_State_store_finality_fin (s : State) : rd (cState s) 80 33 = cCkpt s.store.finality.fin := (rd_in (by rw [len_cStore]; decide)).trans (rd_Store_finality_fin _)
theorem up_State_store_finality_fin (s : State) (x : Ckpt) : upd (cState s) 80 (cCkpt x) 113 = cState { s with store := { s.store with finality := { s.store.finality with fin := x } } } := (up_in (by rw [len_cStore]; decide)).trans (appL (up_Store_finality_fin _ x))
theorem get_State_store_finality_fin_epoch (s : State) : (cState s)[80]? = some (.v (.int .u64 s.store.finality.fin.epoch)) := (get_in (by rw [len_cStore]; decide)).trans (get_Store_finality_fin_epoch _)
theorem up_State_store_finality_fin_epoch (s : State) (x : Int) : upd (cState s) 80 ([.v (.int .u64 x)]) 81 = cState { s with store := { s.store with finality := { s.store.finality with fin := { s.store.finality.fin with epoch := x } } } } := (up_in (by rw [len_cStore]; decide)).trans (appL (up_Store_finality_fin_epoch _ x))
theorem rd_State_store_finality_fin_root (s : State) : rd (cState s) 81 32 = cRoot s.store.finality.fin.root := (rd_in (by rw [len_cStore]; decide)).trans (rd_Store_finality_fin_root _)
theorem up_State_store_finality_fin_root (s : State) (x : Root) : upd (cState s) 81 (cRoot x) 113 = cState { s with store := { s.store with finality := { s.store.finality with fin := { s.store.finality.fin with root := x } } } } := (up_in (by rw [len_cStore]; decide)).trans (appL (up_Store_finality_fin_root _ x))
theorem rd_State_store_queues (s : State) : rd (cState s) 113 2 = cQueues s.store.queues := (rd_in (by rw [len_cStore]; decide)).trans (rd_Store_queues _)
theorem up_State_store_queues (s : State) (x : Queues) : upd (cState s) 113 (cQueues x) 115 = cState { s with store := { s.store with queues := x } } := (up_in (by rw [len_cStore]; decide)).trans (appL (up_Store_queues _ x))
theorem get_State_store_queues_early (s : State) : (cState s)[113]? = some (s.store.queues.early) := (get_in (by rw [len_cStore]; decide)).trans (get_Store_queues_early _)
theorem up_State_store_queues_early (s : State) (x : AV) : upd (cState s) 113 ([x]) 114 = cState { s with store := { s.store with queues := { s.store.queues with early := x } } } := (up_in (by rw [len_cStore]; decide)).trans (appL (up_Store_queues_early _ x))
theorem get_State_store_queues_orphans (s : State) : (cState s)[114]? = some (s.store.queues.orphans) := (get_in (by rw [len_cStore]; decide)).trans (get_Store_queues_orphans _)
theorem up_State_store_queues_orphans (s : State) (x : AV) : upd (cState s) 114 ([x]) 115 = cState { s with store := { s.store with queues := { s.store.queues with orphans := x } } } := (up_in (by rw [len_cStore]; decide)).trans (appL (up_Store_queues_orphans _ x))
theorem rd_State_store_tree (s : State) : rd (cState s) 115 1 = cTreeA s.store.tree := (rd_in (by rw [len_cStore]; decide)).trans (rd_Store_tree _)
theorem up_State_store_tree (s : State) (x : TreeA) : upd (cState s) 115 (cTreeA x) 116 = cState { s with store := { s.store with tree := x } } := (up_in (by rw [len_cStore]; decide)).trans (appL (up_Store_tree _ x))
theorem get_State_store_tree_nodes (s : State) : (cState s)[115]? = some (s.store.tree.nodes) := (get_in (by rw [len_cStore]; decide)).trans (get_Store_tree_nodes _)
theorem up_State_store_tree_nodes (s : State) (x : AV) : upd (cState s) 115 ([x]) 116 = cState { s with store := { s.store with tree := { s.store.tree with nodes := x } } } := (up_in (by rw [len_cStore]; decide)).trans (appL (up_Store_tree_nodes _ x))
theorem get_State_store_now (s : State) : (cState s)[116]? = some (.v (.int .u64 s.store.now)) := (get_in (by rw [len_cStore]; decide)).trans (get_Store_now _)
theorem up_State_store_now (s : State) (x : Int) : upd (cState s) 116 ([.v (.int .u64 x)]) 117 = cState { s with store := { s.store with now := x } } := (up_in (by rw [len_cStore]; decide)).trans (appL (up_Store_now _ x))
theorem rd_State_store_boost (s : State) : rd (cState s) 117 32 = cRoot s.store.boost := (rd_in (by rw [len_cStore]; decide)).trans (rd_Store_boost _)
theorem up_State_store_boost (s : State) (x : Root) : upd (cState s) 117 (cRoot x) 149 = cState { s with store := { s.store with boost := x } } := (up_in (by rw [len_cStore]; decide)).trans (appL (up_Store_boost _ x))
theorem get_State_store_tables (s : State) : (cState s)[149]? = some (s.store.tables) := (get_in (by rw [len_cStore]; decide)).trans (get_Store_tables _)
theorem up_State_store_tables (s : State) (x : AV) : upd (cState s) 149 ([x]) 150 = cState { s with store := { s.store with tables := x } } := (up_in (by rw [len_cStore]; decide)).trans (appL (up_Store_tables _ x))
theorem get_State_requests (s : State) : (cState s)[150]? = some (s.requests) := (get_skip rfl (len_cStore _)).trans (rfl)
theorem up_State_requests (s : State) (x : AV) : upd (cState s) 150 ([x]) 151 = cState { s with requests := x } := (up_skip rfl rfl (len_cStore _)).trans (appR (up_head rfl))
theorem get_State_retries (s : State) : (cState s)[151]? = some (s.retries) := (get_skip rfl (len_cStore _)).trans ((get_skip rfl rfl).trans (rfl))
theorem up_State_retries (s : State) (x : AV) : upd (cState s) 151 ([x]) 152 = cState { s with retries := x } := (up_skip rfl rfl (len_cStore _)).trans (appR ((up_skip rfl rfl rfl).trans (appR (up_head rfl))))
theorem get_State_nextTag (s : State) : (cState s)[152]? = some (.v (.int .u64 s.nextTag)) := (get_skip rfl (len_cStore _)).trans ((get_skip rfl rfl).trans ((get_skip rfl rfl).trans (rfl)))
theorem up_State_nextTag (s : State) (x : Int) : upd (cState s) 152 ([.v (.int .u64 x)]) 153 = cState { s with nextTag := x } := (up_skip rfl rfl (len_cStore _)).trans (appR ((up_skip rfl rfl rfl).trans (appR ((up_skip rfl rfl rfl).trans (appR (up_head (len_cU64 _)))))))
theorem get_State_sent (s : State) : (cState s)[153]? = some (.v (.bool s.sent)) := (get_skip rfl (len_cStore _)).trans ((get_skip rfl rfl).trans ((get_skip rfl rfl).trans ((get_skip rfl (len_cU64 _)).trans (rfl))))
theorem up_State_sent (s : State) (x : Bool) : upd (cState s) 153 ([.v (.bool x)]) 154 = cState { s with sent := x } := (up_skip rfl rfl (len_cStore _)).trans (appR ((up_skip rfl rfl rfl).trans (appR ((up_skip rfl rfl rfl).trans (appR ((up_skip rfl rfl (len_cU64 _)).trans (appR (up_head (len_cBool _)))))))))
theorem rd_State_last (s : State) : rd (cState s) 154 96 = cCommand s.last := (rd_skip rfl (len_cStore _)).trans ((rd_skip rfl rfl).trans ((rd_skip rfl rfl).trans ((rd_skip rfl (len_cU64 _)).trans ((rd_skip rfl (len_cBool _)).trans (rd_head (len_cCommand _))))))
theorem up_State_last (s : State) (x : Command) : upd (cState s) 154 (cCommand x) 250 = cState { s with last := x } := (up_skip rfl rfl (len_cStore _)).trans (appR ((up_skip rfl rfl rfl).trans (appR ((up_skip rfl rfl rfl).trans (appR ((up_skip rfl rfl (len_cU64 _)).trans (appR ((up_skip rfl rfl (len_cBool _)).trans (appR (up_head (len_cCommand _)))))))))))
theorem rd_State_last_head (s : State) : rd (cState s) 154 32 = cRoot s.last.head := (rd_skip rfl (len_cStore _)).trans ((rd_skip rfl rfl).trans ((rd_skip rfl rfl).trans ((rd_skip rfl (len_cU64 _)).trans ((rd_skip rfl (len_cBool _)).trans ((rd_in (by rw [len_cCommand]; decide)).trans (rd_Command_head _))))))
theorem up_State_last_head (s : State) (x : Root) : upd (cState s) 154 (cRoot x) 186 = cState { s with last := { s.last with head := x } } := (up_skip rfl rfl (len_cStore _)).trans (appR ((up_skip rfl rfl rfl).trans (appR ((up_skip rfl rfl rfl).trans (appR ((up_skip rfl rfl (len_cU64 _)).trans (appR ((up_skip rfl rfl (len_cBool _)).trans (appR ((up_in (by rw [len_cCommand]; decide)).trans (appL (up_Command_head _ x))))))))))))
theorem rd_State_last_safe (s : State) : rd (cState s) 186 32 = cRoot s.last.safe := (rd_skip rfl (len_cStore _)).trans ((rd_skip rfl rfl).trans ((rd_skip rfl rfl).trans ((rd_skip rfl (len_cU64 _)).trans ((rd_skip rfl (len_cBool _)).trans ((rd_in (by rw [len_cCommand]; decide)).trans (rd_Command_safe _))))))
theorem up_State_last_safe (s : State) (x : Root) : upd (cState s) 186 (cRoot x) 218 = cState { s with last := { s.last with safe := x } } := (up_skip rfl rfl (len_cStore _)).trans (appR ((up_skip rfl rfl rfl).trans (appR ((up_skip rfl rfl rfl).trans (appR ((up_skip rfl rfl (len_cU64 _)).trans (appR ((up_skip rfl rfl (len_cBool _)).trans (appR ((up_in (by rw [len_cCommand]; decide)).trans (appL (up_Command_safe _ x))))))))))))
theorem rd_State_last_fin (s : State) : rd (cState s) 218 32 = cRoot s.last.fin := (rd_skip rfl (len_cStore _)).trans ((rd_skip rfl rfl).trans ((rd_skip rfl rfl).trans ((rd_skip rfl (len_cU64 _)).trans ((rd_skip rfl (len_cBool _)).trans ((rd_in (by rw [len_cCommand]; decide)).trans (rd_Command_fin _))))))
theorem up_State_last_fin (s : State) (x : Root) : upd (cState s) 218 (cRoot x) 250 = cState { s with last := { s.last with fin := x } } := (up_skip rfl rfl (len_cStore _)).trans (appR ((up_skip rfl rfl rfl).trans (appR ((up_skip rfl rfl rfl).trans (appR ((up_skip rfl rfl (len_cU64 _)).trans (appR ((up_skip rfl rfl (len_cBool _)).trans (appR ((up_in (by rw [len_cCommand]; decide)).trans (appL (up_Command_fin _ x))))))))))))
theorem get_State_overflow (s : State) : (cState s)[250]? = some (.v (.bool s.overflow)) := (get_skip rfl (len_cStore _)).trans ((get_skip rfl rfl).trans ((get_skip rfl rfl).trans ((get_skip rfl (len_cU64 _)).trans ((get_skip rfl (len_cBool _)).trans ((get_skip rfl (len_cCommand _)).trans (rfl))))))
theorem up_State_overflow (s : State) (x : Bool) : upd (cState s) 250 ([.v (.bool x)]) 251 = cState { s with overflow := x } := (up_skip rfl rfl (len_cStore _)).trans (appR ((up_skip rfl rfl rfl).trans (appR ((up_skip rfl rfl rfl).trans (appR ((up_skip rfl rfl (len_cU64 _)).trans (appR ((up_skip rfl rfl (len_cBool _)).trans (appR ((up_skip rfl rfl (len_cCommand _)).trans (appR (up_head (len_cBool _)))))))))))))
theorem get_State_halted (s : State) : (cState s)[251]? = some (.v (.bool s.halted)) := (get_skip rfl (len_cStore _)).trans ((get_skip rfl rfl).trans ((get_skip rfl rfl).trans ((get_skip rfl (len_cU64 _)).trans ((get_skip rfl (len_cBool _)).trans ((get_skip rfl (len_cCommand _)).trans ((get_skip rfl (len_cBool _)).trans (rfl)))))))
theorem up_State_halted (s : State) (x : Bool) : upd (cState s) 251 ([.v (.bool x)]) 252 = cState { s with halted := x } := (up_skip rfl rfl (len_cStore _)).trans (appR ((up_skip rfl rfl rfl).trans (appR ((up_skip rfl rfl rfl).trans (appR ((up_skip rfl rfl (len_cU64 _)).trans (appR ((up_skip rfl rfl (len_cBool _)).trans (appR ((up_skip rfl rfl (len_cCommand _)).trans (appR ((up_skip rfl rfl (len_cBool _)).trans (appR (up_last (len_cBool _)))))))))))))))
def zState : State := ⟨zStore, (.v (.slice none 0 0)), (.v (.slice none 0 0)), 0, false, zCommand, false, false⟩
def vState : List Value := vStore ++ ([.slice none 0 0] ++ ([.slice none 0 0] ++ ([.int .u64 0] ++ ([.bool false] ++ (vCommand ++ ([.bool false] ++ ([.bool false])))))))
theorem vState_c : vState.map AV.v = cState zState := by simp only [vState, List.map_append, List.map_cons, List.map_nil, vRoot_c, vWide_c, vStore_c, vCommand_c]; rfl
theorem exq_State (st : St) (s : State) : exq st (cState s) = bnd (expo1 st s.store.cFg.bal) fun x_store_config_bal => bnd (expo1 st s.store.votes.latest) fun x_store_votes_latest => bnd (expo1 st s.store.votes.equiv) fun x_store_votes_equiv => bnd (expo1 st s.store.queues.early) fun x_store_queues_early => bnd (expo1 st s.store.queues.orphans) fun x_store_queues_orphans => bnd (expo1 st s.store.tree.nodes) fun x_store_tree_nodes => bnd (expo1 st s.store.tables) fun x_store_tables => bnd (expo1 st s.requests) fun x_requests => bnd (expo1 st s.retries) fun x_retries => some (cState { s with store := { s.store with cFg := { s.store.cFg with bal := x_store_config_bal }, votes := { s.store.votes with latest := x_store_votes_latest, equiv := x_store_votes_equiv }, queues := { s.store.queues with early := x_store_queues_early, orphans := x_store_queues_orphans }, tree := { s.store.tree with nodes := x_store_tree_nodes }, tables := x_store_tables }, requests := x_requests, retries := x_retries }) := by
  simp only [cState, exq_app, exq_Store, exq_one, exq_flat (flat_cU64 _), exq_flat (flat_cBool _), exq_flat (flat_cCommand _), bnd_assoc, bnd_some]
theorem rd_State_all (s : State) : rd (cState s) 0 252 = cState s := rd_last (len_cState _)
theorem up_State_all (s x : State) : upd (cState s) 0 (cState x) 252 = cState x := up_last (len_cState _)

structure OpS where
  kind : Int
  block : Block
  att : Att
  slash : Slashing
  table : Table
  verdict : Verdict
  write : Int
  keep : Int

def cOpS (s : OpS) : List AV := cInt s.kind ++ (cBlock s.block ++ (cAtt s.att ++ (cSlashing s.slash ++ (cTable s.table ++ (cVerdict s.verdict ++ (cInt s.write ++ (cInt s.keep)))))))
@[simp] theorem len_cOpS (s : OpS) : (cOpS s).length = 446 := by simp [cOpS]
theorem flat_cOpS (s : OpS) (h0 : Flat s.att.vals) (h1 : Flat s.slash.first.vals) (h2 : Flat s.slash.second.vals) (h3 : Flat s.table.bal) : ∀ x ∈ cOpS s, Flat x := by
  intro x hx
  simp only [cOpS, List.mem_append, List.mem_singleton] at hx
  rcases hx with hx | hx | hx | hx | hx | hx | hx | hx
  · (exact flat_cInt _ _ hx)
  · (exact flat_cBlock _ _ hx)
  · (exact flat_cAtt _ (by assumption) _ hx)
  · (exact flat_cSlashing _ (by assumption) (by assumption) _ hx)
  · (exact flat_cTable _ (by assumption) _ hx)
  · (exact flat_cVerdict _ _ hx)
  · (exact flat_cInt _ _ hx)
  · (exact flat_cInt _ _ hx)
theorem get_OpS_kind (s : OpS) : (cOpS s)[0]? = some (.v (.int .i64 s.kind)) := rfl
theorem up_OpS_kind (s : OpS) (x : Int) : upd (cOpS s) 0 ([.v (.int .i64 x)]) 1 = cOpS { s with kind := x } := up_head (len_cInt _)
theorem rd_OpS_block (s : OpS) : rd (cOpS s) 1 238 = cBlock s.block := (rd_skip rfl (len_cInt _)).trans (rd_head (len_cBlock _))
theorem up_OpS_block (s : OpS) (x : Block) : upd (cOpS s) 1 (cBlock x) 239 = cOpS { s with block := x } := (up_skip rfl rfl (len_cInt _)).trans (appR (up_head (len_cBlock _)))
theorem rd_OpS_block_pulled (s : OpS) : rd (cOpS s) 1 66 = cPulled s.block.pulled := (rd_skip rfl (len_cInt _)).trans ((rd_in (by rw [len_cBlock]; decide)).trans (rd_Block_pulled _))
theorem up_OpS_block_pulled (s : OpS) (x : Pulled) : upd (cOpS s) 1 (cPulled x) 67 = cOpS { s with block := { s.block with pulled := x } } := (up_skip rfl rfl (len_cInt _)).trans (appR ((up_in (by rw [len_cBlock]; decide)).trans (appL (up_Block_pulled _ x))))
theorem rd_OpS_block_pulled_pj (s : OpS) : rd (cOpS s) 1 33 = cCkpt s.block.pulled.pj := (rd_skip rfl (len_cInt _)).trans ((rd_in (by rw [len_cBlock]; decide)).trans (rd_Block_pulled_pj _))
theorem up_OpS_block_pulled_pj (s : OpS) (x : Ckpt) : upd (cOpS s) 1 (cCkpt x) 34 = cOpS { s with block := { s.block with pulled := { s.block.pulled with pj := x } } } := (up_skip rfl rfl (len_cInt _)).trans (appR ((up_in (by rw [len_cBlock]; decide)).trans (appL (up_Block_pulled_pj _ x))))
theorem get_OpS_block_pulled_pj_epoch (s : OpS) : (cOpS s)[1]? = some (.v (.int .u64 s.block.pulled.pj.epoch)) := (get_skip rfl (len_cInt _)).trans ((get_in (by rw [len_cBlock]; decide)).trans (get_Block_pulled_pj_epoch _))
theorem up_OpS_block_pulled_pj_epoch (s : OpS) (x : Int) : upd (cOpS s) 1 ([.v (.int .u64 x)]) 2 = cOpS { s with block := { s.block with pulled := { s.block.pulled with pj := { s.block.pulled.pj with epoch := x } } } } := (up_skip rfl rfl (len_cInt _)).trans (appR ((up_in (by rw [len_cBlock]; decide)).trans (appL (up_Block_pulled_pj_epoch _ x))))
theorem rd_OpS_block_pulled_pj_root (s : OpS) : rd (cOpS s) 2 32 = cRoot s.block.pulled.pj.root := (rd_skip rfl (len_cInt _)).trans ((rd_in (by rw [len_cBlock]; decide)).trans (rd_Block_pulled_pj_root _))
theorem up_OpS_block_pulled_pj_root (s : OpS) (x : Root) : upd (cOpS s) 2 (cRoot x) 34 = cOpS { s with block := { s.block with pulled := { s.block.pulled with pj := { s.block.pulled.pj with root := x } } } } := (up_skip rfl rfl (len_cInt _)).trans (appR ((up_in (by rw [len_cBlock]; decide)).trans (appL (up_Block_pulled_pj_root _ x))))
theorem rd_OpS_block_pulled_pf (s : OpS) : rd (cOpS s) 34 33 = cCkpt s.block.pulled.pf := (rd_skip rfl (len_cInt _)).trans ((rd_in (by rw [len_cBlock]; decide)).trans (rd_Block_pulled_pf _))
theorem up_OpS_block_pulled_pf (s : OpS) (x : Ckpt) : upd (cOpS s) 34 (cCkpt x) 67 = cOpS { s with block := { s.block with pulled := { s.block.pulled with pf := x } } } := (up_skip rfl rfl (len_cInt _)).trans (appR ((up_in (by rw [len_cBlock]; decide)).trans (appL (up_Block_pulled_pf _ x))))
theorem get_OpS_block_pulled_pf_epoch (s : OpS) : (cOpS s)[34]? = some (.v (.int .u64 s.block.pulled.pf.epoch)) := (get_skip rfl (len_cInt _)).trans ((get_in (by rw [len_cBlock]; decide)).trans (get_Block_pulled_pf_epoch _))
theorem up_OpS_block_pulled_pf_epoch (s : OpS) (x : Int) : upd (cOpS s) 34 ([.v (.int .u64 x)]) 35 = cOpS { s with block := { s.block with pulled := { s.block.pulled with pf := { s.block.pulled.pf with epoch := x } } } } := (up_skip rfl rfl (len_cInt _)).trans (appR ((up_in (by rw [len_cBlock]; decide)).trans (appL (up_Block_pulled_pf_epoch _ x))))
theorem rd_OpS_block_pulled_pf_root (s : OpS) : rd (cOpS s) 35 32 = cRoot s.block.pulled.pf.root := (rd_skip rfl (len_cInt _)).trans ((rd_in (by rw [len_cBlock]; decide)).trans (rd_Block_pulled_pf_root _))
theorem up_OpS_block_pulled_pf_root (s : OpS) (x : Root) : upd (cOpS s) 35 (cRoot x) 67 = cOpS { s with block := { s.block with pulled := { s.block.pulled with pf := { s.block.pulled.pf with root := x } } } } := (up_skip rfl rfl (len_cInt _)).trans (appR ((up_in (by rw [len_cBlock]; decide)).trans (appL (up_Block_pulled_pf_root _ x))))
theorem get_OpS_block_slot (s : OpS) : (cOpS s)[67]? = some (.v (.int .u64 s.block.slot)) := (get_skip rfl (len_cInt _)).trans ((get_in (by rw [len_cBlock]; decide)).trans (get_Block_slot _))
theorem up_OpS_block_slot (s : OpS) (x : Int) : upd (cOpS s) 67 ([.v (.int .u64 x)]) 68 = cOpS { s with block := { s.block with slot := x } } := (up_skip rfl rfl (len_cInt _)).trans (appR ((up_in (by rw [len_cBlock]; decide)).trans (appL (up_Block_slot _ x))))
theorem rd_OpS_block_root (s : OpS) : rd (cOpS s) 68 32 = cRoot s.block.root := (rd_skip rfl (len_cInt _)).trans ((rd_in (by rw [len_cBlock]; decide)).trans (rd_Block_root _))
theorem up_OpS_block_root (s : OpS) (x : Root) : upd (cOpS s) 68 (cRoot x) 100 = cOpS { s with block := { s.block with root := x } } := (up_skip rfl rfl (len_cInt _)).trans (appR ((up_in (by rw [len_cBlock]; decide)).trans (appL (up_Block_root _ x))))
theorem rd_OpS_block_parent (s : OpS) : rd (cOpS s) 100 32 = cRoot s.block.parent := (rd_skip rfl (len_cInt _)).trans ((rd_in (by rw [len_cBlock]; decide)).trans (rd_Block_parent _))
theorem up_OpS_block_parent (s : OpS) (x : Root) : upd (cOpS s) 100 (cRoot x) 132 = cOpS { s with block := { s.block with parent := x } } := (up_skip rfl rfl (len_cInt _)).trans (appR ((up_in (by rw [len_cBlock]; decide)).trans (appL (up_Block_parent _ x))))
theorem rd_OpS_block_payload (s : OpS) : rd (cOpS s) 132 32 = cRoot s.block.payload := (rd_skip rfl (len_cInt _)).trans ((rd_in (by rw [len_cBlock]; decide)).trans (rd_Block_payload _))
theorem up_OpS_block_payload (s : OpS) (x : Root) : upd (cOpS s) 132 (cRoot x) 164 = cOpS { s with block := { s.block with payload := x } } := (up_skip rfl rfl (len_cInt _)).trans (appR ((up_in (by rw [len_cBlock]; decide)).trans (appL (up_Block_payload _ x))))
theorem rd_OpS_block_diff (s : OpS) : rd (cOpS s) 164 4 = cWide s.block.diff := (rd_skip rfl (len_cInt _)).trans ((rd_in (by rw [len_cBlock]; decide)).trans (rd_Block_diff _))
theorem up_OpS_block_diff (s : OpS) (x : Wide) : upd (cOpS s) 164 (cWide x) 168 = cOpS { s with block := { s.block with diff := x } } := (up_skip rfl rfl (len_cInt _)).trans (appR ((up_in (by rw [len_cBlock]; decide)).trans (appL (up_Block_diff _ x))))
theorem rd_OpS_block_pdiff (s : OpS) : rd (cOpS s) 168 4 = cWide s.block.pdiff := (rd_skip rfl (len_cInt _)).trans ((rd_in (by rw [len_cBlock]; decide)).trans (rd_Block_pdiff _))
theorem up_OpS_block_pdiff (s : OpS) (x : Wide) : upd (cOpS s) 168 (cWide x) 172 = cOpS { s with block := { s.block with pdiff := x } } := (up_skip rfl rfl (len_cInt _)).trans (appR ((up_in (by rw [len_cBlock]; decide)).trans (appL (up_Block_pdiff _ x))))
theorem rd_OpS_block_just (s : OpS) : rd (cOpS s) 172 33 = cCkpt s.block.just := (rd_skip rfl (len_cInt _)).trans ((rd_in (by rw [len_cBlock]; decide)).trans (rd_Block_just _))
theorem up_OpS_block_just (s : OpS) (x : Ckpt) : upd (cOpS s) 172 (cCkpt x) 205 = cOpS { s with block := { s.block with just := x } } := (up_skip rfl rfl (len_cInt _)).trans (appR ((up_in (by rw [len_cBlock]; decide)).trans (appL (up_Block_just _ x))))
theorem get_OpS_block_just_epoch (s : OpS) : (cOpS s)[172]? = some (.v (.int .u64 s.block.just.epoch)) := (get_skip rfl (len_cInt _)).trans ((get_in (by rw [len_cBlock]; decide)).trans (get_Block_just_epoch _))
theorem up_OpS_block_just_epoch (s : OpS) (x : Int) : upd (cOpS s) 172 ([.v (.int .u64 x)]) 173 = cOpS { s with block := { s.block with just := { s.block.just with epoch := x } } } := (up_skip rfl rfl (len_cInt _)).trans (appR ((up_in (by rw [len_cBlock]; decide)).trans (appL (up_Block_just_epoch _ x))))
theorem rd_OpS_block_just_root (s : OpS) : rd (cOpS s) 173 32 = cRoot s.block.just.root := (rd_skip rfl (len_cInt _)).trans ((rd_in (by rw [len_cBlock]; decide)).trans (rd_Block_just_root _))
theorem up_OpS_block_just_root (s : OpS) (x : Root) : upd (cOpS s) 173 (cRoot x) 205 = cOpS { s with block := { s.block with just := { s.block.just with root := x } } } := (up_skip rfl rfl (len_cInt _)).trans (appR ((up_in (by rw [len_cBlock]; decide)).trans (appL (up_Block_just_root _ x))))
theorem rd_OpS_block_fin (s : OpS) : rd (cOpS s) 205 33 = cCkpt s.block.fin := (rd_skip rfl (len_cInt _)).trans ((rd_in (by rw [len_cBlock]; decide)).trans (rd_Block_fin _))
theorem up_OpS_block_fin (s : OpS) (x : Ckpt) : upd (cOpS s) 205 (cCkpt x) 238 = cOpS { s with block := { s.block with fin := x } } := (up_skip rfl rfl (len_cInt _)).trans (appR ((up_in (by rw [len_cBlock]; decide)).trans (appL (up_Block_fin _ x))))
theorem get_OpS_block_fin_epoch (s : OpS) : (cOpS s)[205]? = some (.v (.int .u64 s.block.fin.epoch)) := (get_skip rfl (len_cInt _)).trans ((get_in (by rw [len_cBlock]; decide)).trans (get_Block_fin_epoch _))
theorem up_OpS_block_fin_epoch (s : OpS) (x : Int) : upd (cOpS s) 205 ([.v (.int .u64 x)]) 206 = cOpS { s with block := { s.block with fin := { s.block.fin with epoch := x } } } := (up_skip rfl rfl (len_cInt _)).trans (appR ((up_in (by rw [len_cBlock]; decide)).trans (appL (up_Block_fin_epoch _ x))))
theorem rd_OpS_block_fin_root (s : OpS) : rd (cOpS s) 206 32 = cRoot s.block.fin.root := (rd_skip rfl (len_cInt _)).trans ((rd_in (by rw [len_cBlock]; decide)).trans (rd_Block_fin_root _))
theorem up_OpS_block_fin_root (s : OpS) (x : Root) : upd (cOpS s) 206 (cRoot x) 238 = cOpS { s with block := { s.block with fin := { s.block.fin with root := x } } } := (up_skip rfl rfl (len_cInt _)).trans (appR ((up_in (by rw [len_cBlock]; decide)).trans (appL (up_Block_fin_root _ x))))
theorem get_OpS_block_timely (s : OpS) : (cOpS s)[238]? = some (.v (.bool s.block.timely)) := (get_skip rfl (len_cInt _)).trans ((get_in (by rw [len_cBlock]; decide)).trans (get_Block_timely _))
theorem up_OpS_block_timely (s : OpS) (x : Bool) : upd (cOpS s) 238 ([.v (.bool x)]) 239 = cOpS { s with block := { s.block with timely := x } } := (up_skip rfl rfl (len_cInt _)).trans (appR ((up_in (by rw [len_cBlock]; decide)).trans (appL (up_Block_timely _ x))))
theorem rd_OpS_att (s : OpS) : rd (cOpS s) 239 67 = cAtt s.att := (rd_skip rfl (len_cInt _)).trans ((rd_skip rfl (len_cBlock _)).trans (rd_head (len_cAtt _)))
theorem up_OpS_att (s : OpS) (x : Att) : upd (cOpS s) 239 (cAtt x) 306 = cOpS { s with att := x } := (up_skip rfl rfl (len_cInt _)).trans (appR ((up_skip rfl rfl (len_cBlock _)).trans (appR (up_head (len_cAtt _)))))
theorem get_OpS_att_slot (s : OpS) : (cOpS s)[239]? = some (.v (.int .u64 s.att.slot)) := (get_skip rfl (len_cInt _)).trans ((get_skip rfl (len_cBlock _)).trans ((get_in (by rw [len_cAtt]; decide)).trans (get_Att_slot _)))
theorem up_OpS_att_slot (s : OpS) (x : Int) : upd (cOpS s) 239 ([.v (.int .u64 x)]) 240 = cOpS { s with att := { s.att with slot := x } } := (up_skip rfl rfl (len_cInt _)).trans (appR ((up_skip rfl rfl (len_cBlock _)).trans (appR ((up_in (by rw [len_cAtt]; decide)).trans (appL (up_Att_slot _ x))))))
theorem rd_OpS_att_root (s : OpS) : rd (cOpS s) 240 32 = cRoot s.att.root := (rd_skip rfl (len_cInt _)).trans ((rd_skip rfl (len_cBlock _)).trans ((rd_in (by rw [len_cAtt]; decide)).trans (rd_Att_root _)))
theorem up_OpS_att_root (s : OpS) (x : Root) : upd (cOpS s) 240 (cRoot x) 272 = cOpS { s with att := { s.att with root := x } } := (up_skip rfl rfl (len_cInt _)).trans (appR ((up_skip rfl rfl (len_cBlock _)).trans (appR ((up_in (by rw [len_cAtt]; decide)).trans (appL (up_Att_root _ x))))))
theorem rd_OpS_att_target (s : OpS) : rd (cOpS s) 272 33 = cCkpt s.att.target := (rd_skip rfl (len_cInt _)).trans ((rd_skip rfl (len_cBlock _)).trans ((rd_in (by rw [len_cAtt]; decide)).trans (rd_Att_target _)))
theorem up_OpS_att_target (s : OpS) (x : Ckpt) : upd (cOpS s) 272 (cCkpt x) 305 = cOpS { s with att := { s.att with target := x } } := (up_skip rfl rfl (len_cInt _)).trans (appR ((up_skip rfl rfl (len_cBlock _)).trans (appR ((up_in (by rw [len_cAtt]; decide)).trans (appL (up_Att_target _ x))))))
theorem get_OpS_att_target_epoch (s : OpS) : (cOpS s)[272]? = some (.v (.int .u64 s.att.target.epoch)) := (get_skip rfl (len_cInt _)).trans ((get_skip rfl (len_cBlock _)).trans ((get_in (by rw [len_cAtt]; decide)).trans (get_Att_target_epoch _)))
theorem up_OpS_att_target_epoch (s : OpS) (x : Int) : upd (cOpS s) 272 ([.v (.int .u64 x)]) 273 = cOpS { s with att := { s.att with target := { s.att.target with epoch := x } } } := (up_skip rfl rfl (len_cInt _)).trans (appR ((up_skip rfl rfl (len_cBlock _)).trans (appR ((up_in (by rw [len_cAtt]; decide)).trans (appL (up_Att_target_epoch _ x))))))
theorem rd_OpS_att_target_root (s : OpS) : rd (cOpS s) 273 32 = cRoot s.att.target.root := (rd_skip rfl (len_cInt _)).trans ((rd_skip rfl (len_cBlock _)).trans ((rd_in (by rw [len_cAtt]; decide)).trans (rd_Att_target_root _)))
theorem up_OpS_att_target_root (s : OpS) (x : Root) : upd (cOpS s) 273 (cRoot x) 305 = cOpS { s with att := { s.att with target := { s.att.target with root := x } } } := (up_skip rfl rfl (len_cInt _)).trans (appR ((up_skip rfl rfl (len_cBlock _)).trans (appR ((up_in (by rw [len_cAtt]; decide)).trans (appL (up_Att_target_root _ x))))))
theorem get_OpS_att_vals (s : OpS) : (cOpS s)[305]? = some (s.att.vals) := (get_skip rfl (len_cInt _)).trans ((get_skip rfl (len_cBlock _)).trans ((get_in (by rw [len_cAtt]; decide)).trans (get_Att_vals _)))
theorem up_OpS_att_vals (s : OpS) (x : AV) : upd (cOpS s) 305 ([x]) 306 = cOpS { s with att := { s.att with vals := x } } := (up_skip rfl rfl (len_cInt _)).trans (appR ((up_skip rfl rfl (len_cBlock _)).trans (appR ((up_in (by rw [len_cAtt]; decide)).trans (appL (up_Att_vals _ x))))))
theorem rd_OpS_slash (s : OpS) : rd (cOpS s) 306 70 = cSlashing s.slash := (rd_skip rfl (len_cInt _)).trans ((rd_skip rfl (len_cBlock _)).trans ((rd_skip rfl (len_cAtt _)).trans (rd_head (len_cSlashing _))))
theorem up_OpS_slash (s : OpS) (x : Slashing) : upd (cOpS s) 306 (cSlashing x) 376 = cOpS { s with slash := x } := (up_skip rfl rfl (len_cInt _)).trans (appR ((up_skip rfl rfl (len_cBlock _)).trans (appR ((up_skip rfl rfl (len_cAtt _)).trans (appR (up_head (len_cSlashing _)))))))
theorem rd_OpS_slash_first (s : OpS) : rd (cOpS s) 306 35 = cClaim s.slash.first := (rd_skip rfl (len_cInt _)).trans ((rd_skip rfl (len_cBlock _)).trans ((rd_skip rfl (len_cAtt _)).trans ((rd_in (by rw [len_cSlashing]; decide)).trans (rd_Slashing_first _))))
theorem up_OpS_slash_first (s : OpS) (x : Claim) : upd (cOpS s) 306 (cClaim x) 341 = cOpS { s with slash := { s.slash with first := x } } := (up_skip rfl rfl (len_cInt _)).trans (appR ((up_skip rfl rfl (len_cBlock _)).trans (appR ((up_skip rfl rfl (len_cAtt _)).trans (appR ((up_in (by rw [len_cSlashing]; decide)).trans (appL (up_Slashing_first _ x))))))))
theorem get_OpS_slash_first_source (s : OpS) : (cOpS s)[306]? = some (.v (.int .u64 s.slash.first.source)) := (get_skip rfl (len_cInt _)).trans ((get_skip rfl (len_cBlock _)).trans ((get_skip rfl (len_cAtt _)).trans ((get_in (by rw [len_cSlashing]; decide)).trans (get_Slashing_first_source _))))
theorem up_OpS_slash_first_source (s : OpS) (x : Int) : upd (cOpS s) 306 ([.v (.int .u64 x)]) 307 = cOpS { s with slash := { s.slash with first := { s.slash.first with source := x } } } := (up_skip rfl rfl (len_cInt _)).trans (appR ((up_skip rfl rfl (len_cBlock _)).trans (appR ((up_skip rfl rfl (len_cAtt _)).trans (appR ((up_in (by rw [len_cSlashing]; decide)).trans (appL (up_Slashing_first_source _ x))))))))
theorem get_OpS_slash_first_target (s : OpS) : (cOpS s)[307]? = some (.v (.int .u64 s.slash.first.target)) := (get_skip rfl (len_cInt _)).trans ((get_skip rfl (len_cBlock _)).trans ((get_skip rfl (len_cAtt _)).trans ((get_in (by rw [len_cSlashing]; decide)).trans (get_Slashing_first_target _))))
theorem up_OpS_slash_first_target (s : OpS) (x : Int) : upd (cOpS s) 307 ([.v (.int .u64 x)]) 308 = cOpS { s with slash := { s.slash with first := { s.slash.first with target := x } } } := (up_skip rfl rfl (len_cInt _)).trans (appR ((up_skip rfl rfl (len_cBlock _)).trans (appR ((up_skip rfl rfl (len_cAtt _)).trans (appR ((up_in (by rw [len_cSlashing]; decide)).trans (appL (up_Slashing_first_target _ x))))))))
theorem rd_OpS_slash_first_root (s : OpS) : rd (cOpS s) 308 32 = cRoot s.slash.first.root := (rd_skip rfl (len_cInt _)).trans ((rd_skip rfl (len_cBlock _)).trans ((rd_skip rfl (len_cAtt _)).trans ((rd_in (by rw [len_cSlashing]; decide)).trans (rd_Slashing_first_root _))))
theorem up_OpS_slash_first_root (s : OpS) (x : Root) : upd (cOpS s) 308 (cRoot x) 340 = cOpS { s with slash := { s.slash with first := { s.slash.first with root := x } } } := (up_skip rfl rfl (len_cInt _)).trans (appR ((up_skip rfl rfl (len_cBlock _)).trans (appR ((up_skip rfl rfl (len_cAtt _)).trans (appR ((up_in (by rw [len_cSlashing]; decide)).trans (appL (up_Slashing_first_root _ x))))))))
theorem get_OpS_slash_first_vals (s : OpS) : (cOpS s)[340]? = some (s.slash.first.vals) := (get_skip rfl (len_cInt _)).trans ((get_skip rfl (len_cBlock _)).trans ((get_skip rfl (len_cAtt _)).trans ((get_in (by rw [len_cSlashing]; decide)).trans (get_Slashing_first_vals _))))
theorem up_OpS_slash_first_vals (s : OpS) (x : AV) : upd (cOpS s) 340 ([x]) 341 = cOpS { s with slash := { s.slash with first := { s.slash.first with vals := x } } } := (up_skip rfl rfl (len_cInt _)).trans (appR ((up_skip rfl rfl (len_cBlock _)).trans (appR ((up_skip rfl rfl (len_cAtt _)).trans (appR ((up_in (by rw [len_cSlashing]; decide)).trans (appL (up_Slashing_first_vals _ x))))))))
theorem rd_OpS_slash_second (s : OpS) : rd (cOpS s) 341 35 = cClaim s.slash.second := (rd_skip rfl (len_cInt _)).trans ((rd_skip rfl (len_cBlock _)).trans ((rd_skip rfl (len_cAtt _)).trans ((rd_in (by rw [len_cSlashing]; decide)).trans (rd_Slashing_second _))))
theorem up_OpS_slash_second (s : OpS) (x : Claim) : upd (cOpS s) 341 (cClaim x) 376 = cOpS { s with slash := { s.slash with second := x } } := (up_skip rfl rfl (len_cInt _)).trans (appR ((up_skip rfl rfl (len_cBlock _)).trans (appR ((up_skip rfl rfl (len_cAtt _)).trans (appR ((up_in (by rw [len_cSlashing]; decide)).trans (appL (up_Slashing_second _ x))))))))
theorem get_OpS_slash_second_source (s : OpS) : (cOpS s)[341]? = some (.v (.int .u64 s.slash.second.source)) := (get_skip rfl (len_cInt _)).trans ((get_skip rfl (len_cBlock _)).trans ((get_skip rfl (len_cAtt _)).trans ((get_in (by rw [len_cSlashing]; decide)).trans (get_Slashing_second_source _))))
theorem up_OpS_slash_second_source (s : OpS) (x : Int) : upd (cOpS s) 341 ([.v (.int .u64 x)]) 342 = cOpS { s with slash := { s.slash with second := { s.slash.second with source := x } } } := (up_skip rfl rfl (len_cInt _)).trans (appR ((up_skip rfl rfl (len_cBlock _)).trans (appR ((up_skip rfl rfl (len_cAtt _)).trans (appR ((up_in (by rw [len_cSlashing]; decide)).trans (appL (up_Slashing_second_source _ x))))))))
theorem get_OpS_slash_second_target (s : OpS) : (cOpS s)[342]? = some (.v (.int .u64 s.slash.second.target)) := (get_skip rfl (len_cInt _)).trans ((get_skip rfl (len_cBlock _)).trans ((get_skip rfl (len_cAtt _)).trans ((get_in (by rw [len_cSlashing]; decide)).trans (get_Slashing_second_target _))))
theorem up_OpS_slash_second_target (s : OpS) (x : Int) : upd (cOpS s) 342 ([.v (.int .u64 x)]) 343 = cOpS { s with slash := { s.slash with second := { s.slash.second with target := x } } } := (up_skip rfl rfl (len_cInt _)).trans (appR ((up_skip rfl rfl (len_cBlock _)).trans (appR ((up_skip rfl rfl (len_cAtt _)).trans (appR ((up_in (by rw [len_cSlashing]; decide)).trans (appL (up_Slashing_second_target _ x))))))))
theorem rd_OpS_slash_second_root (s : OpS) : rd (cOpS s) 343 32 = cRoot s.slash.second.root := (rd_skip rfl (len_cInt _)).trans ((rd_skip rfl (len_cBlock _)).trans ((rd_skip rfl (len_cAtt _)).trans ((rd_in (by rw [len_cSlashing]; decide)).trans (rd_Slashing_second_root _))))
theorem up_OpS_slash_second_root (s : OpS) (x : Root) : upd (cOpS s) 343 (cRoot x) 375 = cOpS { s with slash := { s.slash with second := { s.slash.second with root := x } } } := (up_skip rfl rfl (len_cInt _)).trans (appR ((up_skip rfl rfl (len_cBlock _)).trans (appR ((up_skip rfl rfl (len_cAtt _)).trans (appR ((up_in (by rw [len_cSlashing]; decide)).trans (appL (up_Slashing_second_root _ x))))))))
theorem get_OpS_slash_second_vals (s : OpS) : (cOpS s)[375]? = some (s.slash.second.vals) := (get_skip rfl (len_cInt _)).trans ((get_skip rfl (len_cBlock _)).trans ((get_skip rfl (len_cAtt _)).trans ((get_in (by rw [len_cSlashing]; decide)).trans (get_Slashing_second_vals _))))
theorem up_OpS_slash_second_vals (s : OpS) (x : AV) : upd (cOpS s) 375 ([x]) 376 = cOpS { s with slash := { s.slash with second := { s.slash.second with vals := x } } } := (up_skip rfl rfl (len_cInt _)).trans (appR ((up_skip rfl rfl (len_cBlock _)).trans (appR ((up_skip rfl rfl (len_cAtt _)).trans (appR ((up_in (by rw [len_cSlashing]; decide)).trans (appL (up_Slashing_second_vals _ x))))))))
theorem rd_OpS_table (s : OpS) : rd (cOpS s) 376 34 = cTable s.table := (rd_skip rfl (len_cInt _)).trans ((rd_skip rfl (len_cBlock _)).trans ((rd_skip rfl (len_cAtt _)).trans ((rd_skip rfl (len_cSlashing _)).trans (rd_head (len_cTable _)))))
theorem up_OpS_table (s : OpS) (x : Table) : upd (cOpS s) 376 (cTable x) 410 = cOpS { s with table := x } := (up_skip rfl rfl (len_cInt _)).trans (appR ((up_skip rfl rfl (len_cBlock _)).trans (appR ((up_skip rfl rfl (len_cAtt _)).trans (appR ((up_skip rfl rfl (len_cSlashing _)).trans (appR (up_head (len_cTable _)))))))))
theorem rd_OpS_table_ck (s : OpS) : rd (cOpS s) 376 33 = cCkpt s.table.ck := (rd_skip rfl (len_cInt _)).trans ((rd_skip rfl (len_cBlock _)).trans ((rd_skip rfl (len_cAtt _)).trans ((rd_skip rfl (len_cSlashing _)).trans ((rd_in (by rw [len_cTable]; decide)).trans (rd_Table_ck _)))))
theorem up_OpS_table_ck (s : OpS) (x : Ckpt) : upd (cOpS s) 376 (cCkpt x) 409 = cOpS { s with table := { s.table with ck := x } } := (up_skip rfl rfl (len_cInt _)).trans (appR ((up_skip rfl rfl (len_cBlock _)).trans (appR ((up_skip rfl rfl (len_cAtt _)).trans (appR ((up_skip rfl rfl (len_cSlashing _)).trans (appR ((up_in (by rw [len_cTable]; decide)).trans (appL (up_Table_ck _ x))))))))))
theorem get_OpS_table_ck_epoch (s : OpS) : (cOpS s)[376]? = some (.v (.int .u64 s.table.ck.epoch)) := (get_skip rfl (len_cInt _)).trans ((get_skip rfl (len_cBlock _)).trans ((get_skip rfl (len_cAtt _)).trans ((get_skip rfl (len_cSlashing _)).trans ((get_in (by rw [len_cTable]; decide)).trans (get_Table_ck_epoch _)))))
theorem up_OpS_table_ck_epoch (s : OpS) (x : Int) : upd (cOpS s) 376 ([.v (.int .u64 x)]) 377 = cOpS { s with table := { s.table with ck := { s.table.ck with epoch := x } } } := (up_skip rfl rfl (len_cInt _)).trans (appR ((up_skip rfl rfl (len_cBlock _)).trans (appR ((up_skip rfl rfl (len_cAtt _)).trans (appR ((up_skip rfl rfl (len_cSlashing _)).trans (appR ((up_in (by rw [len_cTable]; decide)).trans (appL (up_Table_ck_epoch _ x))))))))))
theorem rd_OpS_table_ck_root (s : OpS) : rd (cOpS s) 377 32 = cRoot s.table.ck.root := (rd_skip rfl (len_cInt _)).trans ((rd_skip rfl (len_cBlock _)).trans ((rd_skip rfl (len_cAtt _)).trans ((rd_skip rfl (len_cSlashing _)).trans ((rd_in (by rw [len_cTable]; decide)).trans (rd_Table_ck_root _)))))
theorem up_OpS_table_ck_root (s : OpS) (x : Root) : upd (cOpS s) 377 (cRoot x) 409 = cOpS { s with table := { s.table with ck := { s.table.ck with root := x } } } := (up_skip rfl rfl (len_cInt _)).trans (appR ((up_skip rfl rfl (len_cBlock _)).trans (appR ((up_skip rfl rfl (len_cAtt _)).trans (appR ((up_skip rfl rfl (len_cSlashing _)).trans (appR ((up_in (by rw [len_cTable]; decide)).trans (appL (up_Table_ck_root _ x))))))))))
theorem get_OpS_table_bal (s : OpS) : (cOpS s)[409]? = some (s.table.bal) := (get_skip rfl (len_cInt _)).trans ((get_skip rfl (len_cBlock _)).trans ((get_skip rfl (len_cAtt _)).trans ((get_skip rfl (len_cSlashing _)).trans ((get_in (by rw [len_cTable]; decide)).trans (get_Table_bal _)))))
theorem up_OpS_table_bal (s : OpS) (x : AV) : upd (cOpS s) 409 ([x]) 410 = cOpS { s with table := { s.table with bal := x } } := (up_skip rfl rfl (len_cInt _)).trans (appR ((up_skip rfl rfl (len_cBlock _)).trans (appR ((up_skip rfl rfl (len_cAtt _)).trans (appR ((up_skip rfl rfl (len_cSlashing _)).trans (appR ((up_in (by rw [len_cTable]; decide)).trans (appL (up_Table_bal _ x))))))))))
theorem rd_OpS_verdict (s : OpS) : rd (cOpS s) 410 34 = cVerdict s.verdict := (rd_skip rfl (len_cInt _)).trans ((rd_skip rfl (len_cBlock _)).trans ((rd_skip rfl (len_cAtt _)).trans ((rd_skip rfl (len_cSlashing _)).trans ((rd_skip rfl (len_cTable _)).trans (rd_head (len_cVerdict _))))))
theorem up_OpS_verdict (s : OpS) (x : Verdict) : upd (cOpS s) 410 (cVerdict x) 444 = cOpS { s with verdict := x } := (up_skip rfl rfl (len_cInt _)).trans (appR ((up_skip rfl rfl (len_cBlock _)).trans (appR ((up_skip rfl rfl (len_cAtt _)).trans (appR ((up_skip rfl rfl (len_cSlashing _)).trans (appR ((up_skip rfl rfl (len_cTable _)).trans (appR (up_head (len_cVerdict _)))))))))))
theorem rd_OpS_verdict_tagged (s : OpS) : rd (cOpS s) 410 1 = cTagged s.verdict.tagged := (rd_skip rfl (len_cInt _)).trans ((rd_skip rfl (len_cBlock _)).trans ((rd_skip rfl (len_cAtt _)).trans ((rd_skip rfl (len_cSlashing _)).trans ((rd_skip rfl (len_cTable _)).trans ((rd_in (by rw [len_cVerdict]; decide)).trans (rd_Verdict_tagged _))))))
theorem up_OpS_verdict_tagged (s : OpS) (x : Tagged) : upd (cOpS s) 410 (cTagged x) 411 = cOpS { s with verdict := { s.verdict with tagged := x } } := (up_skip rfl rfl (len_cInt _)).trans (appR ((up_skip rfl rfl (len_cBlock _)).trans (appR ((up_skip rfl rfl (len_cAtt _)).trans (appR ((up_skip rfl rfl (len_cSlashing _)).trans (appR ((up_skip rfl rfl (len_cTable _)).trans (appR ((up_in (by rw [len_cVerdict]; decide)).trans (appL (up_Verdict_tagged _ x))))))))))))
theorem get_OpS_verdict_tagged_tag (s : OpS) : (cOpS s)[410]? = some (.v (.int .u64 s.verdict.tagged.tag)) := (get_skip rfl (len_cInt _)).trans ((get_skip rfl (len_cBlock _)).trans ((get_skip rfl (len_cAtt _)).trans ((get_skip rfl (len_cSlashing _)).trans ((get_skip rfl (len_cTable _)).trans ((get_in (by rw [len_cVerdict]; decide)).trans (get_Verdict_tagged_tag _))))))
theorem up_OpS_verdict_tagged_tag (s : OpS) (x : Int) : upd (cOpS s) 410 ([.v (.int .u64 x)]) 411 = cOpS { s with verdict := { s.verdict with tagged := { s.verdict.tagged with tag := x } } } := (up_skip rfl rfl (len_cInt _)).trans (appR ((up_skip rfl rfl (len_cBlock _)).trans (appR ((up_skip rfl rfl (len_cAtt _)).trans (appR ((up_skip rfl rfl (len_cSlashing _)).trans (appR ((up_skip rfl rfl (len_cTable _)).trans (appR ((up_in (by rw [len_cVerdict]; decide)).trans (appL (up_Verdict_tagged_tag _ x))))))))))))
theorem get_OpS_verdict_kind (s : OpS) : (cOpS s)[411]? = some (.v (.int .i64 s.verdict.kind)) := (get_skip rfl (len_cInt _)).trans ((get_skip rfl (len_cBlock _)).trans ((get_skip rfl (len_cAtt _)).trans ((get_skip rfl (len_cSlashing _)).trans ((get_skip rfl (len_cTable _)).trans ((get_in (by rw [len_cVerdict]; decide)).trans (get_Verdict_kind _))))))
theorem up_OpS_verdict_kind (s : OpS) (x : Int) : upd (cOpS s) 411 ([.v (.int .i64 x)]) 412 = cOpS { s with verdict := { s.verdict with kind := x } } := (up_skip rfl rfl (len_cInt _)).trans (appR ((up_skip rfl rfl (len_cBlock _)).trans (appR ((up_skip rfl rfl (len_cAtt _)).trans (appR ((up_skip rfl rfl (len_cSlashing _)).trans (appR ((up_skip rfl rfl (len_cTable _)).trans (appR ((up_in (by rw [len_cVerdict]; decide)).trans (appL (up_Verdict_kind _ x))))))))))))
theorem rd_OpS_verdict_latest (s : OpS) : rd (cOpS s) 412 32 = cRoot s.verdict.latest := (rd_skip rfl (len_cInt _)).trans ((rd_skip rfl (len_cBlock _)).trans ((rd_skip rfl (len_cAtt _)).trans ((rd_skip rfl (len_cSlashing _)).trans ((rd_skip rfl (len_cTable _)).trans ((rd_in (by rw [len_cVerdict]; decide)).trans (rd_Verdict_latest _))))))
theorem up_OpS_verdict_latest (s : OpS) (x : Root) : upd (cOpS s) 412 (cRoot x) 444 = cOpS { s with verdict := { s.verdict with latest := x } } := (up_skip rfl rfl (len_cInt _)).trans (appR ((up_skip rfl rfl (len_cBlock _)).trans (appR ((up_skip rfl rfl (len_cAtt _)).trans (appR ((up_skip rfl rfl (len_cSlashing _)).trans (appR ((up_skip rfl rfl (len_cTable _)).trans (appR ((up_in (by rw [len_cVerdict]; decide)).trans (appL (up_Verdict_latest _ x))))))))))))
theorem get_OpS_write (s : OpS) : (cOpS s)[444]? = some (.v (.int .i64 s.write)) := (get_skip rfl (len_cInt _)).trans ((get_skip rfl (len_cBlock _)).trans ((get_skip rfl (len_cAtt _)).trans ((get_skip rfl (len_cSlashing _)).trans ((get_skip rfl (len_cTable _)).trans ((get_skip rfl (len_cVerdict _)).trans (rfl))))))
theorem up_OpS_write (s : OpS) (x : Int) : upd (cOpS s) 444 ([.v (.int .i64 x)]) 445 = cOpS { s with write := x } := (up_skip rfl rfl (len_cInt _)).trans (appR ((up_skip rfl rfl (len_cBlock _)).trans (appR ((up_skip rfl rfl (len_cAtt _)).trans (appR ((up_skip rfl rfl (len_cSlashing _)).trans (appR ((up_skip rfl rfl (len_cTable _)).trans (appR ((up_skip rfl rfl (len_cVerdict _)).trans (appR (up_head (len_cInt _)))))))))))))
theorem get_OpS_keep (s : OpS) : (cOpS s)[445]? = some (.v (.int .i64 s.keep)) := (get_skip rfl (len_cInt _)).trans ((get_skip rfl (len_cBlock _)).trans ((get_skip rfl (len_cAtt _)).trans ((get_skip rfl (len_cSlashing _)).trans ((get_skip rfl (len_cTable _)).trans ((get_skip rfl (len_cVerdict _)).trans ((get_skip rfl (len_cInt _)).trans (rfl)))))))
theorem up_OpS_keep (s : OpS) (x : Int) : upd (cOpS s) 445 ([.v (.int .i64 x)]) 446 = cOpS { s with keep := x } := (up_skip rfl rfl (len_cInt _)).trans (appR ((up_skip rfl rfl (len_cBlock _)).trans (appR ((up_skip rfl rfl (len_cAtt _)).trans (appR ((up_skip rfl rfl (len_cSlashing _)).trans (appR ((up_skip rfl rfl (len_cTable _)).trans (appR ((up_skip rfl rfl (len_cVerdict _)).trans (appR ((up_skip rfl rfl (len_cInt _)).trans (appR (up_last (len_cInt _)))))))))))))))
def zOpS : OpS := ⟨0, zBlock, zAtt, zSlashing, zTable, zVerdict, 0, 0⟩
def vOpS : List Value := [.int .i64 0] ++ (vBlock ++ (vAtt ++ (vSlashing ++ (vTable ++ (vVerdict ++ ([.int .i64 0] ++ ([.int .i64 0])))))))
theorem vOpS_c : vOpS.map AV.v = cOpS zOpS := by simp only [vOpS, List.map_append, List.map_cons, List.map_nil, vRoot_c, vWide_c, vBlock_c, vAtt_c, vSlashing_c, vTable_c, vVerdict_c]; rfl
theorem exq_OpS (st : St) (s : OpS) : exq st (cOpS s) = bnd (expo1 st s.att.vals) fun x_att_vals => bnd (expo1 st s.slash.first.vals) fun x_slash_first_vals => bnd (expo1 st s.slash.second.vals) fun x_slash_second_vals => bnd (expo1 st s.table.bal) fun x_table_bal => some (cOpS { s with att := { s.att with vals := x_att_vals }, slash := { s.slash with first := { s.slash.first with vals := x_slash_first_vals }, second := { s.slash.second with vals := x_slash_second_vals } }, table := { s.table with bal := x_table_bal } }) := by
  simp only [cOpS, exq_app, exq_flat (flat_cInt _), exq_flat (flat_cBlock _), exq_Att, exq_Slashing, exq_Table, exq_flat (flat_cVerdict _), bnd_assoc, bnd_some]
theorem rd_OpS_all (s : OpS) : rd (cOpS s) 0 446 = cOpS s := rd_last (len_cOpS _)
theorem up_OpS_all (s x : OpS) : upd (cOpS s) 0 (cOpS x) 446 = cOpS x := up_last (len_cOpS _)

def csVote (l : List Vote) : List AV := l.flatMap cVote
@[simp] theorem len_csVote (l : List (Vote)) : (csVote l).length = l.length * 34 := by
  induction l with
  | nil => rfl
  | cons x l ih => simp only [csVote, List.flatMap_cons, List.length_append, len_cVote, List.length_cons] at *; omega
theorem flat_csVote (l : List (Vote)) : ∀ x ∈ csVote l, Flat x := by
  intro x hx
  obtain ⟨y, _, hy⟩ := List.mem_flatMap.1 hx
  exact flat_cVote y x hy
theorem rd_csVote (l : List (Vote)) (i : Nat) (h : i < l.length) : rd (csVote l) (i * 34) 34 = cVote l[i] := rd_flatMap cVote 34 (len_cVote) l i h

def csAtt (l : List Att) : List AV := l.flatMap cAtt
@[simp] theorem len_csAtt (l : List (Att)) : (csAtt l).length = l.length * 67 := by
  induction l with
  | nil => rfl
  | cons x l ih => simp only [csAtt, List.flatMap_cons, List.length_append, len_cAtt, List.length_cons] at *; omega
theorem flat_csAtt (l : List (Att)) (h : ∀ y ∈ l, Flat y.vals) : ∀ x ∈ csAtt l, Flat x := by
  intro x hx
  obtain ⟨y, hm, hy⟩ := List.mem_flatMap.1 hx
  exact flat_cAtt y (h y hm) x hy
theorem rd_csAtt (l : List (Att)) (i : Nat) (h : i < l.length) : rd (csAtt l) (i * 67) 67 = cAtt l[i] := rd_flatMap cAtt 67 (len_cAtt) l i h

def csTable (l : List Table) : List AV := l.flatMap cTable
@[simp] theorem len_csTable (l : List (Table)) : (csTable l).length = l.length * 34 := by
  induction l with
  | nil => rfl
  | cons x l ih => simp only [csTable, List.flatMap_cons, List.length_append, len_cTable, List.length_cons] at *; omega
theorem flat_csTable (l : List (Table)) (h : ∀ y ∈ l, Flat y.bal) : ∀ x ∈ csTable l, Flat x := by
  intro x hx
  obtain ⟨y, hm, hy⟩ := List.mem_flatMap.1 hx
  exact flat_cTable y (h y hm) x hy
theorem rd_csTable (l : List (Table)) (i : Nat) (h : i < l.length) : rd (csTable l) (i * 34) 34 = cTable l[i] := rd_flatMap cTable 34 (len_cTable) l i h

def csRequest (l : List Request) : List AV := l.flatMap cRequest
@[simp] theorem len_csRequest (l : List (Request)) : (csRequest l).length = l.length * 35 := by
  induction l with
  | nil => rfl
  | cons x l ih => simp only [csRequest, List.flatMap_cons, List.length_append, len_cRequest, List.length_cons] at *; omega
theorem flat_csRequest (l : List (Request)) : ∀ x ∈ csRequest l, Flat x := by
  intro x hx
  obtain ⟨y, _, hy⟩ := List.mem_flatMap.1 hx
  exact flat_cRequest y x hy
theorem rd_csRequest (l : List (Request)) (i : Nat) (h : i < l.length) : rd (csRequest l) (i * 35) 35 = cRequest l[i] := rd_flatMap cRequest 35 (len_cRequest) l i h


end Go.Ab
