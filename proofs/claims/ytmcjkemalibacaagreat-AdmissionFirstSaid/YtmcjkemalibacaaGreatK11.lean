/-
  Part 11 of the proof: an evaluator of programs, its soundness, and what functions of this program compute.
-/
import Derived.Test.YtmcjkemalibacaaGreatK10
import Derived.Test.YtmcjkemalibacaaGreatK9
set_option linter.all false
set_option maxRecDepth 20000
set_option maxHeartbeats 40000000
namespace Go.Ab.Tryz
open Classical Go.Proofs Go.Ab
theorem fl_Config (s:Config):Flat (.agg (cConfig s))↔Flat s.bal:=by
 constructor
 ·intro h
  have h:∀ x∈cConfig s,Flat x:=by cases h with | agg _ h=>exact h
  exact h _ (List.mem_of_getElem? (get_Config_bal s))
 ·intro h0
  exact .agg _ (flat_cConfig s h0)
theorem fl_Votes (s:Votes):Flat (.agg (cVotes s))↔Flat s.latest∧Flat s.equiv:=by
 constructor
 ·intro h
  have h:∀ x∈cVotes s,Flat x:=by cases h with | agg _ h=>exact h
  exact⟨h _ (List.mem_of_getElem? (get_Votes_latest s)),h _ (List.mem_of_getElem? (get_Votes_equiv s))⟩
 ·rintro⟨h0,h1⟩
  exact .agg _ (flat_cVotes s h0 h1)
theorem fl_Queues (s:Queues):Flat (.agg (cQueues s))↔Flat s.early∧Flat s.orphans:=by
 constructor
 ·intro h
  have h:∀ x∈cQueues s,Flat x:=by cases h with | agg _ h=>exact h
  exact⟨h _ (List.mem_of_getElem? (get_Queues_early s)),h _ (List.mem_of_getElem? (get_Queues_orphans s))⟩
 ·rintro⟨h0,h1⟩
  exact .agg _ (flat_cQueues s h0 h1)
theorem fl_TreeA (s:TreeA):Flat (.agg (cTreeA s))↔Flat s.nodes:=by
 constructor
 ·intro h
  have h:∀ x∈cTreeA s,Flat x:=by cases h with | agg _ h=>exact h
  exact h _ (List.mem_of_getElem? (get_TreeA_nodes s))
 ·intro h0
  exact .agg _ (flat_cTreeA s h0)
theorem fl_Store (s:Store):Flat (.agg (cStore s))↔Flat s.cFg.bal∧Flat s.votes.latest∧Flat s.votes.equiv∧Flat s.queues.early∧Flat s.queues.orphans∧Flat s.tree.nodes∧Flat s.tables:=by
 constructor
 ·intro h
  have h:∀ x∈cStore s,Flat x:=by cases h with | agg _ h=>exact h
  exact⟨h _ (List.mem_of_getElem? (get_Store_config_bal s)),h _ (List.mem_of_getElem? (get_Store_votes_latest s)),h _ (List.mem_of_getElem? (get_Store_votes_equiv s)),h _ (List.mem_of_getElem? (get_Store_queues_early s)),h _ (List.mem_of_getElem? (get_Store_queues_orphans s)),h _ (List.mem_of_getElem? (get_Store_tree_nodes s)),h _ (List.mem_of_getElem? (get_Store_tables s))⟩
 ·rintro⟨h0,h1,h2,h3,h4,h5,h6⟩
  exact .agg _ (flat_cStore s h0 h1 h2 h3 h4 h5 h6)
theorem fl_State (s:State):Flat (.agg (cState s))↔Flat s.store.cFg.bal∧Flat s.store.votes.latest∧Flat s.store.votes.equiv∧Flat s.store.queues.early∧Flat s.store.queues.orphans∧Flat s.store.tree.nodes∧Flat s.store.tables∧Flat s.requests∧Flat s.retries:=by
 constructor
 ·intro h
  have h:∀ x∈cState s,Flat x:=by cases h with | agg _ h=>exact h
  exact⟨h _ (List.mem_of_getElem? (get_State_store_config_bal s)),h _ (List.mem_of_getElem? (get_State_store_votes_latest s)),h _ (List.mem_of_getElem? (get_State_store_votes_equiv s)),h _ (List.mem_of_getElem? (get_State_store_queues_early s)),h _ (List.mem_of_getElem? (get_State_store_queues_orphans s)),h _ (List.mem_of_getElem? (get_State_store_tree_nodes s)),h _ (List.mem_of_getElem? (get_State_store_tables s)),h _ (List.mem_of_getElem? (get_State_requests s)),h _ (List.mem_of_getElem? (get_State_retries s))⟩
 ·rintro⟨h0,h1,h2,h3,h4,h5,h6,h7,h8⟩
  exact .agg _ (flat_cState s h0 h1 h2 h3 h4 h5 h6 h7 h8)
theorem fl_Att (s:Att):Flat (.agg (cAtt s))↔Flat s.vals:=by
 constructor
 ·intro h
  have h:∀ x∈cAtt s,Flat x:=by cases h with | agg _ h=>exact h
  exact h _ (List.mem_of_getElem? (get_Att_vals s))
 ·intro h0
  exact .agg _ (flat_cAtt s h0)
theorem fl_Claim (s:Claim):Flat (.agg (cClaim s))↔Flat s.vals:=by
 constructor
 ·intro h
  have h:∀ x∈cClaim s,Flat x:=by cases h with | agg _ h=>exact h
  exact h _ (List.mem_of_getElem? (get_Claim_vals s))
 ·intro h0
  exact .agg _ (flat_cClaim s h0)
theorem fl_Slashing (s:Slashing):Flat (.agg (cSlashing s))↔Flat s.first.vals∧Flat s.second.vals:=by
 constructor
 ·intro h
  have h:∀ x∈cSlashing s,Flat x:=by cases h with | agg _ h=>exact h
  exact⟨h _ (List.mem_of_getElem? (get_Slashing_first_vals s)),h _ (List.mem_of_getElem? (get_Slashing_second_vals s))⟩
 ·rintro⟨h0,h1⟩
  exact .agg _ (flat_cSlashing s h0 h1)
theorem fl_Table (s:Table):Flat (.agg (cTable s))↔Flat s.bal:=by
 constructor
 ·intro h
  have h:∀ x∈cTable s,Flat x:=by cases h with | agg _ h=>exact h
  exact h _ (List.mem_of_getElem? (get_Table_bal s))
 ·intro h0
  exact .agg _ (flat_cTable s h0)
theorem fl_OpS (s:OpS):Flat (.agg (cOpS s))↔Flat s.att.vals∧Flat s.slash.first.vals∧Flat s.slash.second.vals∧Flat s.table.bal:=by
 constructor
 ·intro h
  have h:∀ x∈cOpS s,Flat x:=by cases h with | agg _ h=>exact h
  exact⟨h _ (List.mem_of_getElem? (get_OpS_att_vals s)),h _ (List.mem_of_getElem? (get_OpS_slash_first_vals s)),h _ (List.mem_of_getElem? (get_OpS_slash_second_vals s)),h _ (List.mem_of_getElem? (get_OpS_table_bal s))⟩
 ·rintro⟨h0,h1,h2,h3⟩
  exact .agg _ (flat_cOpS s h0 h1 h2 h3)
theorem fl_v (x:Value):Flat (.v x)=True:=eq_true (.v x)
theorem fl_ovU64 (o:Option (List Int)):Flat (ov csU64 o)=True:=eq_true (flat_ovU64 o)
theorem fl_ovInt (o:Option (List Int)):Flat (ov csInt o)=True:=eq_true (flat_ovInt o)
theorem fl_ovVote (o:Option (List Vote)):Flat (ov csVote o)=True:=eq_true (flat_ovVote o)
theorem fl_ovBlock (o:Option (List Block)):Flat (ov csBlock o)=True:=eq_true (flat_ovBlock o)
theorem fl_ovRequest (o:Option (List Request)):Flat (ov csRequest o)=True:=eq_true (flat_ovRequest o)
theorem fl_slU64 (n:Nat) (o:List Int):Flat (.sl n (csU64 o))=True:=eq_true (.sl _ _ (flat_csU64 o))
theorem fl_slInt (n:Nat) (o:List Int):Flat (.sl n (csInt o))=True:=eq_true (.sl _ _ (flat_csInt o))
theorem fl_slVote (n:Nat) (o:List Vote):Flat (.sl n (csVote o))=True:=eq_true (.sl _ _ (flat_csVote o))
theorem fl_slBlock (n:Nat) (o:List Block):Flat (.sl n (csBlock o))=True:=eq_true (.sl _ _ (flat_csBlock o))
theorem fl_slRequest (n:Nat) (o:List Request):Flat (.sl n (csRequest o))=True:=eq_true (.sl _ _ (flat_csRequest o))
theorem fl_slNode (n:Nat) (o:List Node):Flat (.sl n (csNode o))=True:=eq_true (.sl _ _ (flat_csNode o))
theorem fl_root (r:Root):Flat (.agg (cRoot r))=True:=eq_true (flatR r)
theorem fl_block (r:Block):Flat (.agg (cBlock r))=True:=eq_true (flatB r)
theorem fl_wide (r:Wide):Flat (.agg (cWide r))=True:=eq_true (.agg _ (flat_cWide r))
theorem fl_ckpt (r:Ckpt):Flat (.agg (cCkpt r))=True:=eq_true (.agg _ (flat_cCkpt r))
theorem fl_req (r:Request):Flat (.agg (cRequest r))=True:=eq_true (.agg _ (flat_cRequest r))
theorem fl_verdict (r:Verdict):Flat (.agg (cVerdict r))=True:=eq_true (.agg _ (flat_cVerdict r))
theorem fl_pulled (r:Pulled):Flat (.agg (cPulled r))=True:=eq_true (.agg _ (flat_cPulled r))
theorem fl_tree1 (x:AV):Flat (.agg [x])↔Flat x:=by
 constructor
 ·intro h;cases h with | agg _ h=>exact h x (by simp)
 ·intro h;exact .agg _ (by simpa using h)
theorem FLb:(type_of% fl_v)∧(type_of% fl_ovU64)∧(type_of% fl_ovInt)∧(type_of% fl_ovVote)∧(type_of% fl_ovBlock)∧(type_of% fl_ovRequest)∧(type_of% fl_slU64)∧(type_of% fl_slInt)∧(type_of% fl_slVote)∧(type_of% fl_slBlock)∧(type_of% fl_slRequest)∧(type_of% fl_slNode)∧(type_of% fl_root)∧(type_of% fl_block)∧(type_of% fl_wide)∧(type_of% fl_ckpt)∧(type_of% fl_req)∧(type_of% fl_verdict)∧(type_of% fl_pulled)∧(type_of% fl_tree1)∧(type_of% fl_Config)∧(type_of% fl_Votes)∧(type_of% fl_Queues)∧(type_of% fl_TreeA)∧(type_of% fl_Store)∧(type_of% fl_State)∧(type_of% fl_Att)∧(type_of% fl_Claim)∧(type_of% fl_Slashing)∧(type_of% fl_Table)∧(type_of% fl_OpS) :=
 ⟨fl_v,fl_ovU64,fl_ovInt,fl_ovVote,fl_ovBlock,fl_ovRequest,fl_slU64,fl_slInt,fl_slVote,fl_slBlock,fl_slRequest,fl_slNode,fl_root,fl_block,fl_wide,fl_ckpt,fl_req,fl_verdict,fl_pulled,fl_tree1,fl_Config,fl_Votes,fl_Queues,fl_TreeA,fl_Store,fl_State,fl_Att,fl_Claim,fl_Slashing,fl_Table,fl_OpS⟩
structure SV where
 B:Option (List Int)
 L:Option (List Vote)
 Q:Option (List Int)
 E:Option (List Att)
 O:Option (List Block)
 T:Option (List Table)
 ns:List Node
def AttOk (a:Att):Prop:=∃ V:Option (List Int),a.vals=ov csInt V∧((ol V).length:Int) < 1000000
def TabOk (t:Table):Prop:=∃ b:Option (List Int),t.bal=ov csU64 b∧((ol b).length:Int) < 1000000
structure SD (s:Store) (v:SV):Prop where
 bal:s.cFg.bal=ov csU64 v.B
 latest:s.votes.latest=ov csVote v.L
 equiv:s.votes.equiv=ov csInt v.Q
 early:s.queues.early=ov csAtt v.E
 orphans:s.queues.orphans=ov csBlock v.O
 tree:s.tree=⟨.sl v.ns.length (csNode v.ns)⟩
 tables:s.tables=ov csTable v.T
 eV:∀ a∈ol v.E,AttOk a
 tB:∀ t∈ol v.T,TabOk t
 nB:((ol v.B).length:Int) < 1000000
 nL:((ol v.L).length:Int) < 1000000
 nQ:((ol v.Q).length:Int) < 1000000
 nE:((ol v.E).length:Int) < 1000000
 nO:((ol v.O).length:Int) < 1000000
 nT:((ol v.T).length:Int) < 1000000
 nn:(v.ns.length:Int) < 1000000
theorem AttOk.fl {a:Att} (h:AttOk a):Flat a.vals:=by obtain⟨V,h,_⟩:=h;rw[h];exact flat_ovInt V
theorem TabOk.fl {a:Table} (h:TabOk a):Flat a.bal:=by obtain⟨V,h,_⟩:=h;rw[h];exact flat_ovU64 V
theorem SD.fE {s:Store} {v:SV} (h:SD s v):Flat (ov csAtt v.E):=flat_ovAtt v.E fun a ha=>(h.eV a ha).fl
theorem SD.fT {s:Store} {v:SV} (h:SD s v):Flat (ov csTable v.T):=flat_ovTable v.T fun a ha=>(h.tB a ha).fl
theorem SD.flat {s:Store} {v:SV} (h:SD s v):Flat (.agg (cStore s)):=by
 rw[fl_Store,h.bal,h.latest,h.equiv,h.early,h.orphans,h.tree,h.tables]
 exact⟨flat_ovU64 _,flat_ovVote _,flat_ovInt _,h.fE,flat_ovBlock _,.sl _ _ (flat_csNode _),h.fT⟩
theorem c97 {s:Store} {v:SV} (hs:SD s v):callL Tryz.prog 97 [.agg (cStore s)]=some (.v (.int .i64 (ol v.B).length)):=by
 rw[cL Tryz.func97 rfl ok97 rfl]
 simp only[Z8,seval,hs.bal]
 exact xtmp rfl (by simp only[E8,seval]<;>rfl) (.v _)
theorem k97 {s:Store} {v:SV} (hs:SD s v) (st:St) (d:Option Nat):callFn (callL Tryz.prog) 97 [.agg (cStore s)] st d=some { dst:=d,val:=.v (.int .i64 (ol v.B).length)}:=call_flat (flat1 hs.flat) (c97 hs) (.v _)
noncomputable def epV (s:Store) (x:Int):Int:=IntKind.u64.wrap (x.tdiv s.cFg.spe)
theorem c98 (s:Store) (h:s.cFg.spe≠0) (x:Int):callL Tryz.prog 98 [.agg (cStore s),.v (.int .u64 x)]=some (.v (.int .u64 (epV s x))):=by
 rw[cL Tryz.func98 rfl ok98 rfl]
 have h0:(s.cFg.spe=0)=False:=eq_false h
 simp only[Z8,seval,h0]
 exact xtmp rfl (by simp only[E8,seval,epV]<;>rfl) (.v _)
theorem k98 (s:Store) (h:s.cFg.spe≠0) (hf:Flat (.agg (cStore s))) (x:Int) (st:St) (d:Option Nat):callFn (callL Tryz.prog) 98 [.agg (cStore s),.v (.int .u64 x)] st d=some { dst:=d,val:=.v (.int .u64 (epV s x))}:=call_flat (flat2 hf (.v _)) (c98 s h x) (.v _)
noncomputable def stV (s:Store) (e:Int):Int × Int:=sofV e s.cFg.spe
theorem c99 (s:Store) (x:Int):callL Tryz.prog 99 [.agg (cStore s),.v (.int .u64 x)]=some (.tup [.v (.int .u64 (stV s x).1),.v (.bool ((stV s x).2 == 0))]):=by
 rw[cL Tryz.func99 rfl ok99 rfl]
 simp only[Z8,seval,k155,extA]
 exact xtwo rfl rfl rfl (by simp only[E8,seval,stV]<;>rfl) (by simp only[E8,seval,stV]<;>rfl)
theorem k99 (s:Store) (hf:Flat (.agg (cStore s))) (x:Int) (st:St) (d:Option Nat):callFn (callL Tryz.prog) 99 [.agg (cStore s),.v (.int .u64 x)] st d=some { dst:=d,val:=.tup [.v (.int .u64 (stV s x).1),.v (.bool ((stV s x).2 == 0))]}:=call_flat (flat2 hf (.v _)) (c99 s x) (.tup _ (flat2 (.v _) (.v _)))
theorem c251 {s:Store} {v:SV} (hs:SD s v) (i:Int):callL Tryz.prog 251 [.agg (cStore s),.v (.int .i64 i)]=some (.v (.bool (decide (0≤i) && decide (i < v.ns.length)))):=by
 rw[cL Tryz.func251 rfl ok251 rfl]
 by_cases h:0≤i
 all_goals
  simp only[Z8,seval,h,hs.tree,decide_true,decide_false,Bool.true_and,Bool.false_and]
  exact xtmp rfl (by simp only[E8,seval,h,decide_true,decide_false,Bool.true_and,Bool.false_and]<;>rfl) (.v _)
theorem k251 {s:Store} {v:SV} (hs:SD s v) (i:Int) (st:St) (d:Option Nat):callFn (callL Tryz.prog) 251 [.agg (cStore s),.v (.int .i64 i)] st d=some { dst:=d,val:=.v (.bool (decide (0≤i) && decide (i < v.ns.length)))}:=call_flat (flat2 hs.flat (.v _)) (c251 hs i) (.v _)
def OrdB (s:Store) (b:Block):Prop:=b.fin.epoch≤b.just.epoch∧b.just.epoch≤b.pulled.pj.epoch∧b.fin.epoch≤b.pulled.pf.epoch∧b.pulled.pf.epoch≤b.pulled.pj.epoch∧b.pulled.pj.epoch≤epV s b.slot
theorem c137 (s:Store) (h:s.cFg.spe≠0) (hf:Flat (.agg (cStore s))) (b:Block):callL Tryz.prog 137 [.agg (cStore s),.agg (cBlock b)]=some (.v (.bool (decide (OrdB s b)))):=by
 rw[cL Tryz.func137 rfl ok137 rfl]
 have h98:=k98 s h hf
 unfold OrdB
 by_cases h1:b.fin.epoch≤b.just.epoch
 ·by_cases h2:b.just.epoch≤b.pulled.pj.epoch
  ·by_cases h3:b.fin.epoch≤b.pulled.pf.epoch
   ·by_cases h4:b.pulled.pf.epoch≤b.pulled.pj.epoch
    ·simp only[*,true_and,false_and,and_true,and_false,decide_true,decide_false]
     simp only[Z8,seval, *]
     exact xtmp rfl (by simp only[E8,seval, *]<;>rfl) (.v _)
    ·simp only[*,true_and,false_and,and_true,and_false,decide_true,decide_false]
     simp only[Z8,seval, *]
     exact xtmp rfl (by simp only[E8,seval, *]<;>rfl) (.v _)
   ·simp only[*,true_and,false_and,and_true,and_false,decide_true,decide_false]
    simp only[Z8,seval, *]
    exact xtmp rfl (by simp only[E8,seval, *]<;>rfl) (.v _)
  ·simp only[*,true_and,false_and,and_true,and_false,decide_true,decide_false]
   simp only[Z8,seval, *]
   exact xtmp rfl (by simp only[E8,seval, *]<;>rfl) (.v _)
 ·simp only[*,true_and,false_and,and_true,and_false,decide_true,decide_false]
  simp only[Z8,seval, *]
  exact xtmp rfl (by simp only[E8,seval, *]<;>rfl) (.v _)
theorem k137 (s:Store) (h:s.cFg.spe≠0) (hf:Flat (.agg (cStore s))) (b:Block) (st:St) (d:Option Nat):callFn (callL Tryz.prog) 137 [.agg (cStore s),.agg (cBlock b)] st d=some { dst:=d,val:=.v (.bool (decide (OrdB s b)))}:=call_flat (flat2 hf (flatB _)) (c137 s h hf b) (.v _)
noncomputable def earV (s:Store) (ns:List Node) (i e:Int):Prop:=(stV s e).2≠0∨(nd ns i).block.slot≤(stV s e).1
theorem c122 {s:Store} {v:SV} (hs:SD s v) (i e:Int) (i0:0≤i) (i1:i < v.ns.length):callL Tryz.prog 122 [.agg (cStore s),.v (.int .i64 i),.v (.int .u64 e)]=some (.v (.bool (decide (earV s v.ns i e)))):=by
 rw[cL Tryz.func122 rfl ok122 rfl]
 unfold earV
 by_cases h:(stV s e).2=0
 ·have hq:((stV s e).2 == 0)=true:=by simp[h]
  simp only[h,ne_eq,not_true_eq_false,false_or]
  simp only[Z8,seval,k99 s hs.flat,extA,hq,hs.tree,i0,i1]
  exact xtmp rfl (by simp only[E8,seval]<;>rfl) (.v _)
 ·have hq:((stV s e).2 == 0)=false:=by simp[h]
  simp only[h,ne_eq,not_false_eq_true,true_or,decide_true]
  simp only[Z8,seval,k99 s hs.flat,extA,hq,hs.tree,i0,i1]
  exact xtmp rfl (by simp only[E8,seval]<;>rfl) (.v _)
theorem k122 {s:Store} {v:SV} (hs:SD s v) (i e:Int) (i0:0≤i) (i1:i < v.ns.length) (st:St) (d:Option Nat):callFn (callL Tryz.prog) 122 [.agg (cStore s),.v (.int .i64 i),.v (.int .u64 e)] st d=some { dst:=d,val:=.v (.bool (decide (earV s v.ns i e)))}:=call_flat (flat3 hs.flat (.v _) (.v _)) (c122 hs i e i0 i1) (.v _)
theorem w64 (x:Int) (h1:-9223372036854775808≤x) (h2:x≤9223372036854775807):IntKind.i64.wrap x=x:=wrap_i64 x h1 h2
theorem filt_succ {α:Type} (z:α) (p:α→Bool) (l:List α) (k:Nat) (h:k < l.length):(l.take (k+1)).filter p=(l.take k).filter p ++ if p (gx z l k)=true then [gx z l k] else []:=by
 have hg:gx z l k=l[k]:=by simp[gx,h]
 rw[List.take_succ_eq_append_getElem h,List.filter_append,hg]
 congr 1
 by_cases hp:p l[k]=true<;>simp[hp]
noncomputable def fst1 (p:Nat→Prop):Nat→Int
 | 0=>-1
 | k+1=>if 0≤fst1 p k then fst1 p k else if p k then k else -1
theorem fst1_none {p:Nat→Prop}:∀ n:Nat,(∀ j,j < n→¬ p j)→fst1 p n=-1
 | 0,_=>rfl
 | n+1,h=>by
   simp only[fst1]
   rw[fst1_none n fun j hj=>h j (by omega),if_neg (by omega),if_neg (h n (by omega))]
theorem fst1_at {p:Nat→Prop} {k:Nat} (hk:p k) (hj:∀ j,j < k→¬ p j):∀ n:Nat,k < n→fst1 p n=k
 | 0,h=>by omega
 | n+1,h=>by
   simp only[fst1]
   by_cases hkn:k=n
   ·subst hkn
    rw[fst1_none k hj,if_neg (by omega),if_pos hk]
   ·rw[fst1_at hk hj n (by omega),if_pos (by omega)]
theorem fst1_cases (p:Nat→Prop) (n:Nat):(fst1 p n=-1∧∀ j,j < n→¬ p j)∨∃ k:Nat,k < n∧p k∧(∀ j,j < k→¬ p j)∧fst1 p n=k:=by
 by_cases h:∃ k,k < n∧p k
 ·obtain⟨k,⟨hk,hp⟩,hm⟩:=exists_least h
  have hj:∀ j,j < k→¬ p j:=fun j hj hpj=>by have:=hm j ⟨by omega,hpj⟩;omega
  exact .inr ⟨k,hk,hp,hj,fst1_at hp hj n hk⟩
 ·have h':∀ j,j < n→¬ p j:=fun j hj hp=>h ⟨j,hj,hp⟩
  exact .inl ⟨fst1_none n h',h'⟩
theorem fst1_range (p:Nat→Prop) (n:Nat):-1≤fst1 p n∧fst1 p n < n:=by
 rcases fst1_cases p n with ⟨h,_⟩ | ⟨k,hk,_,_,h⟩<;>rw[h]<;>omega
noncomputable def ftV (l:List Table) (c:Ckpt):Int:=fst1 (fun k=>(gx zTable l k).ck=c) l.length
theorem c65 (o:Option (List Table)) (hn:((ol o).length:Int) < 1000000) (c:Ckpt):callL Tryz.prog 65 [ov csTable o,.agg (cCkpt c)]=some (.v (.int .i64 (ftV (ol o) c))):=by
 rw[cL Tryz.func65 rfl ok65 (by cases o<;>rfl)]
 simp only[Z8,seval]
 refine use_loop (fun m st=>∃ k:Nat,(st.env 0=ov csTable o∧st.env 3=.ptr 3 0 0∧st.heap 3 0=some (.cells (cCkpt c))∧st.env 5=.v (.int .i64 k))∧(∀ j:Nat,j < k→¬ ((gx zTable (ol o) (j:Int)).ck=c))∧k≤(ol o).length∧m=(ol o).length - k)
  (fun e st=>(e=.ret∧∃ k:Nat,k < (ol o).length∧((gx zTable (ol o) (k:Int)).ck=c)∧(∀ j:Nat,j < k→¬ ((gx zTable (ol o) (j:Int)).ck=c))∧st.env 4=.v (.int .i64 (k:Nat)))∨(e=.exit 0∧(∀ j:Nat,j < (ol o).length→¬ ((gx zTable (ol o) (j:Int)).ck=c))∧st.env 0=ov csTable o∧st.env 3=.ptr 3 0 0∧st.heap 3 0=some (.cells (cCkpt c)))) ((ol o).length) ?step ?start ?rest
 case step =>
  rintro m st ⟨k,hI,hj,hk,hm⟩
  by_cases hlt:(k:Int) < (ol o).length
  ·have q0:(0:Int)≤k:=by omega
   have hw:IntKind.i64.wrap ((k:Int)+1)=((k+1:Nat):Int):=by rw[w64 _ (by omega) (by omega)];omega
   by_cases hh:(gx zTable (ol o) (k:Int)).ck=c
   ·apply oT (.ret)
    ·simp only[Z8,seval,hI,hlt,q0,hh]
     rfl
    ·exact .inl ⟨rfl,k,by omega,hh,hj,by simp only[E8,seval]⟩
   ·apply oN ((ol o).length - (k+1))
    ·simp only[Z8,seval,hI,hlt,q0,hh,hw]
     rfl
    ·exact⟨k+1,by simp only[E8,seval,hI],fun j h=>(Nat.lt_succ_iff_lt_or_eq.1 h).elim (hj j) fun e=>by subst e;exact hh,by omega,rfl⟩
  ·apply oT (.exit 0)
   ·simp only[Z8,seval,hI,hlt]
    rfl
   ·exact .inr ⟨rfl,fun j h=>hj j (by omega),by simp only[E8,seval,hI]⟩
 case start=>exact⟨0,by simp only[E8,seval]<;>rfl,fun j h=>by omega,by omega,by omega⟩
 case rest =>
  rintro e st (⟨rfl,k,hk,hh,hj,h⟩ | ⟨rfl,hj,h⟩)
  ·have hv:ftV (ol o) c=k:=fst1_at hh hj _ hk
   simp only[Z8,seval]
   exact xtmp rfl (by simp only[E8,seval,h,hv]<;>rfl) (.v _)
  ·have hv:ftV (ol o) c=-1:=fst1_none _ hj
   simp only[Z8,seval]
   exact xtmp rfl (by simp only[E8,seval,h,hv]<;>rfl) (.v _)
theorem k65 (o:Option (List Table)) (hn:((ol o).length:Int) < 1000000) (hf:Flat (ov csTable o)) (c:Ckpt) (st:St) (d:Option Nat):callFn (callL Tryz.prog) 65 [ov csTable o,.agg (cCkpt c)] st d=some { dst:=d,val:=.v (.int .i64 (ftV (ol o) c))}:=call_flat (flat2 hf (.agg _ (flat_cCkpt c))) (c65 o hn c) (.v _)
noncomputable def nz {α:Type} (l:List α):Option (List α):=if l=[] then none else some l
theorem ol_nz {α:Type} (l:List α):ol (nz l)=l:=by unfold nz;split<;>simp[ol, *]
noncomputable def dtL (l:List Table) (x:Int):List Table:=l.filter fun t=>decide (x≤t.ck.epoch)
noncomputable def rowT (e sz:Nat) {α:Type} (c:List α→List AV) (l:List α):AV:=if l=[] then .v (.slice none 0 0) else .uniq e sz l.length (c l)
theorem c128 (o:Option (List Table)) (hn:((ol o).length:Int) < 1000000) (ht:∀ t∈ol o,Flat t.bal) (x:Int):callL Tryz.prog 128 [ov csTable o,.v (.int .u64 x)]=some (rowT 118 34 csTable (dtL (ol o) x)):=by
 rw[cL Tryz.func128 rfl ok128 (by cases o<;>rfl)]
 have hft:∀ l:List Table,(∀ t∈l,t∈ol o)→∀ y∈csTable l,Flat y:=fun l h=>flat_csTable l fun t m=>ht t (h t m)
 simp only[Z8,seval]
 refine use_loop (fun m st=>∃ k:Nat,(st.env 0=ov csTable o∧st.env 1=.v (.int .u64 x)∧st.env 6=.v (.int .i64 k))∧(((((ol o).take k).filter (fun t=>decide (x≤t.ck.epoch)))=[]∧st.env 5=.v (.slice none 0 0))∨((((ol o).take k).filter (fun t=>decide (x≤t.ck.epoch)))≠[]∧∃ g,st.env 5=.own 27 g∧g < st.cnt 27∧st.heap 27 g=some (.row 118 34 (((ol o).take k).filter (fun t=>decide (x≤t.ck.epoch))).length (csTable (((ol o).take k).filter (fun t=>decide (x≤t.ck.epoch)))))))∧k≤(ol o).length∧m=(ol o).length - k)
  (fun e st=>e=.exit 0∧(((((ol o).take (ol o).length).filter (fun t=>decide (x≤t.ck.epoch)))=[]∧st.env 5=.v (.slice none 0 0))∨((((ol o).take (ol o).length).filter (fun t=>decide (x≤t.ck.epoch)))≠[]∧∃ g,st.env 5=.own 27 g∧g < st.cnt 27∧st.heap 27 g=some (.row 118 34 (((ol o).take (ol o).length).filter (fun t=>decide (x≤t.ck.epoch))).length (csTable (((ol o).take (ol o).length).filter (fun t=>decide (x≤t.ck.epoch)))))))∧st.env 0=ov csTable o∧st.env 1=.v (.int .u64 x)) ((ol o).length) ?step ?start ?rest
 case step =>
  rintro m st ⟨k,hI,h5,hk,hm⟩
  have hl':(((((ol o).take k).filter (fun t=>decide (x≤t.ck.epoch))).length:Nat):Int) < 1000000:=by have:=List.length_filter_le (fun t=>decide (x≤t.ck.epoch)) ((ol o).take k);have h2:=List.length_take_le' k (ol o);omega
  by_cases hlt:(k:Int) < (ol o).length
  ·have q0:(0:Int)≤k:=by omega
   have hw:IntKind.i64.wrap ((k:Int)+1)=((k+1:Nat):Int):=by rw[w64 _ (by omega) (by omega)];omega
   have hs:=filt_succ zTable (fun t=>decide (x≤t.ck.epoch)) (ol o) k (by omega)
   have hft1:Flat (.agg (cTable (gx zTable (ol o) (k:Int)))):=(fl_Table _).2 (ht _ (gx_mem q0 hlt))
   by_cases hh:x≤(gx zTable (ol o) (k:Int)).ck.epoch
   ·rw[if_pos (decide_eq_true hh)] at hs
    rcases h5 with ⟨hy,h5⟩ | ⟨hy,g,h5⟩
    ·rw[hy] at hs
     apply oN ((ol o).length - (k+1))
     ·simp only[Z8,seval,hI,h5,hlt,hw,q0,hft1,hh]
      rfl
     ·exact⟨k+1,by simp only[E8,seval,hI],.inr ⟨by rw[hs];simp,_,by simp only[E8,seval]<;>rfl,(by simp only[E8,seval]<;>omega),(by rw[hs];simp only[E8,seval]<;>rfl)⟩,by omega,rfl⟩
    ·apply oN ((ol o).length - (k+1))
     ·simp only[Z8,seval,hI,h5,hl',hlt,hw,q0,hft1,hh]
      rfl
     ·exact⟨k+1,by simp only[E8,seval,hI],.inr ⟨by rw[hs];simp,_,by simp only[E8,seval]<;>rfl,(by simp only[E8,seval]<;>omega),(by rw[hs];simp only[E8,seval]<;>rfl)⟩,by omega,rfl⟩
   ·rw[if_neg (by simpa using hh),List.append_nil] at hs
    apply oN ((ol o).length - (k+1))
    ·simp only[Z8,seval,hI,hlt,hw,q0,hft1,hh]
     rfl
    ·exact⟨k+1,by simp only[E8,seval,hI],by rw[hs];simpa only[E8,seval] using h5,by omega,rfl⟩
  ·have hkn:k=(ol o).length:=by omega
   rw[hkn] at h5
   apply oT (.exit 0)
   ·simp only[Z8,seval,hI,hlt]
    rfl
   ·exact⟨rfl,by simpa only[E8,seval] using h5,by simp only[E8,seval,hI]⟩
 case start=>exact⟨0,by simp only[E8,seval]<;>rfl,.inl ⟨rfl,by simp only[E8,seval]⟩,by omega,by omega⟩
 case rest =>
  rintro e st ⟨rfl,⟨hy,h5⟩ | ⟨hy,g,h5,hg,hh5⟩,hI⟩
  ·rw[List.take_length] at hy
   rw[show rowT 118 34 csTable (dtL (ol o) x)=.v (.slice none 0 0) from if_pos hy]
   simp only[Z8,seval,h5]
   exact xtmp rfl (by simp only[E8,seval]<;>rfl) (.v _)
  ·rw[List.take_length] at hy hh5
   rw[show rowT 118 34 csTable (dtL (ol o) x)=.uniq 118 34 (dtL (ol o) x).length (csTable (dtL (ol o) x)) from if_neg hy]
   simp only[Z8,seval,h5,hh5]
   exact xrow rfl (by simp only[E8,seval];rfl) (by simp only[E8,seval,hh5];rfl) (hft _ fun t m=>(List.mem_filter.1 m).1)
theorem idx_arr {T n sz:Nat} (ha:arrInfo Tryz.prog T=some (n,sz)) (st:St) (x:AV) {k:IntKind} {i:Int} (h0:0≤i) (h1:i < n):indexAddrA Tryz.prog st T x (.v (.int k i))=addOff x (i.toNat * sz):=by
 simp only[indexAddrA,ha]
 rw[if_pos ⟨h0,h1⟩]
theorem idx27a (st:St) (x:AV) {k:IntKind} {i:Int} (h0:0≤i) (h1:i < 32):indexAddrA Tryz.prog st 27 x (.v (.int k i))=addOff x (i.toNat * 1):=idx_arr ar27 st x h0 h1
theorem idx33a (st:St) (x:AV) {k:IntKind} {i:Int} (h0:0≤i) (h1:i < 4):indexAddrA Tryz.prog st 33 x (.v (.int k i))=addOff x (i.toNat * 1):=idx_arr ar33 st x h0 h1
def rb (r:Root) (i:Int):Int:=r.toList.getD i.toNat 0
def wb (r:Wide) (i:Int):Int:=r.toList.getD i.toNat 0
theorem get_cRoot (r:Root) {i:Int} (h0:0≤i) (h1:i < 32):(cRoot r)[i.toNat]? = some (.v (.int .u8 (rb r i))):=by
 have h:i.toNat < r.toList.length:=by simp;omega
 unfold cRoot rb
 rw[List.getElem?_map,List.getElem?_eq_getElem h,List.getD_eq_getElem?_getD,List.getElem?_eq_getElem h]
 rfl
theorem get_cWide (r:Wide) {i:Int} (h0:0≤i) (h1:i < 4):(cWide r)[i.toNat]? = some (.v (.int .u64 (wb r i))):=by
 have h:i.toNat < r.toList.length:=by simp;omega
 unfold cWide wb
 rw[List.getElem?_map,List.getElem?_eq_getElem h,List.getD_eq_getElem?_getD,List.getElem?_eq_getElem h]
 rfl
theorem x176 (a b:Root):∃ c:Int,callL Tryz.prog 176 [.agg (cRoot a),.agg (cRoot b)]=some (.v (.int .i64 c)):=by
 rw[cL Tryz.func176 rfl ok176 rfl]
 suffices h:∃ r,bnd (evL Tryz.prog _ (St.init [.agg (cRoot a),.agg (cRoot b)])) (endL Tryz.prog 176 Tryz.f176)=some r∧∃ c:Int,r=.v (.int .i64 c) by
  obtain⟨r,h,c,rfl⟩:=h;exact⟨c,h⟩
 simp only[Z8,seval]
 refine use_loopX (fun m st=>∃ k:Nat,(st.env 2=.ptr 2 0 0∧st.heap 2 0=some (.cells (cRoot a))∧st.env 3=.ptr 3 0 0∧st.heap 3 0=some (.cells (cRoot b))∧st.env 5=.v (.int .i64 k))∧k≤32∧m=32 - k)
  (fun e st=>(e=.ret∧∃ c:Int,st.env 4=.v (.int .i64 c))∨e=.exit 0) 32 ?step ?start ?rest
 case step =>
  rintro m st ⟨k,hI,hk,hm⟩
  by_cases hlt:(k:Int) < 32
  ·have q0:(0:Int)≤k:=by omega
   have hw:IntKind.i64.wrap ((k:Int)+1)=((k+1:Nat):Int):=by rw[w64 _ (by omega) (by omega)];omega
   have ga:=get_cRoot a q0 hlt
   have gb:=get_cRoot b q0 hlt
   by_cases h1:rb a k < rb b k
   ·apply oT (.ret)
    ·simp only[Z8,seval,hI,hlt,q0,idx27a,ga,gb,h1]
     rfl
    ·exact .inl ⟨rfl,-1,by simp only[E8,seval]⟩
   ·by_cases h2:rb b k < rb a k
    ·apply oT (.ret)
     ·simp only[Z8,seval,hI,hlt,q0,idx27a,ga,gb,h1,h2]
      rfl
     ·exact .inl ⟨rfl,1,by simp only[E8,seval]⟩
    ·apply oN (32 - (k+1))
     ·simp only[Z8,seval,hI,hlt,q0,idx27a,ga,gb,h1,h2,hw]
      rfl
     ·exact⟨k+1,by simp only[E8,seval,hI],by omega,rfl⟩
  ·apply oT (.exit 0)
   ·simp only[Z8,seval,hI,hlt]
    rfl
   ·exact .inr rfl
 case start=>exact⟨0,by simp only[E8,seval]<;>rfl,by omega,by omega⟩
 case rest =>
  rintro e st (⟨rfl,c,h⟩ | rfl)
  ·simp only[Z8,seval]
   exact⟨_,xtmp rfl h (.v _),c,rfl⟩
  ·simp only[Z8,seval]
   exact⟨_,xtmp rfl (by simp only[E8,seval]<;>rfl) (.v _),0,rfl⟩
noncomputable def cmpR (a b:Root):Int:=Classical.choose (x176 a b)
theorem k176 (a b:Root) (st:St) (d:Option Nat):callFn (callL Tryz.prog) 176 [.agg (cRoot a),.agg (cRoot b)] st d=some { dst:=d,val:=.v (.int .i64 (cmpR a b))}:=call_flat (flat2 (flatR a) (flatR b)) (Classical.choose_spec (x176 a b)) (.v _)
theorem x170 (a b:Wide):∃ c:Int,callL Tryz.prog 170 [.agg (cWide a),.agg (cWide b)]=some (.v (.int .i64 c)):=by
 rw[cL Tryz.func170 rfl ok170 rfl]
 suffices h:∃ r,bnd (evL Tryz.prog _ (St.init [.agg (cWide a),.agg (cWide b)])) (endL Tryz.prog 170 Tryz.f170)=some r∧∃ c:Int,r=.v (.int .i64 c) by
  obtain⟨r,h,c,rfl⟩:=h;exact⟨c,h⟩
 simp only[Z8,seval]
 refine use_loopX (fun m st=>∃ k:Nat,(st.env 2=.ptr 2 0 0∧st.heap 2 0=some (.cells (cWide a))∧st.env 3=.ptr 3 0 0∧st.heap 3 0=some (.cells (cWide b))∧st.env 5=.v (.int .i64 ((k:Int) - 1)))∧k≤4∧m=k)
  (fun e st=>(e=.ret∧∃ c:Int,st.env 4=.v (.int .i64 c))∨e=.exit 0) 4 ?step ?start ?rest
 case step =>
  rintro m st ⟨k,hI,hk,hm⟩
  by_cases hlt:(0:Int)≤(k:Int) - 1
  ·have q1:(k:Int) - 1 < 4:=by omega
   have hw:IntKind.i64.wrap ((k:Int) - 1 - 1)=((k - 1:Nat):Int) - 1:=by rw[w64 _ (by omega) (by omega)];omega
   have ga:=get_cWide a hlt q1
   have gb:=get_cWide b hlt q1
   by_cases h1:wb a ((k:Int) - 1) < wb b ((k:Int) - 1)
   ·apply oT (.ret)
    ·simp only[Z8,seval,hI,hlt,q1,idx33a,ga,gb,h1]
     rfl
    ·exact .inl ⟨rfl,-1,by simp only[E8,seval]⟩
   ·by_cases h2:wb b ((k:Int) - 1) < wb a ((k:Int) - 1)
    ·apply oT (.ret)
     ·simp only[Z8,seval,hI,hlt,q1,idx33a,ga,gb,h1,h2]
      rfl
     ·exact .inl ⟨rfl,1,by simp only[E8,seval]⟩
    ·apply oN (k - 1)
     ·simp only[Z8,seval,hI,hlt,q1,idx33a,ga,gb,h1,h2,hw]
      rfl
     ·exact⟨k - 1,by simp only[E8,seval,hI],by omega,rfl⟩
  ·apply oT (.exit 0)
   ·simp only[Z8,seval,hI,hlt]
    rfl
   ·exact .inr rfl
 case start=>exact⟨4,by simp only[E8,seval]<;>rfl,by omega,by omega⟩
 case rest =>
  rintro e st (⟨rfl,c,h⟩ | rfl)
  ·simp only[Z8,seval]
   exact⟨_,xtmp rfl h (.v _),c,rfl⟩
  ·simp only[Z8,seval]
   exact⟨_,xtmp rfl (by simp only[E8,seval]<;>rfl) (.v _),0,rfl⟩
noncomputable def cmpW (a b:Wide):Int:=Classical.choose (x170 a b)
theorem k170 (a b:Wide) (st:St) (d:Option Nat):callFn (callL Tryz.prog) 170 [.agg (cWide a),.agg (cWide b)] st d=some { dst:=d,val:=.v (.int .i64 (cmpW a b))}:=call_flat (flat2 (.agg _ (flat_cWide a)) (.agg _ (flat_cWide b))) (Classical.choose_spec (x170 a b)) (.v _)
theorem c169 (p b:Block):callL Tryz.prog 169 [.agg (cBlock p),.agg (cBlock b)]=some (.v (.bool (!decide (b.payload=zRoot) && decide (p.payload=zRoot)))):=by
 rw[cL Tryz.func169 rfl ok169 rfl]
 by_cases h:b.payload=zRoot
 all_goals
  simp only[h,decide_true,decide_false,Bool.not_true,Bool.not_false,Bool.true_and,Bool.false_and]
  simp only[Z8,seval,h,decide_true,decide_false]
  exact xtmp rfl (by simp only[E8,seval]<;>rfl) (.v _)
theorem k169 (p b:Block) (st:St) (d:Option Nat):callFn (callL Tryz.prog) 169 [.agg (cBlock p),.agg (cBlock b)] st d=some { dst:=d,val:=.v (.bool (!decide (b.payload=zRoot) && decide (p.payload=zRoot)))}:=call_flat (flat2 (flatB p) (flatB b)) (c169 p b) (.v _)
def MFit (ttd:Wide) (p b:Block):Prop:=(b.payload=zRoot→p.payload=zRoot)∧(b.payload≠zRoot→p.payload=zRoot→cmpW b.pdiff ttd < 0∧0≤cmpW b.diff ttd)
theorem c114 (ttd:Wide) (p b:Block):callL Tryz.prog 114 [.agg (cWide ttd),.agg (cBlock p),.agg (cBlock b)]=some (.v (.bool (decide (MFit ttd p b)))):=by
 rw[cL Tryz.func114 rfl ok114 rfl]
 unfold MFit
 by_cases h:b.payload=zRoot
 ·simp only[h,forall_const,ne_eq,not_true_eq_false,false_implies,and_true]
  simp only[Z8,seval,h,decide_true]
  exact xtmp rfl (by simp only[E8,seval]<;>rfl) (.v _)
 ·by_cases hp:p.payload=zRoot
  ·simp only[h,hp,ne_eq,not_false_eq_true,forall_const,false_implies,true_and]
   by_cases h1:cmpW b.pdiff ttd < 0
   ·simp only[h1,true_and]
    simp only[Z8,seval,h,hp,k169,k170,h1,decide_true,decide_false,Bool.not_false,Bool.true_and]
    exact xtmp rfl (by simp only[E8,seval]<;>rfl) (.v _)
   ·simp only[h1,false_and,decide_false]
    simp only[Z8,seval,h,hp,k169,k170,h1,decide_true,decide_false,Bool.not_false,Bool.true_and]
    exact xtmp rfl (by simp only[E8,seval]<;>rfl) (.v _)
  ·simp only[h,hp,ne_eq,not_false_eq_true,forall_const,false_implies,and_self,decide_true]
   simp only[Z8,seval,h,hp,k169,decide_false,Bool.not_false,Bool.true_and]
   exact xtmp rfl (by simp only[E8,seval]<;>rfl) (.v _)
theorem k114 (ttd:Wide) (p b:Block) (st:St) (d:Option Nat):callFn (callL Tryz.prog) 114 [.agg (cWide ttd),.agg (cBlock p),.agg (cBlock b)] st d=some { dst:=d,val:=.v (.bool (decide (MFit ttd p b)))}:=call_flat (flat3 (.agg _ (flat_cWide ttd)) (flatB p) (flatB b)) (c114 ttd p b) (.v _)
noncomputable def sofB (b:Block):Int:=if b.payload=zRoot then 1 else 0
theorem c233 (b:Block):callL Tryz.prog 233 [.agg (cBlock b)]=some (.v (.int .i64 (sofB b))):=by
 rw[cL Tryz.func233 rfl ok233 rfl]
 unfold sofB
 by_cases h:b.payload=zRoot
 ·simp only[h,if_true]
  simp only[Z8,seval,h,decide_true]
  exact xtmp rfl (by simp only[E8,seval]<;>rfl) (.v _)
 ·simp only[h,if_false]
  simp only[Z8,seval,h,decide_false]
  exact xtmp rfl (by simp only[E8,seval]<;>rfl) (.v _)
theorem k233 (b:Block) (st:St) (d:Option Nat):callFn (callL Tryz.prog) 233 [.agg (cBlock b)] st d=some { dst:=d,val:=.v (.int .i64 (sofB b))}:=call_flat (flat1 (flatB b)) (c233 b) (.v _)
theorem kx {g:Nat} {args:List AV} {r:AV} (h:callL Tryz.prog g args=some r) (hf:∀ x∈args,Flat x) (hr:Flat r):∀ (st:St) (d:Option Nat),callFn (callL Tryz.prog) g args st d=some { dst:=d,val:=r }:=fun st d=>call_flat hf h hr
theorem bf {x y:Int} (h:¬ x=y):(x == y)=false∧(x != y)=true:=by simp[h]
theorem bt {x y:Int} (h:x=y):(x == y)=true∧(x != y)=false:=by simp[h]
def badV (l:List Int) (n:Int) (k:Nat):Prop:=gx (0:Int) l k < 0∨n≤gx (0:Int) l k∨(0 < k∧gx (0:Int) l k≤gx (0:Int) l ((k:Int) - 1))
noncomputable def vlV (l:List Int) (n:Int):Int:=if l=[] then 2 else if fst1 (badV l n) l.length < 0 then 0 else if gx (0:Int) l (fst1 (badV l n) l.length) < 0∨n≤gx (0:Int) l (fst1 (badV l n) l.length) then 3 else 8
theorem c40 (o:Option (List Int)) (hn:((ol o).length:Int) < 1000000) (n:Int):callL Tryz.prog 40 [ov csInt o,.v (.int .i64 n)]=some (.v (.int .i64 (vlV (ol o) n))):=by
 rw[cL Tryz.func40 rfl ok40 (by cases o<;>rfl)]
 refine ex_eq ?_
 by_cases h0:ol o=[]
 ·have hv:vlV (ol o) n=2:=if_pos h0
  have hl:(ol o).length=0:=by rw[h0];rfl
  simp only[Z8,seval,hl]
  exact⟨_,xtmp rfl (by simp only[E8,seval,hv]<;>rfl) (by first | exact .v _ | simp only[FLb,hv]),rfl⟩
 have hl:=bf (x:=((ol o).length:Int)) (y:=0) (by have:=List.length_pos_iff.2 h0;omega)
 simp only[Z8,seval,hl]
 refine use_loopX (fun m st=>∃ k:Nat,(st.env 0=ov csInt o∧st.env 1=.v (.int .i64 n)∧st.env 5=.v (.int .i64 k))∧(∀ j:Nat,j < k→¬ badV (ol o) n j)∧k≤(ol o).length∧m=(ol o).length - k)
  (fun e st=>(e=.ret∧∃ k:Nat,k < (ol o).length∧badV (ol o) n k∧(∀ j:Nat,j < k→¬ badV (ol o) n j)∧st.env 4=.v (.int .i64 (if gx (0:Int) (ol o) k < 0∨n≤gx (0:Int) (ol o) k then 3 else 8)))∨(e=.exit 0∧∀ j:Nat,j < (ol o).length→¬ badV (ol o) n j)) (ol o).length ?step ?start ?rest
 case step =>
  rintro m st ⟨k,hI,hj,hk,hm⟩
  by_cases hlt:(k:Int) < (ol o).length
  ·have q0:(0:Int)≤k:=by omega
   have hw:IntKind.i64.wrap ((k:Int)+1)=((k+1:Nat):Int):=by rw[w64 _ (by omega) (by omega)];omega
   by_cases h1:gx (0:Int) (ol o) k < 0
   ·apply oT (.ret)
    ·simp only[Z8,seval,hI,hlt,q0,h1]
     rfl
    ·exact .inl ⟨rfl,k,by omega,.inl h1,hj,by simp only[E8,seval,h1,true_or]⟩
   by_cases h2:n≤gx (0:Int) (ol o) k
   ·apply oT (.ret)
    ·simp only[Z8,seval,hI,hlt,q0,h1,h2]
     rfl
    ·exact .inl ⟨rfl,k,by omega,.inr (.inl h2),hj,by simp only[E8,seval,h2,or_true]⟩
   by_cases h3:(0:Int) < k
   ·have q1:(0:Int)≤(k:Int) - 1:=by omega
    have q2:(k:Int) - 1 < (ol o).length:=by omega
    have hw1:IntKind.i64.wrap ((k:Int) - 1)=(k:Int) - 1:=by rw[w64 _ (by omega) (by omega)]
    by_cases h4:gx (0:Int) (ol o) k≤gx (0:Int) (ol o) ((k:Int) - 1)
    ·apply oT (.ret)
     ·simp only[Z8,seval,hI,hlt,q0,q1,q2,hw1,h1,h2,h3,h4]
      rfl
     ·exact .inl ⟨rfl,k,by omega,.inr (.inr ⟨by omega,h4⟩),hj,by simp only[E8,seval,h1,h2,or_self]⟩
    ·apply oN ((ol o).length - (k+1))
     ·simp only[Z8,seval,hI,hlt,q0,q1,q2,hw1,h1,h2,h3,h4,hw]
      rfl
     ·exact⟨k+1,by simp only[E8,seval,hI],fun j h=>(Nat.lt_succ_iff_lt_or_eq.1 h).elim (hj j) fun e=>by subst e;unfold badV;simp only[h1,h2,h4,and_false,or_self,not_false_eq_true],by omega,rfl⟩
   ·have h5:¬ (0 < k):=by omega
    apply oN ((ol o).length - (k+1))
    ·simp only[Z8,seval,hI,hlt,q0,h1,h2,h3,hw]
     rfl
    ·exact⟨k+1,by simp only[E8,seval,hI],fun j h=>(Nat.lt_succ_iff_lt_or_eq.1 h).elim (hj j) fun e=>by subst e;unfold badV;simp only[h1,h2,h5,false_and,or_self,not_false_eq_true],by omega,rfl⟩
  ·apply oT (.exit 0)
   ·simp only[Z8,seval,hI,hlt]
    rfl
   ·exact .inr ⟨rfl,fun j h=>hj j (by omega)⟩
 case start=>exact⟨0,by simp only[E8,seval]<;>rfl,fun j h=>by omega,by omega,by omega⟩
 case rest =>
  rintro e st (⟨rfl,k,hk,hh,hj,h⟩ | ⟨rfl,hj⟩)
  ·have hv:vlV (ol o) n=if gx (0:Int) (ol o) k < 0∨n≤gx (0:Int) (ol o) k then 3 else 8:=by
    unfold vlV
    rw[if_neg h0,fst1_at hh hj _ hk,if_neg (by omega)]
   rw[← hv] at h
   simp only[Z8,seval]
   exact⟨_,xtmp rfl (by simp only[E8,seval,h]<;>rfl) (by first | exact .v _ | simp only[FLb,h]),rfl⟩
  ·have hv:vlV (ol o) n=0:=by
    unfold vlV
    rw[if_neg h0,fst1_none _ hj,if_pos (by omega)]
   simp only[Z8,seval]
   exact⟨_,xtmp rfl (by simp only[E8,seval,hv]<;>rfl) (by first | exact .v _ | simp only[FLb,hv]),rfl⟩
theorem addV_ne (a b:Int):(addV a b).2≠21:=by unfold addV;split<;>simp
theorem vlV_ne (l:List Int) (n:Int):vlV l n≠21:=by unfold vlV;split;simp;split;simp;split<;>simp
theorem x175 (o:Option (List Int)) (hn:((ol o).length:Int) < 1000000):∃ r,callL Tryz.prog 175 [ov csU64 o]=some r∧∃ a e:Int,r=.tup [.v (.int .u64 a),.v (.int .i64 e)]∧e≠21:=by
 rw[cL Tryz.func175 rfl ok175 (by cases o<;>rfl)]
 simp only[Z8,seval]
 refine use_loopX (fun m st=>∃ (k:Nat) (a:Int),(st.env 0=ov csU64 o∧st.env 4=.v (.int .u64 a)∧st.env 5=.v (.int .i64 k))∧k≤(ol o).length∧m=(ol o).length - k)
  (fun e st=>(e=.ret∧∃ a e:Int,st.env 2=.v (.int .u64 a)∧st.env 3=.v (.int .i64 e)∧e≠21)∨(e=.exit 0∧∃ a:Int,st.env 4=.v (.int .u64 a))) (ol o).length ?step ?start ?rest
 case step =>
  rintro m st ⟨k,a,hI,hk,hm⟩
  by_cases hlt:(k:Int) < (ol o).length
  ·have q0:(0:Int)≤k:=by omega
   have hw:IntKind.i64.wrap ((k:Int)+1)=((k+1:Nat):Int):=by rw[w64 _ (by omega) (by omega)];omega
   by_cases h1:(addV a (gx (0:Int) (ol o) k)).2=0
   ·apply oN ((ol o).length - (k+1))
    ·simp only[Z8,seval,hI,hlt,q0,k196,extA,h1,hw]
     rfl
    ·exact⟨k+1,_,by simp only[E8,seval,hI]<;>rfl,by omega,rfl⟩
   ·apply oT (.ret)
    ·simp only[Z8,seval,hI,hlt,q0,k196,extA,bf h1]
     rfl
    ·exact .inl ⟨rfl,_,_,by simp only[E8,seval]<;>rfl,by simp only[E8,seval]<;>rfl,addV_ne _ _⟩
  ·apply oT (.exit 0)
   ·simp only[Z8,seval,hI,hlt]
    rfl
   ·exact .inr ⟨rfl,a,by simp only[E8,seval,hI]⟩
 case start=>exact⟨0,0,by simp only[E8,seval]<;>exact⟨rfl,rfl⟩,by omega,by omega⟩
 case rest =>
  rintro e st (⟨rfl,a,e,h,h',hne⟩ | ⟨rfl,a,h⟩)
  ·simp only[Z8,seval]
   exact⟨_,xtwo rfl rfl rfl (by simp only[E8,seval,h,h']<;>rfl) (by simp only[E8,seval,h,h']<;>rfl),_,_,rfl,hne⟩
  ·simp only[Z8,seval,h]
   exact⟨_,xtwo rfl rfl rfl (by simp only[E8,seval,h]<;>rfl) (by simp only[E8,seval,h]<;>rfl),_,_,rfl,by decide⟩
theorem x130' (t:Table) (b:Option (List Int)) (hb:t.bal=ov csU64 b) (hl:((ol b).length:Int) < 1000000) (n:Int):∃ r,callL Tryz.prog 130 [.agg (cTable t),.v (.int .i64 n)]=some r∧∃ e:Int,r=.v (.int .i64 e)∧e≠21∧(e=0→((ol b).length:Int)=n):=by
 obtain⟨r,hr,a,e,rfl,he⟩:=x175 b hl
 have k175:=kx hr (flat1 (flat_ovU64 b)) (.tup _ (flat2 (.v _) (.v _)))
 rw[cL Tryz.func130 rfl ok130 rfl]
 by_cases h1:((ol b).length:Int)=n
 ·by_cases h2:e=0
  ·by_cases h3:4611686018427387904 < a
   all_goals
    simp only[Z8,seval,hb,bt h1,bt h2,h3,k175,extA]
    exact⟨_,xtmp rfl (by simp only[E8,seval]<;>rfl) (by first | exact .v _ | simp only[FLb]),_,rfl,by decide,fun _=>h1⟩
  ·simp only[Z8,seval,hb,bt h1,bf h2,k175,extA]
   exact⟨_,xtmp rfl (by simp only[E8,seval]<;>rfl) (by first | exact .v _ | simp only[FLb]),_,rfl,by decide,fun _=>h1⟩
 ·simp only[Z8,seval,hb,bf h1]
  exact⟨_,xtmp rfl (by simp only[E8,seval]<;>rfl) (by first | exact .v _ | simp only[FLb]),_,rfl,by decide,fun h=>by cases h⟩
theorem x130 (t:Table) (ht:TabOk t) (n:Int):∃ r,callL Tryz.prog 130 [.agg (cTable t),.v (.int .i64 n)]=some r∧∃ e:Int,r=.v (.int .i64 e)∧e≠21:=by
 obtain⟨b,hb,hl⟩:=ht
 obtain⟨r,hr,e,h1,h2,_⟩:=x130' t b hb hl n
 exact⟨r,hr,e,h1,h2⟩
theorem x131 (a b:Ckpt):∃ r,callL Tryz.prog 131 [.agg (cCkpt a),.agg (cCkpt b)]=some r∧∃ e:Int,r=.v (.int .i64 e):=by
 rw[cL Tryz.func131 rfl ok131 rfl]
 by_cases h1:a.epoch=b.epoch
 ·simp only[Z8,seval,bt h1,k176]
  exact⟨_,xtmp rfl (by simp only[E8,seval]<;>rfl) (by first | exact .v _ | simp only[FLb]),_,rfl⟩
 ·by_cases h2:a.epoch < b.epoch
  all_goals
   simp only[Z8,seval,bf h1,h2]
   exact⟨_,xtmp rfl (by simp only[E8,seval]<;>rfl) (by first | exact .v _ | simp only[FLb]),_,rfl⟩
noncomputable def cmpC (a b:Ckpt):Int:=Classical.choose (Classical.choose_spec (x131 a b)).2
theorem k131 (a b:Ckpt) (st:St) (d:Option Nat):callFn (callL Tryz.prog) 131 [.agg (cCkpt a),.agg (cCkpt b)] st d=some { dst:=d,val:=.v (.int .i64 (cmpC a b))}:=by
 have h:=(Classical.choose_spec (x131 a b)).1
 rw[Classical.choose_spec (Classical.choose_spec (x131 a b)).2] at h
 exact call_flat (flat2 (.agg _ (flat_cCkpt a)) (.agg _ (flat_cCkpt b))) h (.v _)
def KnB (v:SV) (r:Root):Prop:=(∃ j:Nat,j < (ol v.O).length∧(gx zBlock (ol v.O) j).root=r)∨0≤findR v.ns r
theorem c54 {s:Store} {v:SV} (hs:SD s v) (r:Root):callL Tryz.prog 54 [.agg (cStore s),.agg (cRoot r)]=some (.v (.bool (decide (KnB v r)))):=by
 have hn:=hs.nO
 rw[cL Tryz.func54 rfl ok54 rfl]
 refine ex_eq ?_
 simp only[Z8,seval,hs.orphans]
 refine use_loopX (fun m st=>∃ k:Nat,(st.env 2=.ptr 2 0 0∧st.heap 2 0=some (.cells (cStore s))∧st.env 3=.ptr 3 0 0∧st.heap 3 0=some (.cells (cRoot r))∧st.env 5=.v (.int .i64 k))∧(∀ j:Nat,j < k→¬ ((gx zBlock (ol v.O) (j:Int)).root=r))∧k≤(ol v.O).length∧m=(ol v.O).length - k)
  (fun e st=>(e=.ret∧∃ k:Nat,k < (ol v.O).length∧((gx zBlock (ol v.O) (k:Int)).root=r)∧(∀ j:Nat,j < k→¬ ((gx zBlock (ol v.O) (j:Int)).root=r))∧st.env 4=.v (.bool true))∨(e=.exit 0∧(∀ j:Nat,j < (ol v.O).length→¬ ((gx zBlock (ol v.O) (j:Int)).root=r))∧st.env 2=.ptr 2 0 0∧st.heap 2 0=some (.cells (cStore s))∧st.env 3=.ptr 3 0 0∧st.heap 3 0=some (.cells (cRoot r)))) ((ol v.O).length) ?step ?start ?rest
 case step =>
  rintro m st ⟨k,hI,hj,hk,hm⟩
  by_cases hlt:(k:Int) < (ol v.O).length
  ·have q0:(0:Int)≤k:=by omega
   have hw:IntKind.i64.wrap ((k:Int)+1)=((k+1:Nat):Int):=by rw[w64 _ (by omega) (by omega)];omega
   by_cases hh:(gx zBlock (ol v.O) (k:Int)).root=r
   ·apply oT (.ret)
    ·simp only[Z8,seval,hI,hlt,q0,hs.orphans,hh]
     rfl
    ·exact .inl ⟨rfl,k,by omega,hh,hj,by simp only[E8,seval,hs.orphans]⟩
   ·apply oN ((ol v.O).length - (k+1))
    ·simp only[Z8,seval,hI,hlt,q0,hs.orphans,hh,hw]
     rfl
    ·exact⟨k+1,by simp only[E8,seval,hI],fun j h=>(Nat.lt_succ_iff_lt_or_eq.1 h).elim (hj j) fun e=>by subst e;exact hh,by omega,rfl⟩
  ·apply oT (.exit 0)
   ·simp only[Z8,seval,hI,hlt,hs.orphans]
    rfl
   ·exact .inr ⟨rfl,fun j h=>hj j (by omega),by simp only[E8,seval,hI]⟩
 case start=>exact⟨0,by simp only[E8,seval]<;>rfl,fun j h=>by omega,by omega,by omega⟩
 case rest =>
  rintro e st (⟨rfl,k,hk,hh,hj,h⟩ | ⟨rfl,hj,hI⟩)
  ·have hv:decide (KnB v r)=true:=decide_eq_true (.inl ⟨k,hk,hh⟩)
   simp only[Z8,seval]
   exact⟨_,xtmp rfl (by simp only[E8,seval,h]<;>rfl) (by first | exact .v _ | simp only[FLb,h]),by rw[hv]⟩
  ·have hv:decide (KnB v r)=decide (0≤findR v.ns r):=by
    refine decide_eq_decide.2 ⟨fun h=>h.elim (fun ⟨j,hj1,hj2⟩=>absurd hj2 (hj j hj1)) id,.inr⟩
   simp only[Z8,seval,hI,hs.tree,k46 _ _ hs.nn]
   exact⟨_,xtmp rfl (by simp only[E8,seval]<;>rfl) (by first | exact .v _ | simp only[FLb]),by rw[hv]⟩
theorem k54 {s:Store} {v:SV} (hs:SD s v) (r:Root) (st:St) (d:Option Nat):callFn (callL Tryz.prog) 54 [.agg (cStore s),.agg (cRoot r)] st d=some { dst:=d,val:=.v (.bool (decide (KnB v r)))}:=call_flat (flat2 hs.flat (flatR r)) (c54 hs r) (.v _)
def tgtBad (s:Store) (a:Att):Prop:=a.target.epoch≠epV s a.slot∨(a.target.epoch≠epV s s.now∧(epV s s.now=0∨a.target.epoch≠IntKind.u64.wrap (epV s s.now - 1)))
noncomputable def caV (s:Store) (v:SV) (a:Att) (V:List Int):Bool × Int :=
 if vlV V (ol v.B).length≠0 then (false,vlV V (ol v.B).length) else
 if tgtBad s a then (false,18) else
 if findR v.ns a.root < 0 then (false,10) else
 if findR v.ns a.target.root < 0 then (false,10) else
 if a.slot < (nd v.ns (findR v.ns a.root)).block.slot then (false,14) else
 if atV v.ns (findR v.ns a.root) (stV s a.target.epoch).1≠findR v.ns a.target.root then (false,19) else (decide (s.now≤a.slot),0)
theorem c39 {s:Store} {v:SV} (hs:SD s v) (hu:UpOk v.ns) (hp:s.cFg.spe≠0) (a:Att) (o:Option (List Int)) (hV:a.vals=ov csInt o) (hl:((ol o).length:Int) < 1000000) :
 callL Tryz.prog 39 [.agg (cStore s),.agg (cAtt a)]=some (.tup [.v (.bool (caV s v a (ol o)).1),.v (.int .i64 (caV s v a (ol o)).2)]):=by
 have hf:=hs.flat
 have k40:=fun n=>kx (c40 o hl n) (flat2 (flat_ovInt o) (.v _)) (.v _)
 rw[cL Tryz.func39 rfl ok39 rfl]
 refine ex_eq ?_
 have r1:=findR_range v.ns a.root
 by_cases g1:vlV (ol o) (ol v.B).length=0
 case neg =>
  have hv:caV s v a (ol o)=(false,vlV (ol o) (ol v.B).length):=by simp only[caV,ne_eq,g1,not_false_eq_true,if_true]
  simp only[Z8,seval,hV,k97 hs,k40,bf g1]
  exact⟨_,xtwo rfl rfl rfl (by simp only[E8,seval]<;>rfl) (by simp only[E8,seval]<;>rfl),by rw[hv]⟩
 have tail18:tgtBad s a→caV s v a (ol o)=(false,18):=fun g=>by simp only[caV,ne_eq,g1,not_true_eq_false,if_false,g,if_true]
 by_cases g2:a.target.epoch=epV s a.slot
 case neg =>
  have hv:=tail18 (.inl g2)
  simp only[Z8,seval,hV,k97 hs,k40,bt g1,k98 s hp hf,bf g2]
  exact⟨_,xtwo rfl rfl rfl (by simp only[E8,seval]<;>rfl) (by simp only[E8,seval]<;>rfl),by rw[hv]⟩
 by_cases g3:a.target.epoch=epV s s.now
 case neg =>
  by_cases g4:epV s s.now=0
  ·have hv:=tail18 (.inr ⟨g3,.inl g4⟩)
   simp only[Z8,seval,hV,k97 hs,k40,bt g1,k98 s hp hf,bt g2,bf g3,bt g4]
   exact⟨_,xtwo rfl rfl rfl (by simp only[E8,seval]<;>rfl) (by simp only[E8,seval]<;>rfl),by rw[hv]⟩
  by_cases g5:a.target.epoch=IntKind.u64.wrap (epV s s.now - 1)
  case neg =>
   have hv:=tail18 (.inr ⟨g3,.inr g5⟩)
   simp only[Z8,seval,hV,k97 hs,k40,bt g1,k98 s hp hf,bt g2,bf g3,bf g4,bf g5]
   exact⟨_,xtwo rfl rfl rfl (by simp only[E8,seval]<;>rfl) (by simp only[E8,seval]<;>rfl),by rw[hv]⟩
  have gb:¬ tgtBad s a:=fun h=>h.elim (fun h=>h g2) fun h=>h.2.elim g4 fun h=>h g5
  by_cases g6:findR v.ns a.root < 0
  ·have hv:caV s v a (ol o)=(false,10):=by simp only[caV,ne_eq,g1,not_true_eq_false,if_false,gb,g6,if_true]
   simp only[Z8,seval,hV,k97 hs,k40,bt g1,k98 s hp hf,bt g2,bf g3,bf g4,bt g5,hs.tree,k46 _ _ hs.nn,g6]
   exact⟨_,xtwo rfl rfl rfl (by simp only[E8,seval]<;>rfl) (by simp only[E8,seval]<;>rfl),by rw[hv]⟩
  by_cases g7:findR v.ns a.target.root < 0
  ·have hv:caV s v a (ol o)=(false,10):=by simp only[caV,ne_eq,g1,not_true_eq_false,if_false,gb,g6,g7,if_true]
   simp only[Z8,seval,hV,k97 hs,k40,bt g1,k98 s hp hf,bt g2,bf g3,bf g4,bt g5,hs.tree,k46 _ _ hs.nn,g6,g7]
   exact⟨_,xtwo rfl rfl rfl (by simp only[E8,seval]<;>rfl) (by simp only[E8,seval]<;>rfl),by rw[hv]⟩
  have q0:0≤findR v.ns a.root:=by omega
  by_cases g8:a.slot < (nd v.ns (findR v.ns a.root)).block.slot
  ·have hv:caV s v a (ol o)=(false,14):=by simp only[caV,ne_eq,g1,not_true_eq_false,if_false,gb,g6,g7,g8,if_true]
   simp only[Z8,seval,hV,k97 hs,k40,bt g1,k98 s hp hf,bt g2,bf g3,bf g4,bt g5,hs.tree,k46 _ _ hs.nn,g6,g7,q0,r1,g8]
   exact⟨_,xtwo rfl rfl rfl (by simp only[E8,seval]<;>rfl) (by simp only[E8,seval]<;>rfl),by rw[hv]⟩
  by_cases g9:atV v.ns (findR v.ns a.root) (stV s a.target.epoch).1=findR v.ns a.target.root
  ·have hv:caV s v a (ol o)=(decide (s.now≤a.slot),0):=by simp only[caV,ne_eq,g1,not_true_eq_false,if_false,gb,g6,g7,g8,g9]
   simp only[Z8,seval,hV,k97 hs,k40,bt g1,k98 s hp hf,bt g2,bf g3,bf g4,bt g5,hs.tree,k46 _ _ hs.nn,g6,g7,q0,r1,g8,k99 s hf,extA,k100 _ hu hs.nn,bt g9]
   exact⟨_,xtwo rfl rfl rfl (by simp only[E8,seval]<;>rfl) (by simp only[E8,seval]<;>rfl),by rw[hv]⟩
  ·have hv:caV s v a (ol o)=(false,19):=by simp only[caV,ne_eq,g1,not_true_eq_false,if_false,gb,g6,g7,g8,g9,not_false_eq_true,if_true]
   simp only[Z8,seval,hV,k97 hs,k40,bt g1,k98 s hp hf,bt g2,bf g3,bf g4,bt g5,hs.tree,k46 _ _ hs.nn,g6,g7,q0,r1,g8,k99 s hf,extA,k100 _ hu hs.nn,bf g9]
   exact⟨_,xtwo rfl rfl rfl (by simp only[E8,seval]<;>rfl) (by simp only[E8,seval]<;>rfl),by rw[hv]⟩
 have gb:¬ tgtBad s a:=fun h=>h.elim (fun h=>h g2) fun h=>h.1 g3
 by_cases g6:findR v.ns a.root < 0
 ·have hv:caV s v a (ol o)=(false,10):=by simp only[caV,ne_eq,g1,not_true_eq_false,if_false,gb,g6,if_true]
  simp only[Z8,seval,hV,k97 hs,k40,bt g1,k98 s hp hf,bt g2,bt g3,hs.tree,k46 _ _ hs.nn,g6]
  exact⟨_,xtwo rfl rfl rfl (by simp only[E8,seval]<;>rfl) (by simp only[E8,seval]<;>rfl),by rw[hv]⟩
 by_cases g7:findR v.ns a.target.root < 0
 ·have hv:caV s v a (ol o)=(false,10):=by simp only[caV,ne_eq,g1,not_true_eq_false,if_false,gb,g6,g7,if_true]
  simp only[Z8,seval,hV,k97 hs,k40,bt g1,k98 s hp hf,bt g2,bt g3,hs.tree,k46 _ _ hs.nn,g6,g7]
  exact⟨_,xtwo rfl rfl rfl (by simp only[E8,seval]<;>rfl) (by simp only[E8,seval]<;>rfl),by rw[hv]⟩
 have q0:0≤findR v.ns a.root:=by omega
 by_cases g8:a.slot < (nd v.ns (findR v.ns a.root)).block.slot
 ·have hv:caV s v a (ol o)=(false,14):=by simp only[caV,ne_eq,g1,not_true_eq_false,if_false,gb,g6,g7,g8,if_true]
  simp only[Z8,seval,hV,k97 hs,k40,bt g1,k98 s hp hf,bt g2,bt g3,hs.tree,k46 _ _ hs.nn,g6,g7,q0,r1,g8]
  exact⟨_,xtwo rfl rfl rfl (by simp only[E8,seval]<;>rfl) (by simp only[E8,seval]<;>rfl),by rw[hv]⟩
 by_cases g9:atV v.ns (findR v.ns a.root) (stV s a.target.epoch).1=findR v.ns a.target.root
 ·have hv:caV s v a (ol o)=(decide (s.now≤a.slot),0):=by simp only[caV,ne_eq,g1,not_true_eq_false,if_false,gb,g6,g7,g8,g9]
  simp only[Z8,seval,hV,k97 hs,k40,bt g1,k98 s hp hf,bt g2,bt g3,hs.tree,k46 _ _ hs.nn,g6,g7,q0,r1,g8,k99 s hf,extA,k100 _ hu hs.nn,bt g9]
  exact⟨_,xtwo rfl rfl rfl (by simp only[E8,seval]<;>rfl) (by simp only[E8,seval]<;>rfl),by rw[hv]⟩
 ·have hv:caV s v a (ol o)=(false,19):=by simp only[caV,ne_eq,g1,not_true_eq_false,if_false,gb,g6,g7,g8,g9,not_false_eq_true,if_true]
  simp only[Z8,seval,hV,k97 hs,k40,bt g1,k98 s hp hf,bt g2,bt g3,hs.tree,k46 _ _ hs.nn,g6,g7,q0,r1,g8,k99 s hf,extA,k100 _ hu hs.nn,bf g9]
  exact⟨_,xtwo rfl rfl rfl (by simp only[E8,seval]<;>rfl) (by simp only[E8,seval]<;>rfl),by rw[hv]⟩
theorem lastLe_mem (ns:List Node) (s:Int) (l:List Int):lastLe ns s l=-1∨lastLe ns s l∈l:=by
 suffices h:∀ (l:List Int) (a:Int),l.foldl (fun r x=>if (nd ns x).block.slot≤s then x else r) a=a∨l.foldl (fun r x=>if (nd ns x).block.slot≤s then x else r) a∈l from h l (-1)
 intro l
 induction l with
 | nil=>exact fun a=>.inl rfl
 | cons x l ih =>
   intro a
   rw[List.foldl_cons]
   split
   ·rcases ih x with h | h
    ·exact .inr (by rw[h];simp)
    ·exact .inr (by simp[h])
   ·rcases ih a with h | h
    ·exact .inl h
    ·exact .inr (by simp[h])
theorem atV_range {ns:List Node} (hu:UpOk ns) (i s:Int):-1≤atV ns i s∧atV ns i s < ns.length∧atV ns i s≤max i (-1):=by
 by_cases hi:0≤i∧i < ns.length
 ·rcases lastLe_mem ns s (path ns i) with h | h
  ·rw[show atV ns i s=-1 from h];omega
  ·have:=path_mem hu i.toNat i rfl hi.1 hi.2 _ h
   rw[show atV ns i s=lastLe ns s (path ns i) from rfl];omega
 ·rw[atV_none s hi];omega
noncomputable def elC {α:Type} (x:AV) (k:Ckpt→Option α) (fb:Option α):Option α:=if h:∃ c,x=.agg (cCkpt c) then k (Classical.choose h) else fb
theorem elC_c {α:Type} (c:Ckpt) (k:Ckpt→Option α) (fb:Option α):elC (.agg (cCkpt c)) k fb=k c:=by
 unfold elC
 have h:∃ c',AV.agg (cCkpt c)=.agg (cCkpt c'):=⟨c,rfl⟩
 rw[dif_pos h]
 have:=Classical.choose_spec h
 injection this with h2
 rw[← (cCkpt_inj _ _).1 h2]
@[congr] theorem elC_congr {α:Type} {x y:AV} {k:Ckpt→Option α} {fb:Option α} (h:x=y):elC x k fb=elC y k fb:=by rw[h]
theorem ev_bs4 {call:Nat→List AV→Option AV} {ops:Array Oper} {st:St} {T:Nat} {pos:String} {aft:Array Edge} (d:Nat) (x y z w:Operand) :
 evOp Tryz.prog call ops ⟨some d,.buildSlice 109 4 #[(0,x),(1,y),(2,z),(3,w)],T,pos,aft,none⟩ st =
  elC (st.ev x) (fun a=>elC (st.ev y) (fun b=>elC (st.ev z) (fun c=>elC (st.ev w) (fun e=>some ((st.new d (.row 41 33 [a,b,c,e].length (csCkpt [a,b,c,e]))).put (some d) (.own d (st.cnt d))))
   (evOp Tryz.prog call ops ⟨some d,.buildSlice 109 4 #[(0,x),(1,y),(2,z),(3,w)],T,pos,aft,none⟩ st)) (evOp Tryz.prog call ops ⟨some d,.buildSlice 109 4 #[(0,x),(1,y),(2,z),(3,w)],T,pos,aft,none⟩ st))
   (evOp Tryz.prog call ops ⟨some d,.buildSlice 109 4 #[(0,x),(1,y),(2,z),(3,w)],T,pos,aft,none⟩ st)) (evOp Tryz.prog call ops ⟨some d,.buildSlice 109 4 #[(0,x),(1,y),(2,z),(3,w)],T,pos,aft,none⟩ st):=by
 unfold elC
 split
 ·rename_i h1
  have h1c:=h1
  obtain⟨a,h1'⟩:=h1c
  have e1:Classical.choose h1=a:=by have:=(Classical.choose_spec h1).symm.trans h1';injection this with t;exact (cCkpt_inj _ _).1 t
  rw[e1]
  split
  ·rename_i h2
   have h2c:=h2
   obtain⟨b,h2'⟩:=h2c
   have e2:Classical.choose h2=b:=by have:=(Classical.choose_spec h2).symm.trans h2';injection this with t;exact (cCkpt_inj _ _).1 t
   rw[e2]
   split
   ·rename_i h3
    have h3c:=h3
    obtain⟨c,h3'⟩:=h3c
    have e3:Classical.choose h3=c:=by have:=(Classical.choose_spec h3).symm.trans h3';injection this with t;exact (cCkpt_inj _ _).1 t
    rw[e3]
    split
    ·rename_i h4
     have h4c:=h4
     obtain⟨e,h4'⟩:=h4c
     have e4:Classical.choose h4=e:=by have:=(Classical.choose_spec h4).symm.trans h4';injection this with t;exact (cCkpt_inj _ _).1 t
     rw[e4,ev_buildSlice,sl109]
     have hz:((List.range 4).flatMap fun _=>vCkpt.map AV.v)=csCkpt [zCkpt,zCkpt,zCkpt,zCkpt]:=by rw[vCkpt_c];rfl
     have u0:=upsCkpt [zCkpt,zCkpt,zCkpt,zCkpt] 0 a (by simp)
     have u1:=upsCkpt [a,zCkpt,zCkpt,zCkpt] 1 b (by simp)
     have u2:=upsCkpt [a,b,zCkpt,zCkpt] 2 c (by simp)
     have u3:=upsCkpt [a,b,c,zCkpt] 3 e (by simp)
     simp only[Int.reduceToNat,Nat.reduceMul,Nat.reduceAdd,List.set_cons_zero,List.set_cons_succ,List.set] at u0 u1 u2 u3
     simp only[bnd_some,ze41,List.toList_toArray,List.map_cons,List.map_nil,List.all_cons,List.all_nil,h1',h2',h3',h4',AV.stor,Bool.and_self,fill_cons,fill_nil,AV.cells,len_cCkpt,len_csCkpt,hz,List.length_cons,List.length_nil,Nat.reduceMul,Nat.reduceAdd,Nat.reducePow,Nat.reduceLeDiff,Nat.reduceLT,true_or,true_and,and_true,and_self,if_true,↓reduceIte,u0,u1,u2,u3,Nat.zero_le,Nat.le_refl]
    ·rfl
   ·rfl
  ·rfl
 ·rfl
def FitC (s:Store) (v:SV) (b:Block) (c:Ckpt):Prop:=c.epoch≤s.finality.fin.epoch∨(if (stV s c.epoch).1 < b.slot then 0≤atV v.ns (findR v.ns b.parent) (stV s c.epoch).1∧(nd v.ns (atV v.ns (findR v.ns b.parent) (stV s c.epoch).1)).block.root=c.root else b.root=c.root)
def cksB (b:Block):List Ckpt:=[b.just,b.fin,b.pulled.pj,b.pulled.pf]
def FitB (s:Store) (v:SV) (b:Block):Prop:=0≤findR v.ns b.parent∧OrdB s b∧∀ j:Nat,j < 4→FitC s v b (gx zCkpt (cksB b) j)
theorem c69 {s:Store} {v:SV} (hs:SD s v) (hu:UpOk v.ns) (hp:s.cFg.spe≠0) (b:Block):callL Tryz.prog 69 [.agg (cStore s),.agg (cBlock b)]=some (.v (.bool (decide (FitB s v b)))):=by
 have hf:=hs.flat
 rw[cL Tryz.func69 rfl ok69 rfl]
 refine ex_eq ?_
 have r1:=findR_range v.ns b.parent
 by_cases g1:findR v.ns b.parent < 0
 ·have hv:decide (FitB s v b)=false:=decide_eq_false (fun h=>by have:=h.1;omega)
  simp only[Z8,seval,hs.tree,k46 _ _ hs.nn,g1]
  exact⟨_,xtmp rfl (by simp only[E8,seval]<;>rfl) (by first | exact .v _ | simp only[FLb]),by rw[hv]⟩
 by_cases g2:OrdB s b
 case neg =>
  have hv:decide (FitB s v b)=false:=decide_eq_false (fun h=>g2 h.2.1)
  simp only[Z8,seval,hs.tree,k46 _ _ hs.nn,g1,k137 s hp hf,g2]
  exact⟨_,xtmp rfl (by simp only[E8,seval]<;>rfl) (by first | exact .v _ | simp only[FLb]),by rw[hv]⟩
 simp only[Z8,seval,hs.tree,k46 _ _ hs.nn,g1,k137 s hp hf,g2,ev_bs4,elC_c]
 have h4:(cksB b).length=4:=rfl
 refine use_loopX (fun m st=>∃ k:Nat,(st.env 2=.ptr 2 0 0∧st.heap 2 0=some (.cells (cStore s))∧st.env 3=.ptr 3 0 0∧st.heap 3 0=some (.cells (cBlock b))∧st.env 5=.v (.int .i64 (findR v.ns b.parent))∧st.env 6=.own 33 0∧st.heap 33 0=some (.row 41 33 (cksB b).length (csCkpt (cksB b)))∧st.env 7=.v (.int .i64 k))∧(∀ j:Nat,j < k→FitC s v b (gx zCkpt (cksB b) j))∧k≤4∧m=4 - k)
  (fun e st=>(e=.ret∧st.env 4=.v (.bool false)∧∃ j:Nat,j < 4∧¬ FitC s v b (gx zCkpt (cksB b) j))∨(e=.exit 0∧∀ j:Nat,j < 4→FitC s v b (gx zCkpt (cksB b) j))) 4 ?step ?start ?rest
 case step =>
  rintro m st ⟨k,hI,hj,hk,hm⟩
  by_cases hlt':k < 4
  ·have hlt:(k:Int) < (cksB b).length:=by rw[h4];omega
   have q0:(0:Int)≤k:=by omega
   have hw:IntKind.i64.wrap ((k:Int)+1)=((k+1:Nat):Int):=by rw[w64 _ (by omega) (by omega)];omega
   obtain⟨c,hc⟩:∃ c,gx zCkpt (cksB b) k=c:=⟨_,rfl⟩
   have ra:=atV_range hu (findR v.ns b.parent) (stV s c.epoch).1
   have ld:∀ T kk off,ldK Tryz.prog T=some kk→0 < kk→off+kk≤33→loadE Tryz.prog T (some (.row 41 33 (cksB b).length (csCkpt (cksB b)))) ((k:Int).toNat * 33+off)=ldAt Tryz.prog T (cCkpt c) off:=fun T kk off h1 h2 h3=>by rw[ldsCkpt q0 hlt h1 h2 h3,hc]
   have ld0:∀ T kk,ldK Tryz.prog T=some kk→0 < kk→kk≤33→loadE Tryz.prog T (some (.row 41 33 (cksB b).length (csCkpt (cksB b)))) ((k:Int).toNat * 33)=ldAt Tryz.prog T (cCkpt c) 0:=fun T kk h1 h2 h3=>by rw[ldaCkpt q0 hlt h1 h2 h3,hc]
   have nxt:FitC s v b c→∀ j:Nat,j < k+1→FitC s v b (gx zCkpt (cksB b) j):=fun h j hj'=>(Nat.lt_succ_iff_lt_or_eq.1 hj').elim (hj j) fun e=>by subst e;rw[hc];exact h
   have ld1:=ld0 23 1 lk23 (by decide) (by decide)
   have ld2:=ld 27 32 1 lk27 (by decide) (by decide)
   have cl:∀ i:Int,(k:Int) < 4:=fun _=>by omega
   have hl4:(k:Int) < ((cksB b).length:Int):=hlt
   by_cases h1:c.epoch≤s.finality.fin.epoch
   ·apply oN (4 - (k+1))
    ·simp only[Z8,seval,hI,hlt,q0,ld1,ld2,h1,hw]
     rfl
    ·exact⟨k+1,by simp only[E8,seval,hI],nxt (.inl h1),by omega,rfl⟩
   by_cases h2:(stV s c.epoch).1 < b.slot
   ·by_cases h3:atV v.ns (findR v.ns b.parent) (stV s c.epoch).1 < 0
    ·apply oT (.ret)
     ·simp only[Z8,seval,hI,hlt,q0,ld1,ld2,h1,h2,h3,k99 s hf,extA,hs.tree,k100 _ hu hs.nn]
      rfl
     ·exact .inl ⟨rfl,by simp only[E8,seval],k,hlt',by rw[hc];exact fun h=>h.elim h1 fun h=>by rw[if_pos h2] at h;omega⟩
    have q3:0≤atV v.ns (findR v.ns b.parent) (stV s c.epoch).1:=by omega
    by_cases h4':(nd v.ns (atV v.ns (findR v.ns b.parent) (stV s c.epoch).1)).block.root=c.root
    ·apply oN (4 - (k+1))
     ·simp only[Z8,seval,hI,hlt,q0,ld1,ld2,h1,h2,h3,k99 s hf,extA,hs.tree,k100 _ hu hs.nn,q3,ra,h4',hw]
      rfl
     ·exact⟨k+1,by simp only[E8,seval,hI],nxt (.inr (by rw[if_pos h2];exact⟨q3,h4'⟩)),by omega,rfl⟩
    ·apply oT (.ret)
     ·simp only[Z8,seval,hI,hlt,q0,ld1,ld2,h1,h2,h3,k99 s hf,extA,hs.tree,k100 _ hu hs.nn,q3,ra,h4']
      rfl
     ·exact .inl ⟨rfl,by simp only[E8,seval],k,hlt',by rw[hc];exact fun h=>h.elim h1 fun h=>by rw[if_pos h2] at h;exact h4' h.2⟩
   ·by_cases h4':b.root=c.root
    ·apply oN (4 - (k+1))
     ·simp only[Z8,seval,hI,hlt,q0,ld1,ld2,h1,h2,k99 s hf,extA,h4',hw]
      rfl
     ·exact⟨k+1,by simp only[E8,seval,hI],nxt (.inr (by rw[if_neg h2];exact h4')),by omega,rfl⟩
    ·apply oT (.ret)
     ·simp only[Z8,seval,hI,hlt,q0,ld1,ld2,h1,h2,k99 s hf,extA,h4']
      rfl
     ·exact .inl ⟨rfl,by simp only[E8,seval],k,hlt',by rw[hc];exact fun h=>h.elim h1 fun h=>by rw[if_neg h2] at h;exact h4' h⟩
  ·have hlt:¬ ((k:Int) < (cksB b).length):=by rw[h4];omega
   apply oT (.exit 0)
   ·simp only[Z8,seval,hI,hlt]
    rfl
   ·exact .inr ⟨rfl,fun j h=>hj j (by omega)⟩
 case start=>exact⟨0,by simp only[E8,seval]<;>rfl,fun j h=>by omega,by omega,by omega⟩
 case rest =>
  rintro e st (⟨rfl,h,j,hj,hn⟩ | ⟨rfl,h⟩)
  ·have hv:decide (FitB s v b)=false:=decide_eq_false (fun h=>hn (h.2.2 j hj))
   simp only[Z8,seval]
   exact⟨_,xtmp rfl (by simp only[E8,seval,h]<;>rfl) (by first | exact .v _ | simp only[FLb,h]),by rw[hv]⟩
  ·have hv:decide (FitB s v b)=true:=decide_eq_true ⟨by omega,g2,h⟩
   simp only[Z8,seval]
   exact⟨_,xtmp rfl (by simp only[E8,seval]<;>rfl) (by first | exact .v _ | simp only[FLb]),by rw[hv]⟩
theorem k69 {s:Store} {v:SV} (hs:SD s v) (hu:UpOk v.ns) (hp:s.cFg.spe≠0) (b:Block) (st:St) (d:Option Nat):callFn (callL Tryz.prog) 69 [.agg (cStore s),.agg (cBlock b)] st d=some { dst:=d,val:=.v (.bool (decide (FitB s v b)))}:=call_flat (flat2 hs.flat (flatB b)) (c69 hs hu hp b) (.v _)
noncomputable def cbV (s:Store) (v:SV) (b:Block):Int :=
 if b.root=zRoot then 2 else if KnB v b.root then 9 else if s.now < b.slot then 12 else if b.slot≤(stV s s.finality.fin.epoch).1 then 13 else
 if findR v.ns b.parent < 0 then 10 else if b.slot≤(nd v.ns (findR v.ns b.parent)).block.slot then 14 else if (nd v.ns (findR v.ns b.parent)).status=2 then 15 else
 if ¬ FitB s v b then 16 else if ¬ MFit s.cFg.ttd (nd v.ns (findR v.ns b.parent)).block b then 17 else if s.cFg.lim.nodeL≤(v.ns.length:Int) then 11 else 0
theorem c52 {s:Store} {v:SV} (hs:SD s v) (hu:UpOk v.ns) (hp:s.cFg.spe≠0) (b:Block):callL Tryz.prog 52 [.agg (cStore s),.agg (cBlock b)]=some (.v (.int .i64 (cbV s v b))):=by
 have hf:=hs.flat
 rw[cL Tryz.func52 rfl ok52 rfl]
 refine ex_eq ?_
 have r1:=findR_range v.ns b.parent
 by_cases g1:b.root=zRoot
 ·simp only[Z8,seval,k99 s hf,extA,k54 hs,hs.tree,k46 _ _ hs.nn,k69 hs hu hp,k114,decide_true,decide_false,g1]
  exact⟨_,xtmp rfl (by simp only[E8,seval]<;>rfl) (by first | exact .v _ | simp only[FLb]),by simp only[cbV,g1,not_true_eq_false,not_false_eq_true,if_true,if_false]⟩
 by_cases g2:KnB v b.root
 ·simp only[Z8,seval,k99 s hf,extA,k54 hs,hs.tree,k46 _ _ hs.nn,k69 hs hu hp,k114,decide_true,decide_false,g1,g2]
  exact⟨_,xtmp rfl (by simp only[E8,seval]<;>rfl) (by first | exact .v _ | simp only[FLb]),by simp only[cbV,g1,g2,not_true_eq_false,not_false_eq_true,if_true,if_false]⟩
 by_cases g3:s.now < b.slot
 ·simp only[Z8,seval,k99 s hf,extA,k54 hs,hs.tree,k46 _ _ hs.nn,k69 hs hu hp,k114,decide_true,decide_false,g1,g2,g3]
  exact⟨_,xtmp rfl (by simp only[E8,seval]<;>rfl) (by first | exact .v _ | simp only[FLb]),by simp only[cbV,g1,g2,g3,not_true_eq_false,not_false_eq_true,if_true,if_false]⟩
 by_cases g4:b.slot≤(stV s s.finality.fin.epoch).1
 ·simp only[Z8,seval,k99 s hf,extA,k54 hs,hs.tree,k46 _ _ hs.nn,k69 hs hu hp,k114,decide_true,decide_false,g1,g2,g3,g4]
  exact⟨_,xtmp rfl (by simp only[E8,seval]<;>rfl) (by first | exact .v _ | simp only[FLb]),by simp only[cbV,g1,g2,g3,g4,not_true_eq_false,not_false_eq_true,if_true,if_false]⟩
 by_cases g5:findR v.ns b.parent < 0
 ·simp only[Z8,seval,k99 s hf,extA,k54 hs,hs.tree,k46 _ _ hs.nn,k69 hs hu hp,k114,decide_true,decide_false,g1,g2,g3,g4,g5]
  exact⟨_,xtmp rfl (by simp only[E8,seval]<;>rfl) (by first | exact .v _ | simp only[FLb]),by simp only[cbV,g1,g2,g3,g4,g5,not_true_eq_false,not_false_eq_true,if_true,if_false]⟩
 have q0:0≤findR v.ns b.parent:=by omega
 by_cases g6:b.slot≤(nd v.ns (findR v.ns b.parent)).block.slot
 ·simp only[Z8,seval,k99 s hf,extA,k54 hs,hs.tree,k46 _ _ hs.nn,k69 hs hu hp,k114,decide_true,decide_false,g1,g2,g3,g4,g5,q0,r1,g6]
  exact⟨_,xtmp rfl (by simp only[E8,seval]<;>rfl) (by first | exact .v _ | simp only[FLb]),by simp only[cbV,g1,g2,g3,g4,g5,g6,not_true_eq_false,not_false_eq_true,if_true,if_false]⟩
 by_cases g7:(nd v.ns (findR v.ns b.parent)).status=2
 ·simp only[Z8,seval,k99 s hf,extA,k54 hs,hs.tree,k46 _ _ hs.nn,k69 hs hu hp,k114,decide_true,decide_false,g1,g2,g3,g4,g5,q0,r1,g6,bt g7]
  exact⟨_,xtmp rfl (by simp only[E8,seval]<;>rfl) (by first | exact .v _ | simp only[FLb]),by simp only[cbV,g1,g2,g3,g4,g5,g6,g7,not_true_eq_false,not_false_eq_true,if_true,if_false]⟩
 by_cases g8:¬ FitB s v b
 ·simp only[Z8,seval,k99 s hf,extA,k54 hs,hs.tree,k46 _ _ hs.nn,k69 hs hu hp,k114,decide_true,decide_false,g1,g2,g3,g4,g5,q0,r1,g6,bf g7,g8]
  exact⟨_,xtmp rfl (by simp only[E8,seval]<;>rfl) (by first | exact .v _ | simp only[FLb]),by simp only[cbV,g1,g2,g3,g4,g5,g6,g7,g8,not_true_eq_false,not_false_eq_true,if_true,if_false]⟩
 replace g8:=Classical.not_not.1 g8
 by_cases g9:¬ MFit s.cFg.ttd (nd v.ns (findR v.ns b.parent)).block b
 ·simp only[Z8,seval,k99 s hf,extA,k54 hs,hs.tree,k46 _ _ hs.nn,k69 hs hu hp,k114,decide_true,decide_false,g1,g2,g3,g4,g5,q0,r1,g6,bf g7,g8,g9]
  exact⟨_,xtmp rfl (by simp only[E8,seval]<;>rfl) (by first | exact .v _ | simp only[FLb]),by simp only[cbV,g1,g2,g3,g4,g5,g6,g7,g8,g9,not_true_eq_false,not_false_eq_true,if_true,if_false]⟩
 replace g9:=Classical.not_not.1 g9
 by_cases g10:s.cFg.lim.nodeL≤(v.ns.length:Int)
 ·simp only[Z8,seval,k99 s hf,extA,k54 hs,hs.tree,k46 _ _ hs.nn,k69 hs hu hp,k114,decide_true,decide_false,g1,g2,g3,g4,g5,q0,r1,g6,bf g7,g8,g9,g10]
  exact⟨_,xtmp rfl (by simp only[E8,seval]<;>rfl) (by first | exact .v _ | simp only[FLb]),by simp only[cbV,g1,g2,g3,g4,g5,g6,g7,g8,g9,g10,not_true_eq_false,not_false_eq_true,if_true,if_false]⟩
 simp only[Z8,seval,k99 s hf,extA,k54 hs,hs.tree,k46 _ _ hs.nn,k69 hs hu hp,k114,decide_true,decide_false,g1,g2,g3,g4,g5,q0,r1,g6,bf g7,g8,g9,g10]
 exact⟨_,xtmp rfl (by simp only[E8,seval]<;>rfl) (by first | exact .v _ | simp only[FLb]),by simp only[cbV,g1,g2,g3,g4,g5,g6,g7,g8,g9,g10,not_true_eq_false,not_false_eq_true,if_true,if_false]⟩
theorem k52 {s:Store} {v:SV} (hs:SD s v) (hu:UpOk v.ns) (hp:s.cFg.spe≠0) (b:Block) (st:St) (d:Option Nat):callFn (callL Tryz.prog) 52 [.agg (cStore s),.agg (cBlock b)] st d=some { dst:=d,val:=.v (.int .i64 (cbV s v b))}:=call_flat (flat2 hs.flat (flatB b)) (c52 hs hu hp b) (.v _)
def penS (acc:Bool × Ckpt × Ckpt) (n:Node):Bool × Ckpt × Ckpt :=
 if n.status=2 then acc else (true,if acc.1=false∨acc.2.1.epoch < n.block.pulled.pj.epoch then n.block.pulled.pj else acc.2.1,if acc.1=false∨acc.2.2.epoch < n.block.pulled.pf.epoch then n.block.pulled.pf else acc.2.2)
def penF (ns:List Node):Bool × Ckpt × Ckpt:=ns.foldl penS (false,zCkpt,zCkpt)
def penV (ns:List Node):Pulled:=⟨(penF ns).2.1,(penF ns).2.2⟩
theorem penF_step (ns:List Node) (k:Nat) (h:k < ns.length):penF (ns.take (k+1))=penS (penF (ns.take k)) (nd ns k):=by
 obtain⟨h',e⟩:=nd_get (ns:=ns) (i:=(k:Int)) (by omega) (by omega)
 unfold penF
 rw[List.take_succ_eq_append_getElem h,List.foldl_append,e]
 rfl
theorem c67 {s:Store} {v:SV} (hs:SD s v):callL Tryz.prog 67 [.agg (cStore s)]=some (.agg (cPulled (penV v.ns))):=by
 have hn:=hs.nn
 rw[cL Tryz.func67 rfl ok67 rfl]
 refine ex_eq ?_
 simp only[Z8,seval,hs.tree]
 refine use_loopX (fun m st=>∃ (k:Nat) (b:Bool) (x y:Ckpt),(st.env 1=.ptr 1 0 0∧st.heap 1 0=some (.cells (cStore s))∧st.env 2=.ptr 2 0 0∧st.heap 2 0=some (.cells (cPulled zPulled))∧st.env 3=.ptr 3 0 0∧st.heap 3 0=some (.cells (cPulled ⟨x,y⟩))∧st.env 4=.v (.bool b)∧st.env 5=.v (.int .i64 k))∧penF (v.ns.take k)=(b,x,y)∧k≤v.ns.length∧m=v.ns.length - k)
  (fun e st=>e=.exit 0∧∃ (x y:Ckpt),(st.env 2=.ptr 2 0 0∧st.heap 2 0=some (.cells (cPulled zPulled))∧st.env 3=.ptr 3 0 0∧st.heap 3 0=some (.cells (cPulled ⟨x,y⟩)))∧penV v.ns=⟨x,y⟩) v.ns.length ?step ?start ?rest
 case step =>
  rintro m st ⟨k,b,x,y,hI,hp,hk,hm⟩
  by_cases hlt:(k:Int) < v.ns.length
  ·have q0:(0:Int)≤k:=by omega
   have hw:IntKind.i64.wrap ((k:Int)+1)=((k+1:Nat):Int):=by rw[w64 _ (by omega) (by omega)];omega
   have hst:=penF_step v.ns k (by omega)
   rw[hp] at hst
   unfold penS at hst
   by_cases h1:(nd v.ns k).status=2
   ·rw[if_pos h1] at hst
    apply oN (v.ns.length - (k+1))
    ·simp only[Z8,seval,hI,hlt,q0,hs.tree,bt h1,hw]
     rfl
    ·exact⟨k+1,b,x,y,by simp only[E8,seval,hI],hst,by omega,rfl⟩
   rw[if_neg h1] at hst
   cases b
   ·simp only[true_or,if_true] at hst
    apply oN (v.ns.length - (k+1))
    ·simp only[Z8,seval,hI,hlt,q0,hs.tree,bf h1,hw]
     rfl
    ·exact⟨k+1,true,_,_,by simp only[E8,seval,hI]<;>rfl,hst,by omega,rfl⟩
   ·simp only[Bool.true_eq_false,false_or] at hst
    by_cases h2:x.epoch < (nd v.ns k).block.pulled.pj.epoch
    ·rw[if_pos h2] at hst
     by_cases h3:y.epoch < (nd v.ns k).block.pulled.pf.epoch
     ·rw[if_pos h3] at hst
      apply oN (v.ns.length - (k+1))
      ·simp only[Z8,seval,hI,hlt,q0,hs.tree,bf h1,h2,h3,hw]
       rfl
      ·exact⟨k+1,true,_,_,by simp only[E8,seval,hI]<;>rfl,hst,by omega,rfl⟩
     ·rw[if_neg h3] at hst
      apply oN (v.ns.length - (k+1))
      ·simp only[Z8,seval,hI,hlt,q0,hs.tree,bf h1,h2,h3,hw]
       rfl
      ·exact⟨k+1,true,_,_,by simp only[E8,seval,hI]<;>rfl,hst,by omega,rfl⟩
    ·rw[if_neg h2] at hst
     by_cases h3:y.epoch < (nd v.ns k).block.pulled.pf.epoch
     ·rw[if_pos h3] at hst
      apply oN (v.ns.length - (k+1))
      ·simp only[Z8,seval,hI,hlt,q0,hs.tree,bf h1,h2,h3,hw]
       rfl
      ·exact⟨k+1,true,_,_,by simp only[E8,seval,hI]<;>rfl,hst,by omega,rfl⟩
     ·rw[if_neg h3] at hst
      apply oN (v.ns.length - (k+1))
      ·simp only[Z8,seval,hI,hlt,q0,hs.tree,bf h1,h2,h3,hw]
       rfl
      ·exact⟨k+1,true,_,_,by simp only[E8,seval,hI]<;>rfl,hst,by omega,rfl⟩
  ·have hkn:k=v.ns.length:=by omega
   rw[hkn,List.take_length] at hp
   apply oT (.exit 0)
   ·simp only[Z8,seval,hI,hlt,hs.tree]
    rfl
   ·exact⟨rfl,x,y,by simp only[E8,seval,hI],by unfold penV;rw[hp]⟩
 case start=>exact⟨0,false,zCkpt,zCkpt,by simp only[E8,seval]<;>rfl,rfl,by omega,by omega⟩
 case rest =>
  rintro e st ⟨rfl,x,y,hI,hp⟩
  simp only[Z8,seval,hI]
  exact⟨_,xcell rfl (by simp only[E8,seval,hI]<;>rfl) (by simp only[Z8,seval,hI]<;>rfl) (by simp only[FLb,and_self,hI]),by rw[hp]⟩
theorem k67 {s:Store} {v:SV} (hs:SD s v) (st:St) (d:Option Nat):callFn (callL Tryz.prog) 67 [.agg (cStore s)] st d=some { dst:=d,val:=.agg (cPulled (penV v.ns))}:=call_flat (flat1 hs.flat) (c67 hs) (.agg _ (flat_cPulled _))
noncomputable def cuJ (s:Store) (c:Ckpt):Ckpt:=if s.finality.just.epoch < c.epoch then c else s.finality.just
noncomputable def cuF (s:Store) (c:Ckpt):Ckpt:=if s.finality.fin.epoch < c.epoch then c else s.finality.fin
def cuBad (s:Store) (v:SV) (J F:Ckpt):Prop :=
 findR v.ns J.root < 0∨findR v.ns F.root < 0∨(nd v.ns (findR v.ns J.root)).status=2∨(nd v.ns (findR v.ns F.root)).status=2∨¬ earV s v.ns (findR v.ns J.root) J.epoch∨¬ earV s v.ns (findR v.ns F.root) F.epoch ∨
 anc v.ns (findR v.ns F.root) (findR v.ns J.root)=false∨J.epoch < F.epoch∨epV s s.now < J.epoch∨ftV (ol v.T) J < 0
noncomputable def canV (s:Store) (v:SV) (c1 c2:Ckpt):AV:=if cuBad s v (cuJ s c1) (cuF s c2) then .tup [.agg (cCkpt zCkpt),.agg (cCkpt zCkpt),.v (.bool false)] else .tup [.agg (cCkpt (cuJ s c1)),.agg (cCkpt (cuF s c2)),.v (.bool true)]
end Go.Ab.Tryz
section
namespace Go.Ab.Tryz
open Classical Go.Proofs Go.Ab
end Go.Ab.Tryz
namespace Go.Ab
end Go.Ab
namespace Go.Ab.Tryz
open Classical Go.Proofs Go.Ab
theorem dy59b:dynTab 7 73 (some 41)=[]∧dynTab 7 72 (some 41)=[]:=⟨rfl,rfl⟩
theorem lapC {α:Type} (a:α) (l m:List α):List.append (a :: l) m=a :: List.append l m:=rfl
theorem lapN {α:Type} (m:List α):List.append ([]:List α) m=m:=rfl
theorem c59 {s:Store} {v:SV} (hs:SD s v) (hu:UpOk v.ns) (hp:s.cFg.spe≠0) (c1 c2:Ckpt):callL Tryz.prog 59 [.agg (cStore s),.agg (cCkpt c1),.agg (cCkpt c2)]=some (canV s v c1 c2):=by
 have hf:=hs.flat
 have hft:=hs.fT
 rw[cG Tryz.func59 rfl ok59 (by kernel_rfl) rfl]
 refine ex_eq ?_
 unfold canV
 by_cases a1:s.finality.just.epoch < c1.epoch
 ·rw[show cuJ s c1=c1 from if_pos a1]
  by_cases a2:s.finality.fin.epoch < c2.epoch
  ·rw[show cuF s c2=c2 from if_pos a2]
   have r1:=findR_range v.ns c1.root
   have r2:=findR_range v.ns c2.root
   by_cases g1:findR v.ns c1.root < 0
   ·simp only[ZG,seval,Bool.false_and,Prod.mk.injEq,DY59,dy59b,lapC,lapN,a1,a2,hs.tree,k46 _ _ hs.nn,k47 _ hu hs.nn,k98 s hp hf,hs.tables,k65 _ hs.nT hft,decide_true,decide_false,g1]
    exact⟨_,by apply xthree;rfl;all_goals simp only[keep_none,resA,Z8,seval,a1,a2]<;>rfl,by rw[if_pos (show cuBad s v c1 c2 by simp only[cuBad,g1,not_true_eq_false,not_false_eq_true,true_or,or_true])]⟩
   by_cases g2:findR v.ns c2.root < 0
   ·simp only[ZG,seval,Bool.false_and,Prod.mk.injEq,DY59,dy59b,lapC,lapN,a1,a2,hs.tree,k46 _ _ hs.nn,k47 _ hu hs.nn,k98 s hp hf,hs.tables,k65 _ hs.nT hft,decide_true,decide_false,g1,g2]
    exact⟨_,by apply xthree;rfl;all_goals simp only[keep_none,resA,Z8,seval,a1,a2]<;>rfl,by rw[if_pos (show cuBad s v c1 c2 by simp only[cuBad,g1,g2,not_true_eq_false,not_false_eq_true,true_or,or_true])]⟩
   have q1:0≤findR v.ns c1.root:=by omega
   have q2:0≤findR v.ns c2.root:=by omega
   by_cases g3:(nd v.ns (findR v.ns c1.root)).status=2
   ·simp only[ZG,seval,Bool.false_and,Prod.mk.injEq,DY59,dy59b,lapC,lapN,a1,a2,hs.tree,k46 _ _ hs.nn,k47 _ hu hs.nn,k98 s hp hf,hs.tables,k65 _ hs.nT hft,decide_true,decide_false,g1,g2,q1,q2,r1,r2,bt g3]
    exact⟨_,by apply xthree;rfl;all_goals simp only[keep_none,resA,Z8,seval,a1,a2]<;>rfl,by rw[if_pos (show cuBad s v c1 c2 by simp only[cuBad,g1,g2,g3,not_true_eq_false,not_false_eq_true,true_or,or_true])]⟩
   by_cases g4:(nd v.ns (findR v.ns c2.root)).status=2
   ·simp only[ZG,seval,Bool.false_and,Prod.mk.injEq,DY59,dy59b,lapC,lapN,a1,a2,hs.tree,k46 _ _ hs.nn,k47 _ hu hs.nn,k98 s hp hf,hs.tables,k65 _ hs.nT hft,decide_true,decide_false,g1,g2,q1,q2,r1,r2,bf g3,bt g4]
    exact⟨_,by apply xthree;rfl;all_goals simp only[keep_none,resA,Z8,seval,a1,a2]<;>rfl,by rw[if_pos (show cuBad s v c1 c2 by simp only[cuBad,g1,g2,g3,g4,not_true_eq_false,not_false_eq_true,true_or,or_true])]⟩
   have ke1:=k122 hs (findR v.ns c1.root) c1.epoch q1 r1.2
   have ke2:=k122 hs (findR v.ns c2.root) c2.epoch q2 r2.2
   by_cases g5:¬ earV s v.ns (findR v.ns c1.root) c1.epoch
   ·simp only[ZG,seval,Bool.false_and,Prod.mk.injEq,DY59,dy59b,lapC,lapN,a1,a2,hs.tree,k46 _ _ hs.nn,k47 _ hu hs.nn,k98 s hp hf,hs.tables,k65 _ hs.nT hft,decide_true,decide_false,g1,g2,q1,q2,r1,r2,bf g3,bf g4,ke1,ke2,g5]
    exact⟨_,by apply xthree;rfl;all_goals simp only[keep_none,resA,Z8,seval,a1,a2]<;>rfl,by rw[if_pos (show cuBad s v c1 c2 by simp only[cuBad,g1,g2,g3,g4,g5,not_true_eq_false,not_false_eq_true,true_or,or_true])]⟩
   replace g5:=Classical.not_not.1 g5
   by_cases g6:¬ earV s v.ns (findR v.ns c2.root) c2.epoch
   ·simp only[ZG,seval,Bool.false_and,Prod.mk.injEq,DY59,dy59b,lapC,lapN,a1,a2,hs.tree,k46 _ _ hs.nn,k47 _ hu hs.nn,k98 s hp hf,hs.tables,k65 _ hs.nT hft,decide_true,decide_false,g1,g2,q1,q2,r1,r2,bf g3,bf g4,ke1,ke2,g5,g6]
    exact⟨_,by apply xthree;rfl;all_goals simp only[keep_none,resA,Z8,seval,a1,a2]<;>rfl,by rw[if_pos (show cuBad s v c1 c2 by simp only[cuBad,g1,g2,g3,g4,g5,g6,not_true_eq_false,not_false_eq_true,true_or,or_true])]⟩
   replace g6:=Classical.not_not.1 g6
   by_cases g7:anc v.ns (findR v.ns c2.root) (findR v.ns c1.root)=false
   ·simp only[ZG,seval,Bool.false_and,Prod.mk.injEq,DY59,dy59b,lapC,lapN,a1,a2,hs.tree,k46 _ _ hs.nn,k47 _ hu hs.nn,k98 s hp hf,hs.tables,k65 _ hs.nT hft,decide_true,decide_false,g1,g2,q1,q2,r1,r2,bf g3,bf g4,ke1,ke2,g5,g6,g7]
    exact⟨_,by apply xthree;rfl;all_goals simp only[keep_none,resA,Z8,seval,a1,a2]<;>rfl,by rw[if_pos (show cuBad s v c1 c2 by simp only[cuBad,g1,g2,g3,g4,g5,g6,g7,not_true_eq_false,not_false_eq_true,true_or,or_true])]⟩
   replace g7:=(by simpa using g7:anc v.ns _ _=true)
   by_cases g8:c1.epoch < c2.epoch
   ·simp only[ZG,seval,Bool.false_and,Prod.mk.injEq,DY59,dy59b,lapC,lapN,a1,a2,hs.tree,k46 _ _ hs.nn,k47 _ hu hs.nn,k98 s hp hf,hs.tables,k65 _ hs.nT hft,decide_true,decide_false,g1,g2,q1,q2,r1,r2,bf g3,bf g4,ke1,ke2,g5,g6,g7,g7,g8]
    exact⟨_,by apply xthree;rfl;all_goals simp only[keep_none,resA,Z8,seval,a1,a2]<;>rfl,by rw[if_pos (show cuBad s v c1 c2 by simp only[cuBad,g1,g2,g3,g4,g5,g6,g7,g8,not_true_eq_false,not_false_eq_true,true_or,or_true])]⟩
   by_cases g9:epV s s.now < c1.epoch
   ·simp only[ZG,seval,Bool.false_and,Prod.mk.injEq,DY59,dy59b,lapC,lapN,a1,a2,hs.tree,k46 _ _ hs.nn,k47 _ hu hs.nn,k98 s hp hf,hs.tables,k65 _ hs.nT hft,decide_true,decide_false,g1,g2,q1,q2,r1,r2,bf g3,bf g4,ke1,ke2,g5,g6,g7,g7,g8,g9]
    exact⟨_,by apply xthree;rfl;all_goals simp only[keep_none,resA,Z8,seval,a1,a2]<;>rfl,by rw[if_pos (show cuBad s v c1 c2 by simp only[cuBad,g1,g2,g3,g4,g5,g6,g7,g8,g9,not_true_eq_false,not_false_eq_true,true_or,or_true])]⟩
   by_cases g10:ftV (ol v.T) c1 < 0
   ·simp only[ZG,seval,Bool.false_and,Prod.mk.injEq,DY59,dy59b,lapC,lapN,a1,a2,hs.tree,k46 _ _ hs.nn,k47 _ hu hs.nn,k98 s hp hf,hs.tables,k65 _ hs.nT hft,decide_true,decide_false,g1,g2,q1,q2,r1,r2,bf g3,bf g4,ke1,ke2,g5,g6,g7,g7,g8,g9,g10]
    exact⟨_,by apply xthree;rfl;all_goals simp only[keep_none,resA,Z8,seval,a1,a2]<;>rfl,by rw[if_pos (show cuBad s v c1 c2 by simp only[cuBad,g1,g2,g3,g4,g5,g6,g7,g8,g9,g10,not_true_eq_false,not_false_eq_true,true_or,or_true])]⟩
   simp only[ZG,seval,Bool.false_and,Prod.mk.injEq,DY59,dy59b,lapC,lapN,a1,a2,hs.tree,k46 _ _ hs.nn,k47 _ hu hs.nn,k98 s hp hf,hs.tables,k65 _ hs.nT hft,decide_true,decide_false,g1,g2,q1,q2,r1,r2,bf g3,bf g4,ke1,ke2,g5,g6,g7,g7,g8,g9,g10]
   exact⟨_,by apply xthree;rfl;all_goals simp only[keep_none,resA,Z8,seval,a1,a2]<;>rfl,by rw[if_neg (show ¬ cuBad s v c1 c2 by simp only[cuBad,g1,g2,g3,g4,g5,g6,g7,g8,g9,g10,not_true_eq_false,not_false_eq_true,or_self,Bool.true_eq_false])]⟩
  ·rw[show cuF s c2=s.finality.fin from if_neg a2]
   have r1:=findR_range v.ns c1.root
   have r2:=findR_range v.ns s.finality.fin.root
   by_cases g1:findR v.ns c1.root < 0
   ·simp only[ZG,seval,Bool.false_and,Prod.mk.injEq,DY59,dy59b,lapC,lapN,a1,a2,hs.tree,k46 _ _ hs.nn,k47 _ hu hs.nn,k98 s hp hf,hs.tables,k65 _ hs.nT hft,decide_true,decide_false,g1]
    exact⟨_,by apply xthree;rfl;all_goals simp only[keep_none,resA,Z8,seval,a1,a2]<;>rfl,by rw[if_pos (show cuBad s v c1 s.finality.fin by simp only[cuBad,g1,not_true_eq_false,not_false_eq_true,true_or,or_true])]⟩
   by_cases g2:findR v.ns s.finality.fin.root < 0
   ·simp only[ZG,seval,Bool.false_and,Prod.mk.injEq,DY59,dy59b,lapC,lapN,a1,a2,hs.tree,k46 _ _ hs.nn,k47 _ hu hs.nn,k98 s hp hf,hs.tables,k65 _ hs.nT hft,decide_true,decide_false,g1,g2]
    exact⟨_,by apply xthree;rfl;all_goals simp only[keep_none,resA,Z8,seval,a1,a2]<;>rfl,by rw[if_pos (show cuBad s v c1 s.finality.fin by simp only[cuBad,g1,g2,not_true_eq_false,not_false_eq_true,true_or,or_true])]⟩
   have q1:0≤findR v.ns c1.root:=by omega
   have q2:0≤findR v.ns s.finality.fin.root:=by omega
   by_cases g3:(nd v.ns (findR v.ns c1.root)).status=2
   ·simp only[ZG,seval,Bool.false_and,Prod.mk.injEq,DY59,dy59b,lapC,lapN,a1,a2,hs.tree,k46 _ _ hs.nn,k47 _ hu hs.nn,k98 s hp hf,hs.tables,k65 _ hs.nT hft,decide_true,decide_false,g1,g2,q1,q2,r1,r2,bt g3]
    exact⟨_,by apply xthree;rfl;all_goals simp only[keep_none,resA,Z8,seval,a1,a2]<;>rfl,by rw[if_pos (show cuBad s v c1 s.finality.fin by simp only[cuBad,g1,g2,g3,not_true_eq_false,not_false_eq_true,true_or,or_true])]⟩
   by_cases g4:(nd v.ns (findR v.ns s.finality.fin.root)).status=2
   ·simp only[ZG,seval,Bool.false_and,Prod.mk.injEq,DY59,dy59b,lapC,lapN,a1,a2,hs.tree,k46 _ _ hs.nn,k47 _ hu hs.nn,k98 s hp hf,hs.tables,k65 _ hs.nT hft,decide_true,decide_false,g1,g2,q1,q2,r1,r2,bf g3,bt g4]
    exact⟨_,by apply xthree;rfl;all_goals simp only[keep_none,resA,Z8,seval,a1,a2]<;>rfl,by rw[if_pos (show cuBad s v c1 s.finality.fin by simp only[cuBad,g1,g2,g3,g4,not_true_eq_false,not_false_eq_true,true_or,or_true])]⟩
   have ke1:=k122 hs (findR v.ns c1.root) c1.epoch q1 r1.2
   have ke2:=k122 hs (findR v.ns s.finality.fin.root) s.finality.fin.epoch q2 r2.2
   by_cases g5:¬ earV s v.ns (findR v.ns c1.root) c1.epoch
   ·simp only[ZG,seval,Bool.false_and,Prod.mk.injEq,DY59,dy59b,lapC,lapN,a1,a2,hs.tree,k46 _ _ hs.nn,k47 _ hu hs.nn,k98 s hp hf,hs.tables,k65 _ hs.nT hft,decide_true,decide_false,g1,g2,q1,q2,r1,r2,bf g3,bf g4,ke1,ke2,g5]
    exact⟨_,by apply xthree;rfl;all_goals simp only[keep_none,resA,Z8,seval,a1,a2]<;>rfl,by rw[if_pos (show cuBad s v c1 s.finality.fin by simp only[cuBad,g1,g2,g3,g4,g5,not_true_eq_false,not_false_eq_true,true_or,or_true])]⟩
   replace g5:=Classical.not_not.1 g5
   by_cases g6:¬ earV s v.ns (findR v.ns s.finality.fin.root) s.finality.fin.epoch
   ·simp only[ZG,seval,Bool.false_and,Prod.mk.injEq,DY59,dy59b,lapC,lapN,a1,a2,hs.tree,k46 _ _ hs.nn,k47 _ hu hs.nn,k98 s hp hf,hs.tables,k65 _ hs.nT hft,decide_true,decide_false,g1,g2,q1,q2,r1,r2,bf g3,bf g4,ke1,ke2,g5,g6]
    exact⟨_,by apply xthree;rfl;all_goals simp only[keep_none,resA,Z8,seval,a1,a2]<;>rfl,by rw[if_pos (show cuBad s v c1 s.finality.fin by simp only[cuBad,g1,g2,g3,g4,g5,g6,not_true_eq_false,not_false_eq_true,true_or,or_true])]⟩
   replace g6:=Classical.not_not.1 g6
   by_cases g7:anc v.ns (findR v.ns s.finality.fin.root) (findR v.ns c1.root)=false
   ·simp only[ZG,seval,Bool.false_and,Prod.mk.injEq,DY59,dy59b,lapC,lapN,a1,a2,hs.tree,k46 _ _ hs.nn,k47 _ hu hs.nn,k98 s hp hf,hs.tables,k65 _ hs.nT hft,decide_true,decide_false,g1,g2,q1,q2,r1,r2,bf g3,bf g4,ke1,ke2,g5,g6,g7]
    exact⟨_,by apply xthree;rfl;all_goals simp only[keep_none,resA,Z8,seval,a1,a2]<;>rfl,by rw[if_pos (show cuBad s v c1 s.finality.fin by simp only[cuBad,g1,g2,g3,g4,g5,g6,g7,not_true_eq_false,not_false_eq_true,true_or,or_true])]⟩
   replace g7:=(by simpa using g7:anc v.ns _ _=true)
   by_cases g8:c1.epoch < s.finality.fin.epoch
   ·simp only[ZG,seval,Bool.false_and,Prod.mk.injEq,DY59,dy59b,lapC,lapN,a1,a2,hs.tree,k46 _ _ hs.nn,k47 _ hu hs.nn,k98 s hp hf,hs.tables,k65 _ hs.nT hft,decide_true,decide_false,g1,g2,q1,q2,r1,r2,bf g3,bf g4,ke1,ke2,g5,g6,g7,g7,g8]
    exact⟨_,by apply xthree;rfl;all_goals simp only[keep_none,resA,Z8,seval,a1,a2]<;>rfl,by rw[if_pos (show cuBad s v c1 s.finality.fin by simp only[cuBad,g1,g2,g3,g4,g5,g6,g7,g8,not_true_eq_false,not_false_eq_true,true_or,or_true])]⟩
   by_cases g9:epV s s.now < c1.epoch
   ·simp only[ZG,seval,Bool.false_and,Prod.mk.injEq,DY59,dy59b,lapC,lapN,a1,a2,hs.tree,k46 _ _ hs.nn,k47 _ hu hs.nn,k98 s hp hf,hs.tables,k65 _ hs.nT hft,decide_true,decide_false,g1,g2,q1,q2,r1,r2,bf g3,bf g4,ke1,ke2,g5,g6,g7,g7,g8,g9]
    exact⟨_,by apply xthree;rfl;all_goals simp only[keep_none,resA,Z8,seval,a1,a2]<;>rfl,by rw[if_pos (show cuBad s v c1 s.finality.fin by simp only[cuBad,g1,g2,g3,g4,g5,g6,g7,g8,g9,not_true_eq_false,not_false_eq_true,true_or,or_true])]⟩
   by_cases g10:ftV (ol v.T) c1 < 0
   ·simp only[ZG,seval,Bool.false_and,Prod.mk.injEq,DY59,dy59b,lapC,lapN,a1,a2,hs.tree,k46 _ _ hs.nn,k47 _ hu hs.nn,k98 s hp hf,hs.tables,k65 _ hs.nT hft,decide_true,decide_false,g1,g2,q1,q2,r1,r2,bf g3,bf g4,ke1,ke2,g5,g6,g7,g7,g8,g9,g10]
    exact⟨_,by apply xthree;rfl;all_goals simp only[keep_none,resA,Z8,seval,a1,a2]<;>rfl,by rw[if_pos (show cuBad s v c1 s.finality.fin by simp only[cuBad,g1,g2,g3,g4,g5,g6,g7,g8,g9,g10,not_true_eq_false,not_false_eq_true,true_or,or_true])]⟩
   simp only[ZG,seval,Bool.false_and,Prod.mk.injEq,DY59,dy59b,lapC,lapN,a1,a2,hs.tree,k46 _ _ hs.nn,k47 _ hu hs.nn,k98 s hp hf,hs.tables,k65 _ hs.nT hft,decide_true,decide_false,g1,g2,q1,q2,r1,r2,bf g3,bf g4,ke1,ke2,g5,g6,g7,g7,g8,g9,g10]
   exact⟨_,by apply xthree;rfl;all_goals simp only[keep_none,resA,Z8,seval,a1,a2]<;>rfl,by rw[if_neg (show ¬ cuBad s v c1 s.finality.fin by simp only[cuBad,g1,g2,g3,g4,g5,g6,g7,g8,g9,g10,not_true_eq_false,not_false_eq_true,or_self,Bool.true_eq_false])]⟩
 ·rw[show cuJ s c1=s.finality.just from if_neg a1]
  by_cases a2:s.finality.fin.epoch < c2.epoch
  ·rw[show cuF s c2=c2 from if_pos a2]
   have r1:=findR_range v.ns s.finality.just.root
   have r2:=findR_range v.ns c2.root
   by_cases g1:findR v.ns s.finality.just.root < 0
   ·simp only[ZG,seval,Bool.false_and,Prod.mk.injEq,DY59,dy59b,lapC,lapN,a1,a2,hs.tree,k46 _ _ hs.nn,k47 _ hu hs.nn,k98 s hp hf,hs.tables,k65 _ hs.nT hft,decide_true,decide_false,g1]
    exact⟨_,by apply xthree;rfl;all_goals simp only[keep_none,resA,Z8,seval,a1,a2]<;>rfl,by rw[if_pos (show cuBad s v s.finality.just c2 by simp only[cuBad,g1,not_true_eq_false,not_false_eq_true,true_or,or_true])]⟩
   by_cases g2:findR v.ns c2.root < 0
   ·simp only[ZG,seval,Bool.false_and,Prod.mk.injEq,DY59,dy59b,lapC,lapN,a1,a2,hs.tree,k46 _ _ hs.nn,k47 _ hu hs.nn,k98 s hp hf,hs.tables,k65 _ hs.nT hft,decide_true,decide_false,g1,g2]
    exact⟨_,by apply xthree;rfl;all_goals simp only[keep_none,resA,Z8,seval,a1,a2]<;>rfl,by rw[if_pos (show cuBad s v s.finality.just c2 by simp only[cuBad,g1,g2,not_true_eq_false,not_false_eq_true,true_or,or_true])]⟩
   have q1:0≤findR v.ns s.finality.just.root:=by omega
   have q2:0≤findR v.ns c2.root:=by omega
   by_cases g3:(nd v.ns (findR v.ns s.finality.just.root)).status=2
   ·simp only[ZG,seval,Bool.false_and,Prod.mk.injEq,DY59,dy59b,lapC,lapN,a1,a2,hs.tree,k46 _ _ hs.nn,k47 _ hu hs.nn,k98 s hp hf,hs.tables,k65 _ hs.nT hft,decide_true,decide_false,g1,g2,q1,q2,r1,r2,bt g3]
    exact⟨_,by apply xthree;rfl;all_goals simp only[keep_none,resA,Z8,seval,a1,a2]<;>rfl,by rw[if_pos (show cuBad s v s.finality.just c2 by simp only[cuBad,g1,g2,g3,not_true_eq_false,not_false_eq_true,true_or,or_true])]⟩
   by_cases g4:(nd v.ns (findR v.ns c2.root)).status=2
   ·simp only[ZG,seval,Bool.false_and,Prod.mk.injEq,DY59,dy59b,lapC,lapN,a1,a2,hs.tree,k46 _ _ hs.nn,k47 _ hu hs.nn,k98 s hp hf,hs.tables,k65 _ hs.nT hft,decide_true,decide_false,g1,g2,q1,q2,r1,r2,bf g3,bt g4]
    exact⟨_,by apply xthree;rfl;all_goals simp only[keep_none,resA,Z8,seval,a1,a2]<;>rfl,by rw[if_pos (show cuBad s v s.finality.just c2 by simp only[cuBad,g1,g2,g3,g4,not_true_eq_false,not_false_eq_true,true_or,or_true])]⟩
   have ke1:=k122 hs (findR v.ns s.finality.just.root) s.finality.just.epoch q1 r1.2
   have ke2:=k122 hs (findR v.ns c2.root) c2.epoch q2 r2.2
   by_cases g5:¬ earV s v.ns (findR v.ns s.finality.just.root) s.finality.just.epoch
   ·simp only[ZG,seval,Bool.false_and,Prod.mk.injEq,DY59,dy59b,lapC,lapN,a1,a2,hs.tree,k46 _ _ hs.nn,k47 _ hu hs.nn,k98 s hp hf,hs.tables,k65 _ hs.nT hft,decide_true,decide_false,g1,g2,q1,q2,r1,r2,bf g3,bf g4,ke1,ke2,g5]
    exact⟨_,by apply xthree;rfl;all_goals simp only[keep_none,resA,Z8,seval,a1,a2]<;>rfl,by rw[if_pos (show cuBad s v s.finality.just c2 by simp only[cuBad,g1,g2,g3,g4,g5,not_true_eq_false,not_false_eq_true,true_or,or_true])]⟩
   replace g5:=Classical.not_not.1 g5
   by_cases g6:¬ earV s v.ns (findR v.ns c2.root) c2.epoch
   ·simp only[ZG,seval,Bool.false_and,Prod.mk.injEq,DY59,dy59b,lapC,lapN,a1,a2,hs.tree,k46 _ _ hs.nn,k47 _ hu hs.nn,k98 s hp hf,hs.tables,k65 _ hs.nT hft,decide_true,decide_false,g1,g2,q1,q2,r1,r2,bf g3,bf g4,ke1,ke2,g5,g6]
    exact⟨_,by apply xthree;rfl;all_goals simp only[keep_none,resA,Z8,seval,a1,a2]<;>rfl,by rw[if_pos (show cuBad s v s.finality.just c2 by simp only[cuBad,g1,g2,g3,g4,g5,g6,not_true_eq_false,not_false_eq_true,true_or,or_true])]⟩
   replace g6:=Classical.not_not.1 g6
   by_cases g7:anc v.ns (findR v.ns c2.root) (findR v.ns s.finality.just.root)=false
   ·simp only[ZG,seval,Bool.false_and,Prod.mk.injEq,DY59,dy59b,lapC,lapN,a1,a2,hs.tree,k46 _ _ hs.nn,k47 _ hu hs.nn,k98 s hp hf,hs.tables,k65 _ hs.nT hft,decide_true,decide_false,g1,g2,q1,q2,r1,r2,bf g3,bf g4,ke1,ke2,g5,g6,g7]
    exact⟨_,by apply xthree;rfl;all_goals simp only[keep_none,resA,Z8,seval,a1,a2]<;>rfl,by rw[if_pos (show cuBad s v s.finality.just c2 by simp only[cuBad,g1,g2,g3,g4,g5,g6,g7,not_true_eq_false,not_false_eq_true,true_or,or_true])]⟩
   replace g7:=(by simpa using g7:anc v.ns _ _=true)
   by_cases g8:s.finality.just.epoch < c2.epoch
   ·simp only[ZG,seval,Bool.false_and,Prod.mk.injEq,DY59,dy59b,lapC,lapN,a1,a2,hs.tree,k46 _ _ hs.nn,k47 _ hu hs.nn,k98 s hp hf,hs.tables,k65 _ hs.nT hft,decide_true,decide_false,g1,g2,q1,q2,r1,r2,bf g3,bf g4,ke1,ke2,g5,g6,g7,g7,g8]
    exact⟨_,by apply xthree;rfl;all_goals simp only[keep_none,resA,Z8,seval,a1,a2]<;>rfl,by rw[if_pos (show cuBad s v s.finality.just c2 by simp only[cuBad,g1,g2,g3,g4,g5,g6,g7,g8,not_true_eq_false,not_false_eq_true,true_or,or_true])]⟩
   by_cases g9:epV s s.now < s.finality.just.epoch
   ·simp only[ZG,seval,Bool.false_and,Prod.mk.injEq,DY59,dy59b,lapC,lapN,a1,a2,hs.tree,k46 _ _ hs.nn,k47 _ hu hs.nn,k98 s hp hf,hs.tables,k65 _ hs.nT hft,decide_true,decide_false,g1,g2,q1,q2,r1,r2,bf g3,bf g4,ke1,ke2,g5,g6,g7,g7,g8,g9]
    exact⟨_,by apply xthree;rfl;all_goals simp only[keep_none,resA,Z8,seval,a1,a2]<;>rfl,by rw[if_pos (show cuBad s v s.finality.just c2 by simp only[cuBad,g1,g2,g3,g4,g5,g6,g7,g8,g9,not_true_eq_false,not_false_eq_true,true_or,or_true])]⟩
   by_cases g10:ftV (ol v.T) s.finality.just < 0
   ·simp only[ZG,seval,Bool.false_and,Prod.mk.injEq,DY59,dy59b,lapC,lapN,a1,a2,hs.tree,k46 _ _ hs.nn,k47 _ hu hs.nn,k98 s hp hf,hs.tables,k65 _ hs.nT hft,decide_true,decide_false,g1,g2,q1,q2,r1,r2,bf g3,bf g4,ke1,ke2,g5,g6,g7,g7,g8,g9,g10]
    exact⟨_,by apply xthree;rfl;all_goals simp only[keep_none,resA,Z8,seval,a1,a2]<;>rfl,by rw[if_pos (show cuBad s v s.finality.just c2 by simp only[cuBad,g1,g2,g3,g4,g5,g6,g7,g8,g9,g10,not_true_eq_false,not_false_eq_true,true_or,or_true])]⟩
   simp only[ZG,seval,Bool.false_and,Prod.mk.injEq,DY59,dy59b,lapC,lapN,a1,a2,hs.tree,k46 _ _ hs.nn,k47 _ hu hs.nn,k98 s hp hf,hs.tables,k65 _ hs.nT hft,decide_true,decide_false,g1,g2,q1,q2,r1,r2,bf g3,bf g4,ke1,ke2,g5,g6,g7,g7,g8,g9,g10]
   exact⟨_,by apply xthree;rfl;all_goals simp only[keep_none,resA,Z8,seval,a1,a2]<;>rfl,by rw[if_neg (show ¬ cuBad s v s.finality.just c2 by simp only[cuBad,g1,g2,g3,g4,g5,g6,g7,g8,g9,g10,not_true_eq_false,not_false_eq_true,or_self,Bool.true_eq_false])]⟩
  ·rw[show cuF s c2=s.finality.fin from if_neg a2]
   have r1:=findR_range v.ns s.finality.just.root
   have r2:=findR_range v.ns s.finality.fin.root
   by_cases g1:findR v.ns s.finality.just.root < 0
   ·simp only[ZG,seval,Bool.false_and,Prod.mk.injEq,DY59,dy59b,lapC,lapN,a1,a2,hs.tree,k46 _ _ hs.nn,k47 _ hu hs.nn,k98 s hp hf,hs.tables,k65 _ hs.nT hft,decide_true,decide_false,g1]
    exact⟨_,by apply xthree;rfl;all_goals simp only[keep_none,resA,Z8,seval,a1,a2]<;>rfl,by rw[if_pos (show cuBad s v s.finality.just s.finality.fin by simp only[cuBad,g1,not_true_eq_false,not_false_eq_true,true_or,or_true])]⟩
   by_cases g2:findR v.ns s.finality.fin.root < 0
   ·simp only[ZG,seval,Bool.false_and,Prod.mk.injEq,DY59,dy59b,lapC,lapN,a1,a2,hs.tree,k46 _ _ hs.nn,k47 _ hu hs.nn,k98 s hp hf,hs.tables,k65 _ hs.nT hft,decide_true,decide_false,g1,g2]
    exact⟨_,by apply xthree;rfl;all_goals simp only[keep_none,resA,Z8,seval,a1,a2]<;>rfl,by rw[if_pos (show cuBad s v s.finality.just s.finality.fin by simp only[cuBad,g1,g2,not_true_eq_false,not_false_eq_true,true_or,or_true])]⟩
   have q1:0≤findR v.ns s.finality.just.root:=by omega
   have q2:0≤findR v.ns s.finality.fin.root:=by omega
   by_cases g3:(nd v.ns (findR v.ns s.finality.just.root)).status=2
   ·simp only[ZG,seval,Bool.false_and,Prod.mk.injEq,DY59,dy59b,lapC,lapN,a1,a2,hs.tree,k46 _ _ hs.nn,k47 _ hu hs.nn,k98 s hp hf,hs.tables,k65 _ hs.nT hft,decide_true,decide_false,g1,g2,q1,q2,r1,r2,bt g3]
    exact⟨_,by apply xthree;rfl;all_goals simp only[keep_none,resA,Z8,seval,a1,a2]<;>rfl,by rw[if_pos (show cuBad s v s.finality.just s.finality.fin by simp only[cuBad,g1,g2,g3,not_true_eq_false,not_false_eq_true,true_or,or_true])]⟩
   by_cases g4:(nd v.ns (findR v.ns s.finality.fin.root)).status=2
   ·simp only[ZG,seval,Bool.false_and,Prod.mk.injEq,DY59,dy59b,lapC,lapN,a1,a2,hs.tree,k46 _ _ hs.nn,k47 _ hu hs.nn,k98 s hp hf,hs.tables,k65 _ hs.nT hft,decide_true,decide_false,g1,g2,q1,q2,r1,r2,bf g3,bt g4]
    exact⟨_,by apply xthree;rfl;all_goals simp only[keep_none,resA,Z8,seval,a1,a2]<;>rfl,by rw[if_pos (show cuBad s v s.finality.just s.finality.fin by simp only[cuBad,g1,g2,g3,g4,not_true_eq_false,not_false_eq_true,true_or,or_true])]⟩
   have ke1:=k122 hs (findR v.ns s.finality.just.root) s.finality.just.epoch q1 r1.2
   have ke2:=k122 hs (findR v.ns s.finality.fin.root) s.finality.fin.epoch q2 r2.2
   by_cases g5:¬ earV s v.ns (findR v.ns s.finality.just.root) s.finality.just.epoch
   ·simp only[ZG,seval,Bool.false_and,Prod.mk.injEq,DY59,dy59b,lapC,lapN,a1,a2,hs.tree,k46 _ _ hs.nn,k47 _ hu hs.nn,k98 s hp hf,hs.tables,k65 _ hs.nT hft,decide_true,decide_false,g1,g2,q1,q2,r1,r2,bf g3,bf g4,ke1,ke2,g5]
    exact⟨_,by apply xthree;rfl;all_goals simp only[keep_none,resA,Z8,seval,a1,a2]<;>rfl,by rw[if_pos (show cuBad s v s.finality.just s.finality.fin by simp only[cuBad,g1,g2,g3,g4,g5,not_true_eq_false,not_false_eq_true,true_or,or_true])]⟩
   replace g5:=Classical.not_not.1 g5
   by_cases g6:¬ earV s v.ns (findR v.ns s.finality.fin.root) s.finality.fin.epoch
   ·simp only[ZG,seval,Bool.false_and,Prod.mk.injEq,DY59,dy59b,lapC,lapN,a1,a2,hs.tree,k46 _ _ hs.nn,k47 _ hu hs.nn,k98 s hp hf,hs.tables,k65 _ hs.nT hft,decide_true,decide_false,g1,g2,q1,q2,r1,r2,bf g3,bf g4,ke1,ke2,g5,g6]
    exact⟨_,by apply xthree;rfl;all_goals simp only[keep_none,resA,Z8,seval,a1,a2]<;>rfl,by rw[if_pos (show cuBad s v s.finality.just s.finality.fin by simp only[cuBad,g1,g2,g3,g4,g5,g6,not_true_eq_false,not_false_eq_true,true_or,or_true])]⟩
   replace g6:=Classical.not_not.1 g6
   by_cases g7:anc v.ns (findR v.ns s.finality.fin.root) (findR v.ns s.finality.just.root)=false
   ·simp only[ZG,seval,Bool.false_and,Prod.mk.injEq,DY59,dy59b,lapC,lapN,a1,a2,hs.tree,k46 _ _ hs.nn,k47 _ hu hs.nn,k98 s hp hf,hs.tables,k65 _ hs.nT hft,decide_true,decide_false,g1,g2,q1,q2,r1,r2,bf g3,bf g4,ke1,ke2,g5,g6,g7]
    exact⟨_,by apply xthree;rfl;all_goals simp only[keep_none,resA,Z8,seval,a1,a2]<;>rfl,by rw[if_pos (show cuBad s v s.finality.just s.finality.fin by simp only[cuBad,g1,g2,g3,g4,g5,g6,g7,not_true_eq_false,not_false_eq_true,true_or,or_true])]⟩
   replace g7:=(by simpa using g7:anc v.ns _ _=true)
   by_cases g8:s.finality.just.epoch < s.finality.fin.epoch
   ·simp only[ZG,seval,Bool.false_and,Prod.mk.injEq,DY59,dy59b,lapC,lapN,a1,a2,hs.tree,k46 _ _ hs.nn,k47 _ hu hs.nn,k98 s hp hf,hs.tables,k65 _ hs.nT hft,decide_true,decide_false,g1,g2,q1,q2,r1,r2,bf g3,bf g4,ke1,ke2,g5,g6,g7,g7,g8]
    exact⟨_,by apply xthree;rfl;all_goals simp only[keep_none,resA,Z8,seval,a1,a2]<;>rfl,by rw[if_pos (show cuBad s v s.finality.just s.finality.fin by simp only[cuBad,g1,g2,g3,g4,g5,g6,g7,g8,not_true_eq_false,not_false_eq_true,true_or,or_true])]⟩
   by_cases g9:epV s s.now < s.finality.just.epoch
   ·simp only[ZG,seval,Bool.false_and,Prod.mk.injEq,DY59,dy59b,lapC,lapN,a1,a2,hs.tree,k46 _ _ hs.nn,k47 _ hu hs.nn,k98 s hp hf,hs.tables,k65 _ hs.nT hft,decide_true,decide_false,g1,g2,q1,q2,r1,r2,bf g3,bf g4,ke1,ke2,g5,g6,g7,g7,g8,g9]
    exact⟨_,by apply xthree;rfl;all_goals simp only[keep_none,resA,Z8,seval,a1,a2]<;>rfl,by rw[if_pos (show cuBad s v s.finality.just s.finality.fin by simp only[cuBad,g1,g2,g3,g4,g5,g6,g7,g8,g9,not_true_eq_false,not_false_eq_true,true_or,or_true])]⟩
   by_cases g10:ftV (ol v.T) s.finality.just < 0
   ·simp only[ZG,seval,Bool.false_and,Prod.mk.injEq,DY59,dy59b,lapC,lapN,a1,a2,hs.tree,k46 _ _ hs.nn,k47 _ hu hs.nn,k98 s hp hf,hs.tables,k65 _ hs.nT hft,decide_true,decide_false,g1,g2,q1,q2,r1,r2,bf g3,bf g4,ke1,ke2,g5,g6,g7,g7,g8,g9,g10]
    exact⟨_,by apply xthree;rfl;all_goals simp only[keep_none,resA,Z8,seval,a1,a2]<;>rfl,by rw[if_pos (show cuBad s v s.finality.just s.finality.fin by simp only[cuBad,g1,g2,g3,g4,g5,g6,g7,g8,g9,g10,not_true_eq_false,not_false_eq_true,true_or,or_true])]⟩
   simp only[ZG,seval,Bool.false_and,Prod.mk.injEq,DY59,dy59b,lapC,lapN,a1,a2,hs.tree,k46 _ _ hs.nn,k47 _ hu hs.nn,k98 s hp hf,hs.tables,k65 _ hs.nT hft,decide_true,decide_false,g1,g2,q1,q2,r1,r2,bf g3,bf g4,ke1,ke2,g5,g6,g7,g7,g8,g9,g10]
   exact⟨_,by apply xthree;rfl;all_goals simp only[keep_none,resA,Z8,seval,a1,a2]<;>rfl,by rw[if_neg (show ¬ cuBad s v s.finality.just s.finality.fin by simp only[cuBad,g1,g2,g3,g4,g5,g6,g7,g8,g9,g10,not_true_eq_false,not_false_eq_true,or_self,Bool.true_eq_false])]⟩
theorem k59 {s:Store} {v:SV} (hs:SD s v) (hu:UpOk v.ns) (hp:s.cFg.spe≠0) (c1 c2:Ckpt) (st:St) (d:Option Nat):callFn (callL Tryz.prog) 59 [.agg (cStore s),.agg (cCkpt c1),.agg (cCkpt c2)] st d=some { dst:=d,val:=canV s v c1 c2 }:=call_flat (flat3 hs.flat (.agg _ (flat_cCkpt c1)) (.agg _ (flat_cCkpt c2))) (c59 hs hu hp c1 c2) (by unfold canV;split<;>exact .tup _ (flat3 (.agg _ (flat_cCkpt _)) (.agg _ (flat_cCkpt _)) (.v _)))
end Go.Ab.Tryz
end
