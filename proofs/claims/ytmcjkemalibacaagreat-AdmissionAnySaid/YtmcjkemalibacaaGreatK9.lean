/-
  Part 9 of the proof: an evaluator of programs, its soundness, and what functions of this program compute.
-/
import Derived.Test.YtmcjkemalibacaaGreatK8
import Derived.Test.YtmcjkemalibacaaGreatK5
set_option linter.all false
set_option maxRecDepth 20000
set_option maxHeartbeats 40000000
section
namespace Go.Ab
open Classical
instance:Inhabited Node:=⟨zNode⟩
def nd (ns:List Node) (i:Int):Node:=ns.getD i.toNat zNode
def it (l:List Int) (i:Int):Int:=l.getD i.toNat 0
theorem nd_get {ns:List Node} {i:Int} (h0:0≤i) (h1:i < ns.length):∃ h:i.toNat < ns.length,nd ns i=ns[i.toNat]:=by
 have h:i.toNat < ns.length:=by omega
 exact⟨h,by simp[nd,h]⟩
theorem it_get {l:List Int} {i:Int} (h0:0≤i) (h1:i < l.length):∃ h:i.toNat < l.length,it l i=l[i.toNat]:=by
 have h:i.toNat < l.length:=by omega
 exact⟨h,by simp[it,h]⟩
theorem csInt_eq (l:List Int):csInt l=l.map fun x=>.v (.int .i64 x):=by
 induction l with
 | nil=>rfl
 | cons a l ih=>simp only[csInt,List.flatMap_cons,List.map_cons,cInt] at *;rw[ih];rfl
theorem csU64_eq (l:List Int):csU64 l=l.map fun x=>.v (.int .u64 x):=by
 induction l with
 | nil=>rfl
 | cons a l ih=>simp only[csU64,List.flatMap_cons,List.map_cons,cU64] at *;rw[ih];rfl
theorem csInt_app (a b:List Int):csInt (a ++ b)=csInt a ++ csInt b:=by simp[csInt]
theorem csNode_app (a b:List Node):csNode (a ++ b)=csNode a ++ csNode b:=by simp[csNode]
theorem mem_csInt (l:List Int):∀ c∈csInt l,MemFree c:=by rw[csInt_eq];intro c hc;obtain⟨x,_,rfl⟩:=List.mem_map.1 hc;exact .v _
theorem get_csInt {l:List Int} {i:Int} (h0:0≤i) (h1:i < l.length):(csInt l)[i.toNat]? = some (.v (.int .i64 (it l i))):=by
 obtain⟨h,e⟩:=it_get h0 h1
 rw[csInt_eq,List.getElem?_map,List.getElem?_eq_getElem h,e]
 rfl
theorem get_csU64 {l:List Int} {i:Int} (h0:0≤i) (h1:i < l.length):(csU64 l)[i.toNat]? = some (.v (.int .u64 (it l i))):=by
 obtain⟨h,e⟩:=it_get h0 h1
 rw[csU64_eq,List.getElem?_map,List.getElem?_eq_getElem h,e]
 rfl
theorem rd_csNode' {ns:List Node} {i:Int} (h0:0≤i) (h1:i < ns.length):((csNode ns).drop (i.toNat * 240)).take 240=cNode (nd ns i):=by
 obtain⟨h,e⟩:=nd_get h0 h1
 rw[e,← rd_csNode ns i.toNat h]
 rfl
theorem one_ne_zero':((1:Nat)=0)=False:=by simp
theorem zero_ne_one':((0:Nat)=1)=False:=by simp
theorem flat1 {x:AV} (h:Flat x):∀ y∈[x],Flat y:=by simpa using h
theorem flat2 {x y:AV} (h:Flat x) (h':Flat y):∀ z∈[x,y],Flat z:=by simp[h,h']
theorem flat3 {x y u:AV} (h:Flat x) (h':Flat y) (h2:Flat u):∀ z∈[x,y,u],Flat z:=by simp[h,h',h2]
theorem flatT (t:Tree):Flat (.agg (cTree t)):=.agg _ (flat_cTree t)
theorem flatB (t:Block):Flat (.agg (cBlock t)):=.agg _ (flat_cBlock t)
theorem flatR (t:Root):Flat (.agg (cRoot t)):=.agg _ (flat_cRoot t)
theorem flatSl (l:List Int):Flat (.sl l.length (csInt l)):=.sl _ _ (flat_csInt l)
theorem view_sl (st:St) (n:Nat) (cs:List AV):sliceView st (.sl n cs)=some (n,cs):=rfl
theorem view_nil (st:St):sliceView st (.v (.slice none 0 0))=some (0,[]):=rfl
theorem cInt_c (x:Int):cInt x=[.v (.int .i64 x)]:=rfl
theorem cU64_c (x:Int):cU64 x=[.v (.int .u64 x)]:=rfl
theorem cBool_c (x:Bool):cBool x=[.v (.bool x)]:=rfl
namespace Tryz
open Go.Proofs
theorem idx48 (st:St) {ns:List Node} {k:IntKind} {i:Int} (h0:0≤i) (h1:i < ns.length):indexAddrA Tryz.prog st 48 (.sl ns.length (csNode ns)) (.v (.int k i))=some (.ip (cNode (nd ns i)) 0):=by
 have hl:i.toNat < ns.length:=by omega
 have:i.toNat * 240+240≤ns.length * 240:=by rw[← Nat.succ_mul];exact Nat.mul_le_mul_right _ hl
 simp only[indexAddrA,na48,sl48,h0,h1,len_csNode,this,and_self,if_true,rd_csNode' h0 h1]
theorem idx22 (st:St) {l:List Int} {k:IntKind} {i:Int} (h0:0≤i) (h1:i < l.length):indexAddrA Tryz.prog st 22 (.sl l.length (csInt l)) (.v (.int k i))=some (.ip (cInt (it l i)) 0):=by
 obtain⟨h,e⟩:=it_get h0 h1
 have:i.toNat * 1+1≤l.length * 1:=by omega
 have hr:=rd_csInt l i.toNat h
 simp only[indexAddrA,na22,sl22,h0,h1,len_csInt,this,and_self,if_true,e,← hr]
 rfl
theorem ev_callT {call:Nat→List AV→Option AV} {ops:Array Oper} {st:St} {d:Option Nat} {T:Nat} {pos:String} {aft:Array Edge} (g:Nat) (args:Array Operand) (ats:Array Nat) (h:(g == 215 || g == 226 || g == 227 || g == 229 || g == 228 || g == 230 || g == 231 || g == 210 || g == 217 || g == 222 || g == 235 || g == 220 || g == 101 || g == 57 || g == 32)=false) :
 evOp Tryz.prog call ops ⟨d,.call ⟨.value (.func g),args,ats⟩,T,pos,aft,none⟩ st=bnd (callFn call g (args.toList.map st.ev) st d) fun e=>some (e.apply st):=by
 simp only[Bool.or_eq_false_iff] at h
 exact ev_call g args ats (mv_none (by simp only[h,Bool.or_self])) (eat_none (by simp only[h,Bool.or_self]))
theorem ev_callM' {call:Nat→List AV→Option AV} {ops:Array Oper} {st:St} {d:Option Nat} {T:Nat} {pos:String} {aft:Array Edge} (g:Nat) (args:Array Operand) (ats:Array Nat) (h:(g == 215 || g == 226 || g == 227 || g == 229 || g == 228 || g == 230 || g == 231 || g == 210)=true) :
 evOp Tryz.prog call ops ⟨d,.call ⟨.value (.func g),args,ats⟩,T,pos,aft,none⟩ st=bnd (callMv call g (args.toList.map st.ev) st d) fun e=>some (e.apply st):=ev_callM g args ats (mv_some h)
theorem ev_callE {call:Nat→List AV→Option AV} {ops:Array Oper} {st:St} {d:Option Nat} {T:Nat} {pos:String} {aft:Array Edge} (g:Nat) (args:Array Operand) (ats:Array Nat) (h:(g == 217 || g == 222 || g == 235 || g == 220 || g == 101 || g == 57 || g == 32)=true) :
 evOp Tryz.prog call ops ⟨d,.call ⟨.value (.func g),args,ats⟩,T,pos,aft,none⟩ st=bnd (callEat call g (args.toList.map st.ev) st d) fun e=>some (e.apply st):=by
 refine ev_callEat g args ats ?_ (eat_some h)
 simp only[Bool.or_eq_true,beq_iff_eq] at h
 rcases h with (((((h | h) | h) | h) | h) | h) | h<;>(subst h;rfl)
theorem ev_appT {call:Nat→List AV→Option AV} {ops:Array Oper} {st:St} {T:Nat} {pos:String} {aft:Array Edge} (s x:Operand) (S d:Nat) (h:((S == 54 && (d == 36 || d == 42)) || (S == 45 && (d == 84 || d == 91)))=false):evOp Tryz.prog call ops ⟨some d,.call ⟨.builtin .append,#[s,x],#[S,S]⟩,T,pos,aft,none⟩ st=bnd (appendA Tryz.prog st S (st.ev s) (st.ev x)) fun ur =>
 some (((match ur.1 with | some p=>st.setH p.1 p.2 none | none=>st).new d ur.2).put (some d) (.own d (st.cnt d))):=ev_appendT s x S d (pa_none h)
theorem ev_app1 {call:Nat→List AV→Option AV} {ops:Array Oper} {st:St} {T:Nat} {pos:String} {aft:Array Edge} (s x:Operand) (S d:Nat) (h:((S == 54 && (d == 36 || d == 42)) || (S == 45 && (d == 84 || d == 91)))=true) (hn:¬ (st.ev s=.v (.slice none 0 0)∧(sliceView st (st.ev x)).map Prod.fst=some 0)):evOp Tryz.prog call ops ⟨some d,.call ⟨.builtin .append,#[s,x],#[S,S]⟩,T,pos,aft,none⟩ st=bnd (appendA Tryz.prog st S (st.ev s) (st.ev x)) fun ur =>
 some (((match ur.1 with | some p=>st.setH p.1 p.2 none | none=>st).new d ur.2).put (some d) (.own d (st.cnt d))):=ev_appP1 s x S d (pa_some h) hn
theorem ev_app0 {call:Nat→List AV→Option AV} {ops:Array Oper} {st:St} {T:Nat} {pos:String} {aft:Array Edge} (s x:Operand) (S d:Nat) (h:((S == 54 && (d == 36 || d == 42)) || (S == 45 && (d == 84 || d == 91)))=true) (hi:(slInfo Tryz.prog S).isSome=true) (h1:st.ev s=.v (.slice none 0 0)) (h2:(sliceView st (st.ev x)).map Prod.fst=some 0):evOp Tryz.prog call ops ⟨some d,.call ⟨.builtin .append,#[s,x],#[S,S]⟩,T,pos,aft,none⟩ st=some (st.put (some d) (.v (.slice none 0 0))):=ev_appP0 s x S d (pa_some h) hi h1 h2
end Tryz
end Go.Ab
end
section
namespace Go.Ab
open Classical
noncomputable def callQ (call:Nat→List AV→Option AV) (g:Nat) (xs:Option (List AV)) (fl:Bool) (st:St) (d:Option Nat):Option Eff :=
 bnd xs fun xs=>bnd (call g xs) fun r=>if fl=true∨Fresh r then putRes r st d else none
theorem optAll_id {st:St}:∀ (args:List AV),(∀ x∈args,Flat x)→optAll (args.map (expo st))=some args
 | [],_=>rfl
 | x :: xs,h=>by
   simp only[List.map_cons,expo_id (h x (by simp)),optAll,optAll_id xs fun y hy=>h y (by simp[hy]),Option.map_some]
theorem callFn_Q (call:Nat→List AV→Option AV) (g:Nat) (args:List AV) (st:St) (d:Option Nat):callFn call g args st d=callQ call g (optAll (args.map (expo st))) (decide (∀ x∈args,Flat x)) st d:=by
 unfold callFn callQ
 by_cases h:∀ x∈args,Flat x
 ·rw[if_pos h,optAll_id args h]
  have hd:decide (∀ x∈args,Flat x)=true:=decide_eq_true h
  rw[hd]
  simp only[bnd_some,true_or,if_true]
 ·rw[if_neg h]
  cases optAll (args.map (expo st)) with
  | none=>rfl
  | some xs =>
    have hd:decide (∀ x∈args,Flat x)=false:=decide_eq_false h
    rw[hd]
    simp only[bnd_some,Bool.false_eq_true,false_or]
theorem Q_of {call:Nat→List AV→Option AV} {g:Nat} {xs:List AV} {r:AV} {fl:Bool} {st:St} {d:Option Nat} (h:call g xs=some r) (hr:Fresh r) (hf:Flat r):callQ call g (some xs) fl st d=some { dst:=d,val:=r }:=by
 unfold callQ
 simp only[bnd_some,h,hr,or_true,if_true,putRes,if_pos hf]
theorem Q_bool {call:Nat→List AV→Option AV} {g:Nat} {xs:List AV} {b:Bool} {fl:Bool} {st:St} {d:Option Nat} (h:call g xs=some (.v (.bool b))):callQ call g (some xs) fl st d=some { dst:=d,val:=.v (.bool b)}:=Q_of h (.v _) (.v _)
theorem Q_int {call:Nat→List AV→Option AV} {g:Nat} {xs:List AV} {k:IntKind} {b:Int} {fl:Bool} {st:St} {d:Option Nat} (h:call g xs=some (.v (.int k b))):callQ call g (some xs) fl st d=some { dst:=d,val:=.v (.int k b)}:=Q_of h (.v _) (.v _)
theorem Q_uniq {call:Nat→List AV→Option AV} {g:Nat} {xs:List AV} {e sz n:Nat} {cs:List AV} {fl:Bool} {st:St} {d:Nat} (h:call g xs=some (.uniq e sz n cs)) (hr:∀ c∈cs,MemFree c):callQ call g (some xs) fl st (some d)=some { dst:=some d,val:=.own d (st.cnt d),new:=some (d,[.row e sz n cs])}:=by
 have hfr:Fresh (.uniq e sz n cs):=hr
 have hnf:¬ Flat (.uniq e sz n cs):=by intro h;cases h
 unfold callQ
 simp only[bnd_some,h,hfr,or_true,if_true,putRes,if_neg hnf]
 rfl
noncomputable def expoF (o:Option Ent):Option AV :=
 match o with
 | some (.row _ _ n cs)=>if ∀ c∈cs,Flat c then some (.sl n cs) else none
 | _=>none
theorem expo_ownF (st:St) (s g:Nat):expo st (.own s g)=expoF (st.heap s g):=by
 unfold expo expo1 expoF
 rw[if_neg (not_flat_own s g)]
 simp only[if_neg (not_flat_own s g)]
 cases st.heap s g with
 | none=>rfl
 | some e=>cases e<;>rfl
theorem expoF_int (e sz n:Nat) (l:List Int):expoF (some (.row e sz n (csInt l)))=some (.sl n (csInt l)):=by
 unfold expoF;simp only;rw[if_pos (flat_csInt l)]
theorem expoF_u64 (e sz n:Nat) (l:List Int):expoF (some (.row e sz n (csU64 l)))=some (.sl n (csU64 l)):=by
 unfold expoF;simp only;rw[if_pos (flat_csU64 l)]
theorem expoF_node (e sz n:Nat) (l:List Node):expoF (some (.row e sz n (csNode l)))=some (.sl n (csNode l)):=by
 unfold expoF;simp only;rw[if_pos (flat_csNode l)]
theorem expoF_node1 (e sz:Nat) (x:Node):expoF (some (.row e sz 1 (cNode x)))=some (.sl [x].length (csNode [x])):=by
 unfold expoF;simp only;rw[if_pos (flat_cNode x)]
 simp[csNode]
theorem expo_v (st:St) (x:Value):expo st (.v x)=some (.v x):=expo_id (.v x)
theorem expo_tree (st:St) (t:Tree):expo st (.agg (cTree t))=some (.agg (cTree t)):=expo_id (flatT t)
theorem expo_root (st:St) (t:Root):expo st (.agg (cRoot t))=some (.agg (cRoot t)):=expo_id (flatR t)
theorem expo_block (st:St) (t:Block):expo st (.agg (cBlock t))=some (.agg (cBlock t)):=expo_id (flatB t)
theorem expo_slI (st:St) (n:Nat) (l:List Int):expo st (.sl n (csInt l))=some (.sl n (csInt l)):=expo_id (.sl _ _ (flat_csInt l))
theorem expo_slU (st:St) (n:Nat) (l:List Int):expo st (.sl n (csU64 l))=some (.sl n (csU64 l)):=expo_id (.sl _ _ (flat_csU64 l))
theorem expo_nt (st:St):expo st (.agg [.v (.slice none 0 0)])=some (.agg [.v (.slice none 0 0)]):=expo_id (.agg _ (by simp;exact .v _))
theorem optAll_nil {α:Type}:optAll ([]:List (Option α))=some []:=rfl
theorem optAll_some {α:Type} (x:α) (r:List (Option α)):optAll (some x :: r)=(optAll r).map (x :: ·):=rfl
theorem an_int1 (x:Int):anE 3 1 8 (some (1,[.v (.int .i64 x)]))=some (none,.row 3 1 [x].length (csInt [x])):=by
 simp[anE,maxLen];rfl
theorem ao_int1 (l:List Int) (x:Int) (s g:Nat) (h:(l.length:Int) < 1000000):aoE 3 1 8 (some (.row 3 1 l.length (csInt l))) s g (some (1,[.v (.int .i64 x)]))=some (some (s,g),.row 3 1 (l ++ [x]).length (csInt (l ++ [x]))):=by
 simp only[aoE]
 rw[if_pos ⟨by simp,by simp,by simp,by omega,by simp only[maxLen];omega⟩,csInt_app]
 simp[csInt,cInt]
theorem an_node1 (x:Node):anE 76 240 352 (some (1,cNode x))=some (none,.row 76 240 [x].length (csNode [x])):=by
 simp[anE,maxLen,csNode]
theorem ao_node1 (l:List Node) (x:Node) (s g:Nat) (h:(l.length:Int) < 1000000):aoE 76 240 352 (some (.row 76 240 l.length (csNode l))) s g (some (1,cNode x))=some (some (s,g),.row 76 240 (l ++ [x]).length (csNode (l ++ [x]))):=by
 simp only[aoE]
 rw[if_pos ⟨by simp,by simp,by simp,by omega,by simp only[maxLen];omega⟩,csNode_app]
 simp[csNode]
theorem an_nodes (l:List Node) (h:(l.length:Int) < 1000000):anE 76 240 352 (some (l.length,csNode l))=some (none,.row 76 240 l.length (csNode l)):=by
 simp only[anE]
 rw[if_pos (by refine⟨by simp, ?_, ?_⟩<;>(try simp only[maxLen])<;>omega)]
theorem ac_nodes (l:List Node) (h:(l.length:Int) < 1000000):acE 76 240 352 0 [] (some (l.length,csNode l))=some (none,.row 76 240 l.length (csNode l)):=by
 simp only[acE]
 rw[if_pos ⟨by simp,by simp,by simp,by omega,by simp only[maxLen];omega⟩]
 simp
theorem ac_node1 (l:List Node) (x:Node) (h:(l.length:Int) < 1000000):acE 76 240 352 l.length (csNode l) (some (1,cNode x))=some (none,.row 76 240 (l ++ [x]).length (csNode (l ++ [x]))):=by
 simp only[acE]
 rw[if_pos (by refine⟨by simp,by simp,.inr (by omega), ?_, ?_⟩<;>(try simp only[maxLen])<;>omega),csNode_app]
 simp[csNode]
def onI {α:Type} (x:AV) (k:Int→Option α):Option α :=
 match x with
 | .v (.int .i64 v)=>k v
 | _=>none
def onAgg {α:Type} (z:Nat) (x:AV) (k:List AV→Option α):Option α :=
 match x with
 | .agg cs=>if cs.length=z then k cs else none
 | _=>none
@[congr] theorem onI_congr {α:Type} {x y:AV} {k:Int→Option α} (h:x=y):onI x k=onI y k:=by rw[h]
@[congr] theorem onAgg_congr {α:Type} {z:Nat} {x y:AV} {k:List AV→Option α} (h:x=y):onAgg z x k=onAgg z y k:=by rw[h]
def elI {α:Type} (x:AV) (k:Int→Option α) (fb:Option α):Option α :=
 match x with
 | .v (.int .i64 v)=>k v
 | _=>fb
def elAgg {α:Type} (z:Nat) (x:AV) (k:List AV→Option α) (fb:Option α):Option α :=
 match x with
 | .agg cs=>if cs.length=z then k cs else fb
 | _=>fb
def elClo {α:Type} (x:AV) (k:Nat→List AV→Option α) (fb:Option α):Option α :=
 match x with
 | .clo g cs=>k g cs
 | _=>fb
theorem elI_int {α:Type} (v:Int) (k:Int→Option α) (fb:Option α):elI (.v (.int .i64 v)) k fb=k v:=rfl
theorem elAgg_agg {α:Type} (z:Nat) (cs:List AV) (k:List AV→Option α) (fb:Option α) (h:cs.length=z):elAgg z (.agg cs) k fb=k cs:=if_pos h
theorem elClo_clo {α:Type} (g:Nat) (cs:List AV) (k:Nat→List AV→Option α) (fb:Option α):elClo (.clo g cs) k fb=k g cs:=rfl
@[congr] theorem elI_congr {α:Type} {x y:AV} {k:Int→Option α} {fb:Option α} (h:x=y):elI x k fb=elI y k fb:=by rw[h]
@[congr] theorem elAgg_congr {α:Type} {z:Nat} {x y:AV} {k:List AV→Option α} {fb:Option α} (h:x=y):elAgg z x k fb=elAgg z y k fb:=by rw[h]
@[congr] theorem elClo_congr {α:Type} {x y:AV} {k:Nat→List AV→Option α} {fb:Option α} (h:x=y):elClo x k fb=elClo y k fb:=by rw[h]
namespace Tryz
open Go.Proofs
theorem app22_nil (st:St) (x:AV):appendA Tryz.prog st 22 (.v (.slice none 0 0)) x=anE 3 1 8 (sliceView st x):=app_nil sl22 x
theorem app22_own (st:St) (s g:Nat) (x:AV):appendA Tryz.prog st 22 (.own s g) x=aoE 3 1 8 (st.heap s g) s g (sliceView st x):=app_own sl22 s g x
theorem app48_nil (st:St) (x:AV):appendA Tryz.prog st 48 (.v (.slice none 0 0)) x=anE 76 240 352 (sliceView st x):=app_nil sl48 x
theorem app48_own (st:St) (s g:Nat) (x:AV):appendA Tryz.prog st 48 (.own s g) x=aoE 76 240 352 (st.heap s g) s g (sliceView st x):=app_own sl48 s g x
theorem app48_cl (st:St) (n:Nat) (cs:List AV) (x:AV):appendA Tryz.prog st 48 (.cl n cs) x=acE 76 240 352 n cs (sliceView st x):=app_cl sl48 n cs x
theorem idx22_own (st:St) (s g:Nat) (k:IntKind) (i:Int):indexAddrA Tryz.prog st 22 (.own s g) (.v (.int k i))=ioE 3 1 (st.heap s g) s g i:=by
 simp only[indexAddrA,na22,sl22,ioE]
 cases st.heap s g with
 | none=>rfl
 | some e=>cases e<;>rfl
theorem idx48_own (st:St) (s g:Nat) (k:IntKind) (i:Int):indexAddrA Tryz.prog st 48 (.own s g) (.v (.int k i))=ioE 76 240 (st.heap s g) s g i:=by
 simp only[indexAddrA,na48,sl48,ioE]
 cases st.heap s g with
 | none=>rfl
 | some e=>cases e<;>rfl
theorem ioE_int (l:List Int) (s g:Nat) (i:Int) (h0:0≤i) (h1:i < l.length):ioE 3 1 (some (.row 3 1 l.length (csInt l))) s g i=some (.ptr s g i.toNat):=by
 simp[ioE,h0,h1]
theorem ioE_node (l:List Node) (s g:Nat) (i:Int) (h0:0≤i) (h1:i < l.length):ioE 76 240 (some (.row 76 240 l.length (csNode l))) s g i=some (.ptr s g (i.toNat * 240)):=by
 simp[ioE,h0,h1]
theorem expo_aggown (st:St) (s g:Nat):expo st (.agg [.own s g])=(expoF (st.heap s g)).map fun y=>.agg [y]:=by
 have hn:¬ Flat (.agg [.own s g]):=by intro h;cases h with | agg _ h=>exact not_flat_own s g (h _ (by simp))
 unfold expo expoF
 rw[if_neg hn]
 simp only[List.map_cons,List.map_nil]
 unfold expo1
 rw[if_neg (not_flat_own s g)]
 simp only
 cases st.heap s g with
 | none=>rfl
 | some e=>cases e with
   | row a b n cs =>
     by_cases h:∀ c∈cs,Flat c
     ·simp only[if_pos h,optAll,Option.map_some]
     ·simp only[if_neg h,optAll,Option.map_none]
   | _=>rfl
theorem rd_one (x:AV):rd [x] 0 1=[x]:=rfl
theorem up_one (x y:AV):upd [x] 0 [y] 1=[y]:=rfl
theorem up_treeX (x:AV) (t:Tree):upd [x] 0 (cTree t) 1=cTree t:=rfl
theorem up_treeY (x:AV) (t:Tree):upd (cTree t) 0 [x] 1=[x]:=rfl
theorem get_csInt0 {l:List Int} {i:Int} (h0:0≤i) (h1:i < l.length):(csInt l)[i.toNat]? = some (.v (.int .i64 (it l i))):=get_csInt h0 h1
def vow (o:Option Ent):Option (Nat × List AV) :=
 match o with
 | some (.row _ _ n cs)=>some (n,cs)
 | _=>none
theorem vow_row (e sz n:Nat) (cs:List AV):vow (some (.row e sz n cs))=some (n,cs):=rfl
theorem view_ownV (st:St) (s g:Nat):sliceView st (.own s g)=vow (st.heap s g):=by
 simp only[sliceView,vow]
 cases st.heap s g with
 | none=>rfl
 | some o=>cases o<;>rfl
section
variable {call:Nat→List AV→Option AV} {ops:Array Oper} {st:St} {T:Nat} {pos:String} {aft:Array Edge}
theorem ev_bs22 (d:Nat) (x:Operand) {v:Int} (h:st.ev x=.v (.int .i64 v)):evOp Tryz.prog call ops ⟨some d,.buildSlice 22 1 #[(0,x)],T,pos,aft,none⟩ st=some ((st.new d (.row 3 1 1 [.v (.int .i64 v)])).put (some d) (.own d (st.cnt d))):=by
 rw[ev_buildSlice]
 simp[sl22,ze3,bnd,h,AV.stor,Value.oneCell',fillA,AV.cells]
theorem ev_bs48 (d:Nat) (x:Operand) {cs:List AV} (h:st.ev x=.agg cs) (hl:cs.length=240):evOp Tryz.prog call ops ⟨some d,.buildSlice 48 1 #[(0,x)],T,pos,aft,none⟩ st=some ((st.new d (.row 76 240 1 cs)).put (some d) (.own d (st.cnt d))):=by
 rw[ev_buildSlice]
 have hz:(vNode.map AV.v).length=240:=by rw[vNode_c];simp
 simp only[sl48,ze76,bnd,List.toList_toArray,List.all_cons,List.all_nil,h,AV.stor,Bool.and_self,List.map_cons,List.map_nil,fillA,AV.cells,hl,Nat.zero_mul,Nat.zero_add,true_and,List.take_zero,List.nil_append]
 have h2:((List.range 1).flatMap fun _=>vNode.map AV.v)=vNode.map AV.v:=by simp[List.range,List.range.loop]
 rw[h2,if_pos (by simp),if_pos (by rw[hz];exact Nat.le_refl _)]
 rw[List.drop_of_length_le (by rw[hz];exact Nat.le_refl _),List.append_nil]
theorem ev_bs22E (d:Nat) (x:Operand):evOp Tryz.prog call ops ⟨some d,.buildSlice 22 1 #[(0,x)],T,pos,aft,none⟩ st =
 elI (st.ev x) (fun v=>some ((st.new d (.row 3 1 1 [.v (.int .i64 v)])).put (some d) (.own d (st.cnt d)))) (evOp Tryz.prog call ops ⟨some d,.buildSlice 22 1 #[(0,x)],T,pos,aft,none⟩ st):=by
 unfold elI
 split
 ·rename_i v h;exact ev_bs22 d x h
 ·rfl
theorem ev_bs22_3 (d:Nat) (x y z:Operand) {a b c:Int} (h1:st.ev x=.v (.int .i64 a)) (h2:st.ev y=.v (.int .i64 b)) (h3:st.ev z=.v (.int .i64 c)):evOp Tryz.prog call ops ⟨some d,.buildSlice 22 3 #[(0,x),(1,y),(2,z)],T,pos,aft,none⟩ st =
 some ((st.new d (.row 3 1 [a,b,c].length (csInt [a,b,c]))).put (some d) (.own d (st.cnt d))):=by
 rw[ev_buildSlice]
 simp[sl22,ze3,bnd,h1,h2,h3,AV.stor,Value.oneCell',fillA,AV.cells,List.range,List.range.loop,csInt,cInt]
theorem ev_bs22_3E (d:Nat) (x y z:Operand):evOp Tryz.prog call ops ⟨some d,.buildSlice 22 3 #[(0,x),(1,y),(2,z)],T,pos,aft,none⟩ st =
 elI (st.ev x) (fun a=>elI (st.ev y) (fun b=>elI (st.ev z) (fun c=>some ((st.new d (.row 3 1 [a,b,c].length (csInt [a,b,c]))).put (some d) (.own d (st.cnt d)))) (evOp Tryz.prog call ops ⟨some d,.buildSlice 22 3 #[(0,x),(1,y),(2,z)],T,pos,aft,none⟩ st))
  (evOp Tryz.prog call ops ⟨some d,.buildSlice 22 3 #[(0,x),(1,y),(2,z)],T,pos,aft,none⟩ st)) (evOp Tryz.prog call ops ⟨some d,.buildSlice 22 3 #[(0,x),(1,y),(2,z)],T,pos,aft,none⟩ st):=by
 unfold elI
 split
 ·rename_i a h1
  try dsimp only
  split
  ·rename_i b h2
   try dsimp only
   split
   ·rename_i c h3;exact ev_bs22_3 d x y z h1 h2 h3
   ·rfl
  ·rfl
 ·rfl
theorem ev_bs48E (d:Nat) (x:Operand):evOp Tryz.prog call ops ⟨some d,.buildSlice 48 1 #[(0,x)],T,pos,aft,none⟩ st =
 elAgg 240 (st.ev x) (fun cs=>some ((st.new d (.row 76 240 1 cs)).put (some d) (.own d (st.cnt d)))) (evOp Tryz.prog call ops ⟨some d,.buildSlice 48 1 #[(0,x)],T,pos,aft,none⟩ st):=by
 unfold elAgg
 split
 ·rename_i cs h
  split
  ·rename_i hl;exact ev_bs48 d x h hl
  ·rfl
 ·rfl
theorem ev_makeSliceE (S d:Nat) (l c:Operand):evOp Tryz.prog call ops ⟨some d,.makeSlice S l c,T,pos,aft,none⟩ st =
 elI (st.ev l) (fun n=>elI (st.ev c) (fun m=>if 0≤n∧n=m then (bnd (slInfo Tryz.prog S) fun t=>bnd (zeroL Tryz.prog t.1) fun z =>
  if n * t.2.2≤140737488355328∧n≤maxLen then some ((st.new d (.row t.1 t.2.1 n.toNat ((List.range n.toNat).flatMap fun _=>z.map .v))).put (some d) (.own d (st.cnt d))) else none)
  else evOp Tryz.prog call ops ⟨some d,.makeSlice S l c,T,pos,aft,none⟩ st) (evOp Tryz.prog call ops ⟨some d,.makeSlice S l c,T,pos,aft,none⟩ st)) (evOp Tryz.prog call ops ⟨some d,.makeSlice S l c,T,pos,aft,none⟩ st):=by
 unfold elI
 split
 ·rename_i n hl
  split
  ·rename_i m hc
   dsimp only
   split
   ·rename_i hnm
    obtain⟨h0,rfl⟩:=hnm
    have hn:n=(n.toNat:Int):=by omega
    rw[ev_makeSlice S d l c (n:=n.toNat) (by rw[hl,← hn]) (by rw[hc,← hn]),← hn]
   ·rfl
  ·rfl
 ·rfl
theorem ev_callCE (t:Nat) (args:Array Operand) (ats:Array Nat) (d:Option Nat):evOp Tryz.prog call ops ⟨d,.call ⟨.value (.tmp t),args,ats⟩,T,pos,aft,none⟩ st =
 elClo (st.env t) (fun g caps=>bnd (callFn call g (args.toList.map st.ev ++ caps) st d) fun e=>some (e.apply st)) (evOp Tryz.prog call ops ⟨d,.call ⟨.value (.tmp t),args,ats⟩,T,pos,aft,none⟩ st):=by
 unfold elClo
 split
 ·rename_i g caps h;exact ev_callC t args ats h
 ·rfl
end
end Tryz
end Go.Ab
end
namespace Go.Ab
open Classical
theorem una_not (b:Bool):unA .not (.v (.bool b))=some (.v (.bool (!b))):=rfl
theorem una_neg (k:IntKind) (n:Int):unA .neg (.v (.int k n))=some (.v (.int k (k.wrap (0 - n)))):=rfl
theorem una_xor (k:IntKind) (n:Int):unA .xor (.v (.int k n))=some (.v (.int k (k.wrap (BitVec.ofInt k.bits (if k.signed then -1 else k.max) ^^^ BitVec.ofInt k.bits n).toNat))):=rfl
def convK (a b:Option IntKind) (n:Int):Option AV :=
 match a,b with
 | some k,some _=>some (.v (.int k (k.wrap n)))
 | _,_=>none
theorem convK_some (k k':IntKind) (n:Int):convK (some k) (some k') n=some (.v (.int k (k.wrap n))):=rfl
theorem convA_int (P:Program) (s d:Nat) (k:IntKind) (n:Int):convA P s d (.v (.int k n))=convK (intKind P d) (intKind P s) n:=by
 simp only[convA,convK]
 cases intKind P d with
 | none=>rfl
 | some a=>cases intKind P s<;>rfl
theorem add_ptr (s g o k:Nat):addOff (.ptr s g o) k=some (.ptr s g (o+k)):=rfl
theorem add_ip (cs:List AV) (o k:Nat):addOff (.ip cs o) k=if o+k≤cs.length then some (.ip cs (o+k)) else none:=rfl
def loadE (P:Program) (T:Nat) (e:Option Ent) (o:Nat):Option AV :=
 match e with
 | some (.cells cs)=>ldAt P T cs o
 | some (.row _ _ _ cs)=>ldAt P T cs o
 | _=>none
theorem loadE_cells (P:Program) (T o:Nat) (cs:List AV):loadE P T (some (.cells cs)) o=ldAt P T cs o:=rfl
theorem loadE_row (P:Program) (T o e sz n:Nat) (cs:List AV):loadE P T (some (.row e sz n cs)) o=ldAt P T cs o:=rfl
theorem load_ip (P:Program) (st:St) (T o:Nat) (cs:List AV):loadA P st T (.ip cs o)=ldAt P T cs o:=rfl
theorem load_ptr (P:Program) (st:St) (T s g o:Nat):loadA P st T (.ptr s g o)=loadE P T (st.heap s g) o:=by
 simp only[loadA,loadE]
 cases st.heap s g with
 | none=>rfl
 | some e=>cases e<;>rfl
theorem stor_v (x:Value):(AV.v x).stor=x.oneCell':=rfl
theorem stor_agg (cs:List AV):(AV.agg cs).stor=true:=rfl
theorem stor_sl (n:Nat) (cs:List AV):(AV.sl n cs).stor=true:=rfl
theorem stor_cl (n:Nat) (cs:List AV):(AV.cl n cs).stor=true:=rfl
theorem stor_ip (n:Nat) (cs:List AV):(AV.ip cs n).stor=true:=rfl
theorem stor_ptr (s g o:Nat):(AV.ptr s g o).stor=true:=rfl
theorem stor_own (s g:Nat):(AV.own s g).stor=true:=rfl
theorem stor_mp (s g:Nat):(AV.mp s g).stor=true:=rfl
theorem stor_clo (f:Nat) (cs:List AV):(AV.clo f cs).stor=true:=rfl
theorem cel_v (x:Value):(AV.v x).cells=[.v x]:=rfl
theorem cel_agg (cs:List AV):(AV.agg cs).cells=cs:=rfl
theorem cel_sl (n:Nat) (cs:List AV):(AV.sl n cs).cells=[.sl n cs]:=rfl
theorem cel_cl (n:Nat) (cs:List AV):(AV.cl n cs).cells=[.cl n cs]:=rfl
theorem cel_ip (n:Nat) (cs:List AV):(AV.ip cs n).cells=[.ip cs n]:=rfl
theorem cel_ptr (s g o:Nat):(AV.ptr s g o).cells=[.ptr s g o]:=rfl
theorem cel_own (s g:Nat):(AV.own s g).cells=[.own s g]:=rfl
theorem cel_mp (s g:Nat):(AV.mp s g).cells=[.mp s g]:=rfl
theorem cel_clo (f:Nat) (cs:List AV):(AV.clo f cs).cells=[.clo f cs]:=rfl
theorem one_int (k:IntKind) (n:Int):(Value.int k n).oneCell'=true:=rfl
theorem one_bool (b:Bool):(Value.bool b).oneCell'=true:=rfl
theorem one_slice (a:Option Addr) (n m:Nat):(Value.slice a n m).oneCell'=true:=rfl
theorem inb_normal (id:Nat):Ex.normal.inBlock id=.normal:=rfl
theorem inb_ret (id:Nat):Ex.ret.inBlock id=.ret:=rfl
theorem inb_exit (id i:Nat):(Ex.exit i).inBlock id=if i=id then .normal else .exit i:=rfl
theorem gslot_l (l:List Oper) (j:Nat):gslot l.toArray j=(l[j]?).bind (·.dst):=by simp[gslot]
theorem gei (a b:Int):(a≥b)=(b≤a):=rfl
theorem gti (a b:Int):(a > b)=(b < a):=rfl
theorem gen' (a b:Nat):(a≥b)=(b≤a):=rfl
theorem gtn (a b:Nat):(a > b)=(b < a):=rfl
end Go.Ab
section
namespace Go.Ab
open Classical
def cU8 (x:Int):List AV:=[.v (.int .u8 x)]
theorem len_cU8 (x:Int):(cU8 x).length=1:=rfl
theorem flat_cU8 (s:Int):∀ x∈cU8 s,Flat x:=by intro x hx;simp[cU8] at hx;subst hx;exact .v _
def csU8 (l:List Int):List AV:=l.flatMap cU8
theorem flat_csU8 (l:List Int):∀ x∈csU8 l,Flat x:=by
 intro x hx
 obtain⟨y,_,hy⟩:=List.mem_flatMap.1 hx
 exact flat_cU8 y x hy
section
variable {α:Type} {c:α→List AV} {sz:Nat}
theorem fm_len (hc:∀ x,(c x).length=sz) (l:List α):(l.flatMap c).length=l.length * sz:=by
 induction l with
 | nil=>simp
 | cons x l ih=>simp only[List.flatMap_cons,List.length_append,hc,List.length_cons,ih];rw[Nat.succ_mul];omega
theorem fm_take (hc:∀ x,(c x).length=sz):∀ (l:List α) (k:Nat),(l.flatMap c).take (k * sz)=(l.take k).flatMap c
 | [],k=>by simp
 | x :: l,0=>by simp
 | x :: l,k+1=>by
   simp only[List.flatMap_cons,List.take_succ_cons]
   rw[List.take_append,List.take_of_length_le (by rw[hc,Nat.succ_mul];omega),hc,show (k+1) * sz - sz=k * sz by rw[Nat.succ_mul];omega,fm_take hc l k]
theorem fm_drop (hc:∀ x,(c x).length=sz):∀ (l:List α) (k:Nat),(l.flatMap c).drop (k * sz)=(l.drop k).flatMap c
 | [],k=>by simp
 | x :: l,0=>by simp
 | x :: l,k+1=>by
   simp only[List.flatMap_cons,List.drop_succ_cons]
   rw[List.drop_append,List.drop_of_length_le (by rw[hc,Nat.succ_mul];omega),List.nil_append,hc,show (k+1) * sz - sz=k * sz by rw[Nat.succ_mul];omega,fm_drop hc l k]
theorem fm_at (hc:∀ x,(c x).length=sz) {z:α} {l:List α} {i:Int} (h0:0≤i) (h1:i < l.length):((l.flatMap c).drop (i.toNat * sz)).take sz=c (gx z l i):=by
 obtain⟨h,e⟩:=gx_get (z:=z) h0 h1
 rw[fm_drop hc,e]
 have h2:=fm_take hc (l.drop i.toNat) 1
 rw[Nat.one_mul] at h2
 rw[h2]
 have h3:(l.drop i.toNat).take 1=[l[i.toNat]]:=by rw[List.take_one];simp[List.head?_drop,h]
 rw[h3]
 simp
theorem fm_set (hc:∀ x,(c x).length=sz) (l:List α) (k:Nat) (x:α) (h:k < l.length):upd (l.flatMap c) (k * sz) (c x) (k * sz+sz)=(l.set k x).flatMap c:=by
 unfold upd
 rw[fm_take hc,show k * sz+sz=(k+1) * sz by rw[Nat.succ_mul],fm_drop hc,List.set_eq_take_append_cons_drop,if_pos h]
 simp
theorem fm_ld [Ext] {P:Program} {T e n k off:Nat} (hc:∀ x,(c x).length=sz) {z:α} {l:List α} {i:Int} (h0:0≤i) (h1:i < l.length) (hk:ldK P T=some k) (hk0:0 < k) (ho:off+k≤sz) :
 loadE P T (some (.row e sz n (l.flatMap c))) (i.toNat * sz+off)=ldAt P T (c (gx z l i)) off:=by
 obtain⟨hn,_⟩:=gx_get (z:=z) h0 h1
 have hat:=fm_at hc (z:=z) h0 h1
 have hle:i.toNat * sz+sz≤(l.flatMap c).length:=by
  rw[fm_len hc,← Nat.succ_mul];exact Nat.mul_le_mul_right _ hn
 have hcl:=hc (gx z l i)
 simp only[loadE,ldAt]
 unfold ldK at hk
 cases hi:ldInfo P T with
 | none=>rfl
 | some r =>
   obtain⟨b,k'⟩:=r
   rw[hi] at hk
   simp only[Option.map_some,Option.some.injEq] at hk
   subst hk
   have hg:∀ j,j < sz→(l.flatMap c)[i.toNat * sz+j]? = (c (gx z l i))[j]?:=fun j hj=>by
    rw[← hat,List.getElem?_take,if_pos hj,List.getElem?_drop]
   cases b with
   | true =>
     simp only
     have e1:rd (l.flatMap c) (i.toNat * sz+off) k'=rd (c (gx z l i)) off k':=by
      unfold rd
      rw[← hat,List.drop_take,List.drop_drop,List.take_take,Nat.min_eq_left (by omega)]
     rw[e1]
     have l1:k'≤(l.flatMap c).length - (i.toNat * sz+off):=by omega
     have l2:k'≤(c (gx z l i)).length - off:=by omega
     rw[if_pos ⟨hk0,l1⟩,if_pos ⟨hk0,l2⟩]
   | false =>
     simp only
     exact hg off (by omega)
end
theorem cTreeA_f (ns:List Node):cTreeA ⟨.sl ns.length (csNode ns)⟩=cTree ⟨ns⟩:=rfl
theorem up_Store_treeC (s:Store) (l:List Node):upd (cStore s) 115 (cTree ⟨l⟩) 116=cStore { s with tree:=⟨.sl l.length (csNode l)⟩}:=up_Store_tree s ⟨.sl l.length (csNode l)⟩
theorem up_State_treeC (s:State) (l:List Node):upd (cState s) 115 (cTree ⟨l⟩) 116=cState { s with store:={ s.store with tree:=⟨.sl l.length (csNode l)⟩} }:=up_State_store_tree s ⟨.sl l.length (csNode l)⟩
namespace Tryz
open Go.Proofs
theorem expo_Ckpt (st:St) (t:Ckpt):expo st (.agg (cCkpt t))=some (.agg (cCkpt t)):=expo_id (.agg _ (flat_cCkpt t))
theorem expo_Request (st:St) (t:Request):expo st (.agg (cRequest t))=some (.agg (cRequest t)):=expo_id (.agg _ (flat_cRequest t))
theorem expo_storeC (st:St) (s:Store) (h:Flat (.agg (cStore s))):expo st (.agg (cStore s))=some (.agg (cStore s)):=expo_id h
theorem expo_stateC (st:St) (s:State) (h:Flat (.agg (cState s))):expo st (.agg (cState s))=some (.agg (cState s)):=expo_id h
theorem ldsCkpt {T n k off:Nat} {l:List Ckpt} {i:Int} (h0:0≤i) (h1:i < l.length) (hk:ldK Tryz.prog T=some k) (hk0:0 < k) (ho:off+k≤33):loadE Tryz.prog T (some (.row 41 33 n (csCkpt l))) (i.toNat * 33+off)=ldAt Tryz.prog T (cCkpt (gx zCkpt l i)) off:=fm_ld len_cCkpt h0 h1 hk hk0 ho
theorem ldaCkpt {T n k:Nat} {l:List Ckpt} {i:Int} (h0:0≤i) (h1:i < l.length) (hk:ldK Tryz.prog T=some k) (hk0:0 < k) (ho:k≤33):loadE Tryz.prog T (some (.row 41 33 n (csCkpt l))) (i.toNat * 33)=ldAt Tryz.prog T (cCkpt (gx zCkpt l i)) 0:=by
 have h:=ldsCkpt (n:=n) (off:=0) h0 h1 hk hk0 (by omega)
 rw[Nat.add_zero] at h
 exact h
theorem upsCkpt (l:List Ckpt) (i:Int) (x:Ckpt) (h:i.toNat < l.length):upd (csCkpt l) (i.toNat * 33) (cCkpt x) (i.toNat * 33+33)=csCkpt (l.set i.toNat x):=by
 generalize i.toNat=k at h ⊢
 have:=fm_set (c:=cCkpt) (sz:=33) len_cCkpt l k x h
 exact this
theorem view_ovVote (st:St) (o:Option (List Vote)):sliceView st (ov csVote o)=some ((ol o).length,csVote (ol o)):=by cases o<;>rfl
theorem flat_ovVote (o:Option (List Vote)):Flat (ov csVote o):=by
 cases o with
 | none=>exact .v _
 | some l=>exact .sl _ _ (flat_csVote l)
theorem idx37l (st:St) {l:List Vote} {kk:IntKind} {i:Int} (h0:0≤i) (h1:i < l.length):indexAddrA Tryz.prog st 37 (.sl l.length (csVote l)) (.v (.int kk i))=some (.ip (cVote (gx zVote l i)) 0):=by
 have hl:i.toNat < l.length:=by omega
 have h2:i.toNat * 34+34≤(l.flatMap cVote).length:=by rw[fm_len len_cVote,← Nat.succ_mul];exact Nat.mul_le_mul_right _ hl
 have h3:((csVote l).drop (i.toNat * 34)).take 34=cVote (gx zVote l i):=fm_at len_cVote h0 h1
 have h4:(csVote l).length=(l.flatMap cVote).length:=rfl
 (simp only[indexAddrA,na37,sl37,h0,h1,h4,h2,and_self,if_true,h3])<;>rfl
theorem idx37o (st:St) {o:Option (List Vote)} {kk:IntKind} {i:Int} (h0:0≤i) (h1:i < (ol o).length):indexAddrA Tryz.prog st 37 (ov csVote o) (.v (.int kk i))=some (.ip (cVote (gx zVote (ol o) i)) 0):=by
 cases o with
 | none=>simp[ol] at h1;omega
 | some l=>exact idx37l st h0 h1
theorem anoVotes (l:List Vote) (h:(l.length:Int) < 1000000):anE 100 34 48 (some (l.length,csVote l))=some (none,.row 100 34 l.length (csVote l)):=by
 unfold anE
 simp only
 rw[if_pos ⟨fm_len len_cVote l,by omega,by simp only[maxLen];omega⟩]
theorem exFVote (n:Nat) (l:List Vote):expoF (some (.row 100 34 n (csVote l)))=some (.sl n (csVote l)):=by
 unfold expoF;simp only;rw[if_pos (flat_csVote l)]
theorem ldsVote {T n k off:Nat} {l:List Vote} {i:Int} (h0:0≤i) (h1:i < l.length) (hk:ldK Tryz.prog T=some k) (hk0:0 < k) (ho:off+k≤34):loadE Tryz.prog T (some (.row 100 34 n (csVote l))) (i.toNat * 34+off)=ldAt Tryz.prog T (cVote (gx zVote l i)) off:=fm_ld len_cVote h0 h1 hk hk0 ho
theorem ldaVote {T n k:Nat} {l:List Vote} {i:Int} (h0:0≤i) (h1:i < l.length) (hk:ldK Tryz.prog T=some k) (hk0:0 < k) (ho:k≤34):loadE Tryz.prog T (some (.row 100 34 n (csVote l))) (i.toNat * 34)=ldAt Tryz.prog T (cVote (gx zVote l i)) 0:=by
 have h:=ldsVote (n:=n) (off:=0) h0 h1 hk hk0 (by omega)
 rw[Nat.add_zero] at h
 exact h
theorem upsVote (l:List Vote) (i:Int) (x:Vote) (h:i.toNat < l.length):upd (csVote l) (i.toNat * 34) (cVote x) (i.toNat * 34+34)=csVote (l.set i.toNat x):=by
 generalize i.toNat=k at h ⊢
 have:=fm_set (c:=cVote) (sz:=34) len_cVote l k x h
 exact this
theorem view_ovAtt (st:St) (o:Option (List Att)):sliceView st (ov csAtt o)=some ((ol o).length,csAtt (ol o)):=by cases o<;>rfl
theorem flat_ovAtt (o:Option (List Att)) (h:∀ y∈ol o,Flat y.vals):Flat (ov csAtt o):=by
 cases o with
 | none=>exact .v _
 | some l=>exact .sl _ _ (flat_csAtt l h)
theorem idx44l (st:St) {l:List Att} {kk:IntKind} {i:Int} (h0:0≤i) (h1:i < l.length):indexAddrA Tryz.prog st 44 (.sl l.length (csAtt l)) (.v (.int kk i))=some (.ip (cAtt (gx zAtt l i)) 0):=by
 have hl:i.toNat < l.length:=by omega
 have h2:i.toNat * 67+67≤(l.flatMap cAtt).length:=by rw[fm_len len_cAtt,← Nat.succ_mul];exact Nat.mul_le_mul_right _ hl
 have h3:((csAtt l).drop (i.toNat * 67)).take 67=cAtt (gx zAtt l i):=fm_at len_cAtt h0 h1
 have h4:(csAtt l).length=(l.flatMap cAtt).length:=rfl
 (simp only[indexAddrA,na44,sl44,h0,h1,h4,h2,and_self,if_true,h3])<;>rfl
theorem idx44o (st:St) {o:Option (List Att)} {kk:IntKind} {i:Int} (h0:0≤i) (h1:i < (ol o).length):indexAddrA Tryz.prog st 44 (ov csAtt o) (.v (.int kk i))=some (.ip (cAtt (gx zAtt (ol o) i)) 0):=by
 cases o with
 | none=>simp[ol] at h1;omega
 | some l=>exact idx44l st h0 h1
theorem anoAtt1 (x:Att):anE 87 67 104 (some (1,cAtt x))=some (none,.row 87 67 [x].length (csAtt [x])):=by
 simp[anE,maxLen,csAtt]
theorem anoAtts (l:List Att) (h:(l.length:Int) < 1000000):anE 87 67 104 (some (l.length,csAtt l))=some (none,.row 87 67 l.length (csAtt l)):=by
 unfold anE
 simp only
 rw[if_pos ⟨fm_len len_cAtt l,by omega,by simp only[maxLen];omega⟩]
theorem aooAtt1 (l:List Att) (x:Att) (s g:Nat) (h:(l.length:Int) < 1000000):aoE 87 67 104 (some (.row 87 67 l.length (csAtt l))) s g (some (1,cAtt x))=some (some (s,g),.row 87 67 (l ++ [x]).length (csAtt (l ++ [x]))):=by
 simp only[aoE]
 rw[if_pos ⟨by simp,trivial,trivial,by omega,by simp only[maxLen];omega⟩]
 simp[csAtt,List.flatMap_append]
theorem exFAtt (n:Nat) (l:List Att) (h:∀ y∈l,Flat y.vals):expoF (some (.row 87 67 n (csAtt l)))=some (.sl n (csAtt l)):=by
 unfold expoF;simp only;rw[if_pos (flat_csAtt l h)]
theorem view_ovTable (st:St) (o:Option (List Table)):sliceView st (ov csTable o)=some ((ol o).length,csTable (ol o)):=by cases o<;>rfl
theorem flat_ovTable (o:Option (List Table)) (h:∀ y∈ol o,Flat y.bal):Flat (ov csTable o):=by
 cases o with
 | none=>exact .v _
 | some l=>exact .sl _ _ (flat_csTable l h)
theorem expo_ovTable (st:St) (o:Option (List Table)) (h:∀ y∈ol o,Flat y.bal):expo st (ov csTable o)=some (ov csTable o):=expo_id (flat_ovTable o h)
theorem stor_ovTable (o:Option (List Table)):(ov csTable o).stor=true:=by cases o<;>rfl
theorem cel_ovTable (o:Option (List Table)):(ov csTable o).cells=[ov csTable o]:=by cases o<;>rfl
theorem idx51l (st:St) {l:List Table} {kk:IntKind} {i:Int} (h0:0≤i) (h1:i < l.length):indexAddrA Tryz.prog st 51 (.sl l.length (csTable l)) (.v (.int kk i))=some (.ip (cTable (gx zTable l i)) 0):=by
 have hl:i.toNat < l.length:=by omega
 have h2:i.toNat * 34+34≤(l.flatMap cTable).length:=by rw[fm_len len_cTable,← Nat.succ_mul];exact Nat.mul_le_mul_right _ hl
 have h3:((csTable l).drop (i.toNat * 34)).take 34=cTable (gx zTable l i):=fm_at len_cTable h0 h1
 have h4:(csTable l).length=(l.flatMap cTable).length:=rfl
 (simp only[indexAddrA,na51,sl51,h0,h1,h4,h2,and_self,if_true,h3])<;>rfl
theorem idx51o (st:St) {o:Option (List Table)} {kk:IntKind} {i:Int} (h0:0≤i) (h1:i < (ol o).length):indexAddrA Tryz.prog st 51 (ov csTable o) (.v (.int kk i))=some (.ip (cTable (gx zTable (ol o) i)) 0):=by
 cases o with
 | none=>simp[ol] at h1;omega
 | some l=>exact idx51l st h0 h1
theorem anoTable1 (x:Table):anE 118 34 64 (some (1,cTable x))=some (none,.row 118 34 [x].length (csTable [x])):=by
 simp[anE,maxLen,csTable]
theorem anoTables (l:List Table) (h:(l.length:Int) < 1000000):anE 118 34 64 (some (l.length,csTable l))=some (none,.row 118 34 l.length (csTable l)):=by
 unfold anE
 simp only
 rw[if_pos ⟨fm_len len_cTable l,by omega,by simp only[maxLen];omega⟩]
theorem aooTable1 (l:List Table) (x:Table) (s g:Nat) (h:(l.length:Int) < 1000000):aoE 118 34 64 (some (.row 118 34 l.length (csTable l))) s g (some (1,cTable x))=some (some (s,g),.row 118 34 (l ++ [x]).length (csTable (l ++ [x]))):=by
 simp only[aoE]
 rw[if_pos ⟨by simp,trivial,trivial,by omega,by simp only[maxLen];omega⟩]
 simp[csTable,List.flatMap_append]
theorem aooTables (l m:List Table) (s g:Nat) (h:(l.length:Int) < 1000000) (h2:(m.length:Int) < 1000000):aoE 118 34 64 (some (.row 118 34 l.length (csTable l))) s g (some (m.length,csTable m))=some (some (s,g),.row 118 34 (l ++ m).length (csTable (l ++ m))):=by
 simp only[aoE]
 rw[if_pos ⟨fm_len len_cTable m,trivial,trivial,by omega,by simp only[maxLen];omega⟩]
 simp[csTable,List.flatMap_append]
theorem exFTable (n:Nat) (l:List Table) (h:∀ y∈l,Flat y.bal):expoF (some (.row 118 34 n (csTable l)))=some (.sl n (csTable l)):=by
 unfold expoF;simp only;rw[if_pos (flat_csTable l h)]
theorem to51o (st:St) (o:Option (List Table)) (hi:Operand):sliceA Tryz.prog st 51 (ov csTable o) none (some hi)=elI (st.ev hi) (fun j=>if 0≤j∧j≤(ol o).length then some (ov csTable (o.map (·.take j.toNat))) else sliceA Tryz.prog st 51 (ov csTable o) none (some hi)) (sliceA Tryz.prog st 51 (ov csTable o) none (some hi)):=by
 unfold elI
 split
 ·rename_i j hj
  dsimp only
  split
  ·rename_i hc
   obtain⟨j0,j1⟩:=hc
   cases o with
   | none =>
     have:j=0:=by simp[ol] at j1;omega
     subst this
     simp[sliceA,sl51,ov,hj]
   | some l =>
     have j1:j≤l.length:=j1
     have hn:j.toNat≤l.length:=by omega
     simp only[sliceA,sl51,ov,hj]
     rw[if_pos ⟨Int.le_refl _,j0,j1,fm_len len_cTable l⟩]
     simp only[Int.toNat_zero,Nat.zero_mul,List.drop_zero,Int.sub_zero,Option.map_some]
     rw[show (csTable l).take (j.toNat * 34)=csTable (l.take j.toNat) from fm_take len_cTable l j.toNat,List.length_take,Nat.min_eq_left hn]
  ·rfl
 ·rfl
theorem from51o (st:St) (o:Option (List Table)) (lo:Operand):sliceA Tryz.prog st 51 (ov csTable o) (some lo) none=elI (st.ev lo) (fun j=>if 0≤j∧j≤(ol o).length then some (ov csTable (o.map (·.drop j.toNat))) else sliceA Tryz.prog st 51 (ov csTable o) (some lo) none) (sliceA Tryz.prog st 51 (ov csTable o) (some lo) none):=by
 unfold elI
 split
 ·rename_i j hj
  dsimp only
  split
  ·rename_i hc
   obtain⟨j0,j1⟩:=hc
   cases o with
   | none =>
     have:j=0:=by simp[ol] at j1;omega
     subst this
     simp[sliceA,sl51,ov,hj]
   | some l =>
     have j1:j≤l.length:=j1
     have hn:j.toNat≤l.length:=by omega
     have e1:((l.length:Int) - j).toNat=l.length - j.toNat:=by omega
     simp only[sliceA,sl51,ov,hj]
     rw[if_pos ⟨j0,j1,Int.le_refl _,fm_len len_cTable l⟩]
     simp only[Option.map_some,e1]
     rw[show (csTable l).drop (j.toNat * 34)=csTable (l.drop j.toNat) from fm_drop len_cTable l j.toNat,List.length_drop,List.take_of_length_le]
     rw[show csTable (l.drop j.toNat)=(l.drop j.toNat).flatMap cTable from rfl,fm_len len_cTable,List.length_drop]
     exact Nat.le_refl _
  ·rfl
 ·rfl
theorem view_ovBlock (st:St) (o:Option (List Block)):sliceView st (ov csBlock o)=some ((ol o).length,csBlock (ol o)):=by cases o<;>rfl
theorem flat_ovBlock (o:Option (List Block)):Flat (ov csBlock o):=by
 cases o with
 | none=>exact .v _
 | some l=>exact .sl _ _ (flat_csBlock l)
theorem expo_ovBlock (st:St) (o:Option (List Block)):expo st (ov csBlock o)=some (ov csBlock o):=expo_id (flat_ovBlock o)
theorem idx45l (st:St) {l:List Block} {kk:IntKind} {i:Int} (h0:0≤i) (h1:i < l.length):indexAddrA Tryz.prog st 45 (.sl l.length (csBlock l)) (.v (.int kk i))=some (.ip (cBlock (gx zBlock l i)) 0):=by
 have hl:i.toNat < l.length:=by omega
 have h2:i.toNat * 238+238≤(l.flatMap cBlock).length:=by rw[fm_len len_cBlock,← Nat.succ_mul];exact Nat.mul_le_mul_right _ hl
 have h3:((csBlock l).drop (i.toNat * 238)).take 238=cBlock (gx zBlock l i):=fm_at len_cBlock h0 h1
 have h4:(csBlock l).length=(l.flatMap cBlock).length:=rfl
 (simp only[indexAddrA,na45,sl45,h0,h1,h4,h2,and_self,if_true,h3])<;>rfl
theorem idx45o (st:St) {o:Option (List Block)} {kk:IntKind} {i:Int} (h0:0≤i) (h1:i < (ol o).length):indexAddrA Tryz.prog st 45 (ov csBlock o) (.v (.int kk i))=some (.ip (cBlock (gx zBlock (ol o) i)) 0):=by
 cases o with
 | none=>simp[ol] at h1;omega
 | some l=>exact idx45l st h0 h1
theorem anoBlock1 (x:Block):anE 74 238 336 (some (1,cBlock x))=some (none,.row 74 238 [x].length (csBlock [x])):=by
 simp[anE,maxLen,csBlock]
theorem anoBlocks (l:List Block) (h:(l.length:Int) < 1000000):anE 74 238 336 (some (l.length,csBlock l))=some (none,.row 74 238 l.length (csBlock l)):=by
 unfold anE
 simp only
 rw[if_pos ⟨fm_len len_cBlock l,by omega,by simp only[maxLen];omega⟩]
theorem aooBlock1 (l:List Block) (x:Block) (s g:Nat) (h:(l.length:Int) < 1000000):aoE 74 238 336 (some (.row 74 238 l.length (csBlock l))) s g (some (1,cBlock x))=some (some (s,g),.row 74 238 (l ++ [x]).length (csBlock (l ++ [x]))):=by
 simp only[aoE]
 rw[if_pos ⟨by simp,trivial,trivial,by omega,by simp only[maxLen];omega⟩]
 simp[csBlock,List.flatMap_append]
theorem aooBlocks (l m:List Block) (s g:Nat) (h:(l.length:Int) < 1000000) (h2:(m.length:Int) < 1000000):aoE 74 238 336 (some (.row 74 238 l.length (csBlock l))) s g (some (m.length,csBlock m))=some (some (s,g),.row 74 238 (l ++ m).length (csBlock (l ++ m))):=by
 simp only[aoE]
 rw[if_pos ⟨fm_len len_cBlock m,trivial,trivial,by omega,by simp only[maxLen];omega⟩]
 simp[csBlock,List.flatMap_append]
theorem exFBlock (n:Nat) (l:List Block):expoF (some (.row 74 238 n (csBlock l)))=some (.sl n (csBlock l)):=by
 unfold expoF;simp only;rw[if_pos (flat_csBlock l)]
theorem ldsBlock {T n k off:Nat} {l:List Block} {i:Int} (h0:0≤i) (h1:i < l.length) (hk:ldK Tryz.prog T=some k) (hk0:0 < k) (ho:off+k≤238):loadE Tryz.prog T (some (.row 74 238 n (csBlock l))) (i.toNat * 238+off)=ldAt Tryz.prog T (cBlock (gx zBlock l i)) off:=fm_ld len_cBlock h0 h1 hk hk0 ho
theorem ldaBlock {T n k:Nat} {l:List Block} {i:Int} (h0:0≤i) (h1:i < l.length) (hk:ldK Tryz.prog T=some k) (hk0:0 < k) (ho:k≤238):loadE Tryz.prog T (some (.row 74 238 n (csBlock l))) (i.toNat * 238)=ldAt Tryz.prog T (cBlock (gx zBlock l i)) 0:=by
 have h:=ldsBlock (n:=n) (off:=0) h0 h1 hk hk0 (by omega)
 rw[Nat.add_zero] at h
 exact h
theorem to45o (st:St) (o:Option (List Block)) (hi:Operand):sliceA Tryz.prog st 45 (ov csBlock o) none (some hi)=elI (st.ev hi) (fun j=>if 0≤j∧j≤(ol o).length then some (ov csBlock (o.map (·.take j.toNat))) else sliceA Tryz.prog st 45 (ov csBlock o) none (some hi)) (sliceA Tryz.prog st 45 (ov csBlock o) none (some hi)):=by
 unfold elI
 split
 ·rename_i j hj
  dsimp only
  split
  ·rename_i hc
   obtain⟨j0,j1⟩:=hc
   cases o with
   | none =>
     have:j=0:=by simp[ol] at j1;omega
     subst this
     simp[sliceA,sl45,ov,hj]
   | some l =>
     have j1:j≤l.length:=j1
     have hn:j.toNat≤l.length:=by omega
     simp only[sliceA,sl45,ov,hj]
     rw[if_pos ⟨Int.le_refl _,j0,j1,fm_len len_cBlock l⟩]
     simp only[Int.toNat_zero,Nat.zero_mul,List.drop_zero,Int.sub_zero,Option.map_some]
     rw[show (csBlock l).take (j.toNat * 238)=csBlock (l.take j.toNat) from fm_take len_cBlock l j.toNat,List.length_take,Nat.min_eq_left hn]
  ·rfl
 ·rfl
theorem from45o (st:St) (o:Option (List Block)) (lo:Operand):sliceA Tryz.prog st 45 (ov csBlock o) (some lo) none=elI (st.ev lo) (fun j=>if 0≤j∧j≤(ol o).length then some (ov csBlock (o.map (·.drop j.toNat))) else sliceA Tryz.prog st 45 (ov csBlock o) (some lo) none) (sliceA Tryz.prog st 45 (ov csBlock o) (some lo) none):=by
 unfold elI
 split
 ·rename_i j hj
  dsimp only
  split
  ·rename_i hc
   obtain⟨j0,j1⟩:=hc
   cases o with
   | none =>
     have:j=0:=by simp[ol] at j1;omega
     subst this
     simp[sliceA,sl45,ov,hj]
   | some l =>
     have j1:j≤l.length:=j1
     have hn:j.toNat≤l.length:=by omega
     have e1:((l.length:Int) - j).toNat=l.length - j.toNat:=by omega
     simp only[sliceA,sl45,ov,hj]
     rw[if_pos ⟨j0,j1,Int.le_refl _,fm_len len_cBlock l⟩]
     simp only[Option.map_some,e1]
     rw[show (csBlock l).drop (j.toNat * 238)=csBlock (l.drop j.toNat) from fm_drop len_cBlock l j.toNat,List.length_drop,List.take_of_length_le]
     rw[show csBlock (l.drop j.toNat)=(l.drop j.toNat).flatMap cBlock from rfl,fm_len len_cBlock,List.length_drop]
     exact Nat.le_refl _
  ·rfl
 ·rfl
theorem view_ovRequest (st:St) (o:Option (List Request)):sliceView st (ov csRequest o)=some ((ol o).length,csRequest (ol o)):=by cases o<;>rfl
theorem flat_ovRequest (o:Option (List Request)):Flat (ov csRequest o):=by
 cases o with
 | none=>exact .v _
 | some l=>exact .sl _ _ (flat_csRequest l)
theorem idx54l (st:St) {l:List Request} {kk:IntKind} {i:Int} (h0:0≤i) (h1:i < l.length):indexAddrA Tryz.prog st 54 (.sl l.length (csRequest l)) (.v (.int kk i))=some (.ip (cRequest (gx zRequest l i)) 0):=by
 have hl:i.toNat < l.length:=by omega
 have h2:i.toNat * 35+35≤(l.flatMap cRequest).length:=by rw[fm_len len_cRequest,← Nat.succ_mul];exact Nat.mul_le_mul_right _ hl
 have h3:((csRequest l).drop (i.toNat * 35)).take 35=cRequest (gx zRequest l i):=fm_at len_cRequest h0 h1
 have h4:(csRequest l).length=(l.flatMap cRequest).length:=rfl
 (simp only[indexAddrA,na54,sl54,h0,h1,h4,h2,and_self,if_true,h3])<;>rfl
theorem idx54o (st:St) {o:Option (List Request)} {kk:IntKind} {i:Int} (h0:0≤i) (h1:i < (ol o).length):indexAddrA Tryz.prog st 54 (ov csRequest o) (.v (.int kk i))=some (.ip (cRequest (gx zRequest (ol o) i)) 0):=by
 cases o with
 | none=>simp[ol] at h1;omega
 | some l=>exact idx54l st h0 h1
theorem anoRequest1 (x:Request):anE 63 35 56 (some (1,cRequest x))=some (none,.row 63 35 [x].length (csRequest [x])):=by
 simp[anE,maxLen,csRequest]
theorem anoRequests (l:List Request) (h:(l.length:Int) < 1000000):anE 63 35 56 (some (l.length,csRequest l))=some (none,.row 63 35 l.length (csRequest l)):=by
 unfold anE
 simp only
 rw[if_pos ⟨fm_len len_cRequest l,by omega,by simp only[maxLen];omega⟩]
theorem aooRequest1 (l:List Request) (x:Request) (s g:Nat) (h:(l.length:Int) < 1000000):aoE 63 35 56 (some (.row 63 35 l.length (csRequest l))) s g (some (1,cRequest x))=some (some (s,g),.row 63 35 (l ++ [x]).length (csRequest (l ++ [x]))):=by
 simp only[aoE]
 rw[if_pos ⟨by simp,trivial,trivial,by omega,by simp only[maxLen];omega⟩]
 simp[csRequest,List.flatMap_append]
theorem aooRequests (l m:List Request) (s g:Nat) (h:(l.length:Int) < 1000000) (h2:(m.length:Int) < 1000000):aoE 63 35 56 (some (.row 63 35 l.length (csRequest l))) s g (some (m.length,csRequest m))=some (some (s,g),.row 63 35 (l ++ m).length (csRequest (l ++ m))):=by
 simp only[aoE]
 rw[if_pos ⟨fm_len len_cRequest m,trivial,trivial,by omega,by simp only[maxLen];omega⟩]
 simp[csRequest,List.flatMap_append]
theorem exFRequest (n:Nat) (l:List Request):expoF (some (.row 63 35 n (csRequest l)))=some (.sl n (csRequest l)):=by
 unfold expoF;simp only;rw[if_pos (flat_csRequest l)]
theorem ldsRequest {T n k off:Nat} {l:List Request} {i:Int} (h0:0≤i) (h1:i < l.length) (hk:ldK Tryz.prog T=some k) (hk0:0 < k) (ho:off+k≤35):loadE Tryz.prog T (some (.row 63 35 n (csRequest l))) (i.toNat * 35+off)=ldAt Tryz.prog T (cRequest (gx zRequest l i)) off:=fm_ld len_cRequest h0 h1 hk hk0 ho
theorem ldaRequest {T n k:Nat} {l:List Request} {i:Int} (h0:0≤i) (h1:i < l.length) (hk:ldK Tryz.prog T=some k) (hk0:0 < k) (ho:k≤35):loadE Tryz.prog T (some (.row 63 35 n (csRequest l))) (i.toNat * 35)=ldAt Tryz.prog T (cRequest (gx zRequest l i)) 0:=by
 have h:=ldsRequest (n:=n) (off:=0) h0 h1 hk hk0 (by omega)
 rw[Nat.add_zero] at h
 exact h
theorem upsRequest (l:List Request) (i:Int) (x:Request) (h:i.toNat < l.length):upd (csRequest l) (i.toNat * 35) (cRequest x) (i.toNat * 35+35)=csRequest (l.set i.toNat x):=by
 generalize i.toNat=k at h ⊢
 have:=fm_set (c:=cRequest) (sz:=35) len_cRequest l k x h
 exact this
theorem to54o (st:St) (o:Option (List Request)) (hi:Operand):sliceA Tryz.prog st 54 (ov csRequest o) none (some hi)=elI (st.ev hi) (fun j=>if 0≤j∧j≤(ol o).length then some (ov csRequest (o.map (·.take j.toNat))) else sliceA Tryz.prog st 54 (ov csRequest o) none (some hi)) (sliceA Tryz.prog st 54 (ov csRequest o) none (some hi)):=by
 unfold elI
 split
 ·rename_i j hj
  dsimp only
  split
  ·rename_i hc
   obtain⟨j0,j1⟩:=hc
   cases o with
   | none =>
     have:j=0:=by simp[ol] at j1;omega
     subst this
     simp[sliceA,sl54,ov,hj]
   | some l =>
     have j1:j≤l.length:=j1
     have hn:j.toNat≤l.length:=by omega
     simp only[sliceA,sl54,ov,hj]
     rw[if_pos ⟨Int.le_refl _,j0,j1,fm_len len_cRequest l⟩]
     simp only[Int.toNat_zero,Nat.zero_mul,List.drop_zero,Int.sub_zero,Option.map_some]
     rw[show (csRequest l).take (j.toNat * 35)=csRequest (l.take j.toNat) from fm_take len_cRequest l j.toNat,List.length_take,Nat.min_eq_left hn]
  ·rfl
 ·rfl
theorem from54o (st:St) (o:Option (List Request)) (lo:Operand):sliceA Tryz.prog st 54 (ov csRequest o) (some lo) none=elI (st.ev lo) (fun j=>if 0≤j∧j≤(ol o).length then some (ov csRequest (o.map (·.drop j.toNat))) else sliceA Tryz.prog st 54 (ov csRequest o) (some lo) none) (sliceA Tryz.prog st 54 (ov csRequest o) (some lo) none):=by
 unfold elI
 split
 ·rename_i j hj
  dsimp only
  split
  ·rename_i hc
   obtain⟨j0,j1⟩:=hc
   cases o with
   | none =>
     have:j=0:=by simp[ol] at j1;omega
     subst this
     simp[sliceA,sl54,ov,hj]
   | some l =>
     have j1:j≤l.length:=j1
     have hn:j.toNat≤l.length:=by omega
     have e1:((l.length:Int) - j).toNat=l.length - j.toNat:=by omega
     simp only[sliceA,sl54,ov,hj]
     rw[if_pos ⟨j0,j1,Int.le_refl _,fm_len len_cRequest l⟩]
     simp only[Option.map_some,e1]
     rw[show (csRequest l).drop (j.toNat * 35)=csRequest (l.drop j.toNat) from fm_drop len_cRequest l j.toNat,List.length_drop,List.take_of_length_le]
     rw[show csRequest (l.drop j.toNat)=(l.drop j.toNat).flatMap cRequest from rfl,fm_len len_cRequest,List.length_drop]
     exact Nat.le_refl _
  ·rfl
 ·rfl
theorem view_ovRoot (st:St) (o:Option (List Root)):sliceView st (ov csRoot o)=some ((ol o).length,csRoot (ol o)):=by cases o<;>rfl
theorem flat_ovRoot (o:Option (List Root)):Flat (ov csRoot o):=by
 cases o with
 | none=>exact .v _
 | some l=>exact .sl _ _ (flat_csRoot l)
theorem idx70l (st:St) {l:List Root} {kk:IntKind} {i:Int} (h0:0≤i) (h1:i < l.length):indexAddrA Tryz.prog st 70 (.sl l.length (csRoot l)) (.v (.int kk i))=some (.ip (cRoot (gx zRoot l i)) 0):=by
 have hl:i.toNat < l.length:=by omega
 have h2:i.toNat * 32+32≤(l.flatMap cRoot).length:=by rw[fm_len len_cRoot,← Nat.succ_mul];exact Nat.mul_le_mul_right _ hl
 have h3:((csRoot l).drop (i.toNat * 32)).take 32=cRoot (gx zRoot l i):=fm_at len_cRoot h0 h1
 have h4:(csRoot l).length=(l.flatMap cRoot).length:=rfl
 (simp only[indexAddrA,na70,sl70,h0,h1,h4,h2,and_self,if_true,h3])<;>rfl
theorem idx70o (st:St) {o:Option (List Root)} {kk:IntKind} {i:Int} (h0:0≤i) (h1:i < (ol o).length):indexAddrA Tryz.prog st 70 (ov csRoot o) (.v (.int kk i))=some (.ip (cRoot (gx zRoot (ol o) i)) 0):=by
 cases o with
 | none=>simp[ol] at h1;omega
 | some l=>exact idx70l st h0 h1
theorem aooRoot1 (l:List Root) (x:Root) (s g:Nat) (h:(l.length:Int) < 1000000):aoE 27 32 32 (some (.row 27 32 l.length (csRoot l))) s g (some (1,cRoot x))=some (some (s,g),.row 27 32 (l ++ [x]).length (csRoot (l ++ [x]))):=by
 simp only[aoE]
 rw[if_pos ⟨by simp,trivial,trivial,by omega,by simp only[maxLen];omega⟩]
 simp[csRoot,List.flatMap_append]
theorem exFRoot (n:Nat) (l:List Root):expoF (some (.row 27 32 n (csRoot l)))=some (.sl n (csRoot l)):=by
 unfold expoF;simp only;rw[if_pos (flat_csRoot l)]
theorem idx262l (st:St) {l:List Bool} {kk:IntKind} {i:Int} (h0:0≤i) (h1:i < l.length):indexAddrA Tryz.prog st 262 (.sl l.length (csBool l)) (.v (.int kk i))=some (.ip ([.v (.bool (gx false l i))]) 0):=by
 have hl:i.toNat < l.length:=by omega
 have h2:i.toNat * 1+1≤(l.flatMap cBool).length:=by rw[fm_len len_cBool,← Nat.succ_mul];exact Nat.mul_le_mul_right _ hl
 have h3:((csBool l).drop (i.toNat * 1)).take 1=cBool (gx false l i):=fm_at len_cBool h0 h1
 have h4:(csBool l).length=(l.flatMap cBool).length:=rfl
 (simp only[indexAddrA,na262,sl262,h0,h1,h4,h2,and_self,if_true,h3])<;>rfl
theorem anoBool1 (x:Bool):anE 4 1 1 (some (1,[.v (.bool x)]))=some (none,.row 4 1 [x].length (csBool [x])):=by
 simp[anE,maxLen,csBool,cBool]
theorem aooBool1 (l:List Bool) (x:Bool) (s g:Nat) (h:(l.length:Int) < 1000000):aoE 4 1 1 (some (.row 4 1 l.length (csBool l))) s g (some (1,[.v (.bool x)]))=some (some (s,g),.row 4 1 (l ++ [x]).length (csBool (l ++ [x]))):=by
 simp only[aoE]
 rw[if_pos ⟨by simp,trivial,trivial,by omega,by simp only[maxLen];omega⟩]
 simp[csBool,List.flatMap_append,cBool]
theorem exFBool (n:Nat) (l:List Bool):expoF (some (.row 4 1 n (csBool l)))=some (.sl n (csBool l)):=by
 unfold expoF;simp only;rw[if_pos (flat_csBool l)]
theorem flat_ovU8 (o:Option (List Int)):Flat (ov csU8 o):=by
 cases o with
 | none=>exact .v _
 | some l=>exact .sl _ _ (flat_csU8 l)
theorem expo_ovU8 (st:St) (o:Option (List Int)):expo st (ov csU8 o)=some (ov csU8 o):=expo_id (flat_ovU8 o)
theorem anoU81 (x:Int):anE 5 1 1 (some (1,[.v (.int .u8 x)]))=some (none,.row 5 1 [x].length (csU8 [x])):=by
 simp[anE,maxLen,csU8,cU8]
theorem aooU81 (l:List Int) (x:Int) (s g:Nat) (h:(l.length:Int) < 1000000):aoE 5 1 1 (some (.row 5 1 l.length (csU8 l))) s g (some (1,[.v (.int .u8 x)]))=some (some (s,g),.row 5 1 (l ++ [x]).length (csU8 (l ++ [x]))):=by
 simp only[aoE]
 rw[if_pos ⟨by simp,trivial,trivial,by omega,by simp only[maxLen];omega⟩]
 simp[csU8,List.flatMap_append,cU8]
theorem aooU8s (l m:List Int) (s g:Nat) (h:(l.length:Int) < 1000000) (h2:(m.length:Int) < 1000000):aoE 5 1 1 (some (.row 5 1 l.length (csU8 l))) s g (some (m.length,csU8 m))=some (some (s,g),.row 5 1 (l ++ m).length (csU8 (l ++ m))):=by
 simp only[aoE]
 rw[if_pos ⟨fm_len len_cU8 m,trivial,trivial,by omega,by simp only[maxLen];omega⟩]
 simp[csU8,List.flatMap_append]
theorem exFU8 (n:Nat) (l:List Int):expoF (some (.row 5 1 n (csU8 l)))=some (.sl n (csU8 l)):=by
 unfold expoF;simp only;rw[if_pos (flat_csU8 l)]
theorem view_ovInt (st:St) (o:Option (List Int)):sliceView st (ov csInt o)=some ((ol o).length,csInt (ol o)):=by cases o<;>rfl
theorem flat_ovInt (o:Option (List Int)):Flat (ov csInt o):=by
 cases o with
 | none=>exact .v _
 | some l=>exact .sl _ _ (flat_csInt l)
theorem expo_ovInt (st:St) (o:Option (List Int)):expo st (ov csInt o)=some (ov csInt o):=expo_id (flat_ovInt o)
theorem stor_ovInt (o:Option (List Int)):(ov csInt o).stor=true:=by cases o<;>rfl
theorem cel_ovInt (o:Option (List Int)):(ov csInt o).cells=[ov csInt o]:=by cases o<;>rfl
theorem idx22l (st:St) {l:List Int} {kk:IntKind} {i:Int} (h0:0≤i) (h1:i < l.length):indexAddrA Tryz.prog st 22 (.sl l.length (csInt l)) (.v (.int kk i))=some (.ip ([.v (.int .i64 (gx (0:Int) l i))]) 0):=by
 have hl:i.toNat < l.length:=by omega
 have h2:i.toNat * 1+1≤(l.flatMap cInt).length:=by rw[fm_len len_cInt,← Nat.succ_mul];exact Nat.mul_le_mul_right _ hl
 have h3:((csInt l).drop (i.toNat * 1)).take 1=cInt (gx (0:Int) l i):=fm_at len_cInt h0 h1
 have h4:(csInt l).length=(l.flatMap cInt).length:=rfl
 (simp only[indexAddrA,na22,sl22,h0,h1,h4,h2,and_self,if_true,h3])<;>rfl
theorem idx22o (st:St) {o:Option (List Int)} {kk:IntKind} {i:Int} (h0:0≤i) (h1:i < (ol o).length):indexAddrA Tryz.prog st 22 (ov csInt o) (.v (.int kk i))=some (.ip ([.v (.int .i64 (gx (0:Int) (ol o) i))]) 0):=by
 cases o with
 | none=>simp[ol] at h1;omega
 | some l=>exact idx22l st h0 h1
theorem anoInts (l:List Int) (h:(l.length:Int) < 1000000):anE 3 1 8 (some (l.length,csInt l))=some (none,.row 3 1 l.length (csInt l)):=by
 unfold anE
 simp only
 rw[if_pos ⟨fm_len len_cInt l,by omega,by simp only[maxLen];omega⟩]
theorem aooInt1 (l:List Int) (x:Int) (s g:Nat) (h:(l.length:Int) < 1000000):aoE 3 1 8 (some (.row 3 1 l.length (csInt l))) s g (some (1,[.v (.int .i64 x)]))=some (some (s,g),.row 3 1 (l ++ [x]).length (csInt (l ++ [x]))):=by
 simp only[aoE]
 rw[if_pos ⟨by simp,trivial,trivial,by omega,by simp only[maxLen];omega⟩]
 simp[csInt,List.flatMap_append,cInt]
theorem aooInts (l m:List Int) (s g:Nat) (h:(l.length:Int) < 1000000) (h2:(m.length:Int) < 1000000):aoE 3 1 8 (some (.row 3 1 l.length (csInt l))) s g (some (m.length,csInt m))=some (some (s,g),.row 3 1 (l ++ m).length (csInt (l ++ m))):=by
 simp only[aoE]
 rw[if_pos ⟨fm_len len_cInt m,trivial,trivial,by omega,by simp only[maxLen];omega⟩]
 simp[csInt,List.flatMap_append]
theorem exFInt (n:Nat) (l:List Int):expoF (some (.row 3 1 n (csInt l)))=some (.sl n (csInt l)):=by
 unfold expoF;simp only;rw[if_pos (flat_csInt l)]
theorem to22o (st:St) (o:Option (List Int)) (hi:Operand):sliceA Tryz.prog st 22 (ov csInt o) none (some hi)=elI (st.ev hi) (fun j=>if 0≤j∧j≤(ol o).length then some (ov csInt (o.map (·.take j.toNat))) else sliceA Tryz.prog st 22 (ov csInt o) none (some hi)) (sliceA Tryz.prog st 22 (ov csInt o) none (some hi)):=by
 unfold elI
 split
 ·rename_i j hj
  dsimp only
  split
  ·rename_i hc
   obtain⟨j0,j1⟩:=hc
   cases o with
   | none =>
     have:j=0:=by simp[ol] at j1;omega
     subst this
     simp[sliceA,sl22,ov,hj]
   | some l =>
     have j1:j≤l.length:=j1
     have hn:j.toNat≤l.length:=by omega
     simp only[sliceA,sl22,ov,hj]
     rw[if_pos ⟨Int.le_refl _,j0,j1,fm_len len_cInt l⟩]
     simp only[Int.toNat_zero,Nat.zero_mul,List.drop_zero,Int.sub_zero,Option.map_some]
     rw[show (csInt l).take (j.toNat * 1)=csInt (l.take j.toNat) from fm_take len_cInt l j.toNat,List.length_take,Nat.min_eq_left hn]
  ·rfl
 ·rfl
theorem from22o (st:St) (o:Option (List Int)) (lo:Operand):sliceA Tryz.prog st 22 (ov csInt o) (some lo) none=elI (st.ev lo) (fun j=>if 0≤j∧j≤(ol o).length then some (ov csInt (o.map (·.drop j.toNat))) else sliceA Tryz.prog st 22 (ov csInt o) (some lo) none) (sliceA Tryz.prog st 22 (ov csInt o) (some lo) none):=by
 unfold elI
 split
 ·rename_i j hj
  dsimp only
  split
  ·rename_i hc
   obtain⟨j0,j1⟩:=hc
   cases o with
   | none =>
     have:j=0:=by simp[ol] at j1;omega
     subst this
     simp[sliceA,sl22,ov,hj]
   | some l =>
     have j1:j≤l.length:=j1
     have hn:j.toNat≤l.length:=by omega
     have e1:((l.length:Int) - j).toNat=l.length - j.toNat:=by omega
     simp only[sliceA,sl22,ov,hj]
     rw[if_pos ⟨j0,j1,Int.le_refl _,fm_len len_cInt l⟩]
     simp only[Option.map_some,e1]
     rw[show (csInt l).drop (j.toNat * 1)=csInt (l.drop j.toNat) from fm_drop len_cInt l j.toNat,List.length_drop,List.take_of_length_le]
     rw[show csInt (l.drop j.toNat)=(l.drop j.toNat).flatMap cInt from rfl,fm_len len_cInt,List.length_drop]
     exact Nat.le_refl _
  ·rfl
 ·rfl
theorem view_ovU64 (st:St) (o:Option (List Int)):sliceView st (ov csU64 o)=some ((ol o).length,csU64 (ol o)):=by cases o<;>rfl
theorem flat_ovU64 (o:Option (List Int)):Flat (ov csU64 o):=by
 cases o with
 | none=>exact .v _
 | some l=>exact .sl _ _ (flat_csU64 l)
theorem stor_ovU64 (o:Option (List Int)):(ov csU64 o).stor=true:=by cases o<;>rfl
theorem cel_ovU64 (o:Option (List Int)):(ov csU64 o).cells=[ov csU64 o]:=by cases o<;>rfl
theorem idx34l (st:St) {l:List Int} {kk:IntKind} {i:Int} (h0:0≤i) (h1:i < l.length):indexAddrA Tryz.prog st 34 (.sl l.length (csU64 l)) (.v (.int kk i))=some (.ip ([.v (.int .u64 (gx (0:Int) l i))]) 0):=by
 have hl:i.toNat < l.length:=by omega
 have h2:i.toNat * 1+1≤(l.flatMap cU64).length:=by rw[fm_len len_cU64,← Nat.succ_mul];exact Nat.mul_le_mul_right _ hl
 have h3:((csU64 l).drop (i.toNat * 1)).take 1=cU64 (gx (0:Int) l i):=fm_at len_cU64 h0 h1
 have h4:(csU64 l).length=(l.flatMap cU64).length:=rfl
 (simp only[indexAddrA,na34,sl34,h0,h1,h4,h2,and_self,if_true,h3])<;>rfl
theorem idx34o (st:St) {o:Option (List Int)} {kk:IntKind} {i:Int} (h0:0≤i) (h1:i < (ol o).length):indexAddrA Tryz.prog st 34 (ov csU64 o) (.v (.int kk i))=some (.ip ([.v (.int .u64 (gx (0:Int) (ol o) i))]) 0):=by
 cases o with
 | none=>simp[ol] at h1;omega
 | some l=>exact idx34l st h0 h1
theorem anoU641 (x:Int):anE 23 1 8 (some (1,[.v (.int .u64 x)]))=some (none,.row 23 1 [x].length (csU64 [x])):=by
 simp[anE,maxLen,csU64,cU64]
theorem anoU64s (l:List Int) (h:(l.length:Int) < 1000000):anE 23 1 8 (some (l.length,csU64 l))=some (none,.row 23 1 l.length (csU64 l)):=by
 unfold anE
 simp only
 rw[if_pos ⟨fm_len len_cU64 l,by omega,by simp only[maxLen];omega⟩]
theorem aooU641 (l:List Int) (x:Int) (s g:Nat) (h:(l.length:Int) < 1000000):aoE 23 1 8 (some (.row 23 1 l.length (csU64 l))) s g (some (1,[.v (.int .u64 x)]))=some (some (s,g),.row 23 1 (l ++ [x]).length (csU64 (l ++ [x]))):=by
 simp only[aoE]
 rw[if_pos ⟨by simp,trivial,trivial,by omega,by simp only[maxLen];omega⟩]
 simp[csU64,List.flatMap_append,cU64]
theorem exFU64 (n:Nat) (l:List Int):expoF (some (.row 23 1 n (csU64 l)))=some (.sl n (csU64 l)):=by
 unfold expoF;simp only;rw[if_pos (flat_csU64 l)]
theorem ldsU64 {T n k off:Nat} {l:List Int} {i:Int} (h0:0≤i) (h1:i < l.length) (hk:ldK Tryz.prog T=some k) (hk0:0 < k) (ho:off+k≤1):loadE Tryz.prog T (some (.row 23 1 n (csU64 l))) (i.toNat * 1+off)=ldAt Tryz.prog T ([.v (.int .u64 (gx (0:Int) l i))]) off:=fm_ld len_cU64 h0 h1 hk hk0 ho
theorem ldaU64 {T n k:Nat} {l:List Int} {i:Int} (h0:0≤i) (h1:i < l.length) (hk:ldK Tryz.prog T=some k) (hk0:0 < k) (ho:k≤1):loadE Tryz.prog T (some (.row 23 1 n (csU64 l))) (i.toNat * 1)=ldAt Tryz.prog T ([.v (.int .u64 (gx (0:Int) l i))]) 0:=by
 have h:=ldsU64 (n:=n) (off:=0) h0 h1 hk hk0 (by omega)
 rw[Nat.add_zero] at h
 exact h
theorem upsU64 (l:List Int) (i:Int) (x:Int) (h:i.toNat < l.length):upd (csU64 l) (i.toNat * 1) ([.v (.int .u64 x)]) (i.toNat * 1+1)=csU64 (l.set i.toNat x):=by
 generalize i.toNat=k at h ⊢
 have:=fm_set (c:=cU64) (sz:=1) len_cU64 l k x h
 exact this
end Tryz
end Go.Ab
end
section
namespace Go.Ab.Tryz
open Classical Go.Proofs Go.Ab
theorem aj {a b:Prop} (x:a) (y:b):a∧b:=⟨x,y⟩
def EN:=aj (aj (aj (aj (aj (aj (aj @bnd_some (aj @bnd_none @bnd_assoc)) (aj @onB_bool (aj @evOps_nil @evOps_cons))) (aj (aj @ev_guardS (aj @decide_true @decide_false)) (aj (aj @Int.cast_ofNat_Int @Bool.not_true) (aj @Bool.not_false @Bool.false_eq_true)))) (aj (aj (aj @Bool.true_eq_false (aj @bin_add @bin_sub)) (aj @bin_mul (aj @bin_and @bin_eql))) (aj (aj @bin_neq (aj @bin_lss @bin_leq)) (aj (aj @bin_gtr @bin_geq) (aj @bin_shr @bin_shl))))) (aj (aj (aj (aj @bin_quo (aj @bin_rem @not_false_eq_true)) (aj @ne_eq.{1} (aj @onS_some @onGd_true))) (aj (aj @onGd_false (aj @onGd_undef @Option.bind_some.{0,0})) (aj (aj @ev_move @ev_assign) (aj @ev_pick @ev_binOp)))) (aj (aj (aj @ev_unOp (aj @ev_convert @ev_fieldAddr)) (aj @ev_indexAddr (aj @ev_load @ev_extract))) (aj (aj @ev_build (aj @ev_slice @ev_alloc)) (aj (aj @ev_box @ev_store) (aj @ev_callT @Bool.or_false)))))) (aj (aj (aj (aj (aj @Bool.false_or (aj @Bool.or_true @ev_lenT)) (aj @ev_appT (aj @ev_slice3 @ev_lookup))) (aj (aj @ev_makeMap (aj @ev_mapUpdate @ev_makeFunc)) (aj (aj @expo_ownF @expo_aggown) (aj @idx22_own @idx48_own)))) (aj (aj (aj @ioE_int (aj @ioE_node @get_csInt0)) (aj @expoF_int (aj @expoF_u64 @expoF_node))) (aj (aj @expoF_node1 (aj @Option.map_some.{0,0} @expo_v)) (aj (aj @expo_tree @expo_root) (aj @expo_block @expo_slI))))) (aj (aj (aj (aj @expo_slU (aj @expo_nt @optAll_nil)) (aj @optAll_some (aj @ev_bs22E @ev_bs48E))) (aj (aj @ev_makeSliceE (aj @ev_callCE @elI_int)) (aj (aj @elAgg_agg @elClo_clo) (aj @elV_int @elV_bool)))) (aj (aj (aj @elA_agg (aj @ioE_row @app22_nil)) (aj @app22_own (aj @app48_nil @app48_own))) (aj (aj @app48_cl (aj @view_ownV @vow_row)) (aj (aj @an_int1 @ao_int1) (aj @an_node1 @ao_node1))))))) (aj (aj (aj (aj (aj (aj @an_nodes (aj @ac_nodes @ac_node1)) (aj @apply_upd (aj @apply_updnew @view_sl))) (aj (aj @view_nil (aj @idx48 @idx22)) (aj (aj @ev_const @ev_tmp) (aj @env_put @env_put_none)))) (aj (aj (aj @env_new (aj @env_setH @cnt_put)) (aj @cnt_new (aj @cnt_setH @heap_put))) (aj (aj
 @heap_new (aj @heap_setH @env_init)) (aj (aj @cnt_init @heap_init) (aj @put_none @apply_plain))))) (aj (aj (aj (aj @apply_new (aj @List.toList_toArray.{0} @List.map_cons.{0,0})) (aj @List.map_nil.{0,0} (aj @evL_seq @evL_region))) (aj (aj @evL_block (aj @evL_skip @evL_exit)) (aj (aj @evL_ret @thenL_normal) (aj @thenL_ret @thenL_exit)))) (aj (aj (aj @List.getElem?_cons_zero.{0} (aj @List.getElem?_cons_succ.{0} @List.getElem?_nil.{0})) (aj @Option.getD_some.{0} (aj @Option.getD_none.{0} @and_true))) (aj (aj @true_and (aj @and_self @false_and)) (aj (aj @and_false @if_true.{1}) (aj @if_false.{1} @Nat.succ_ne_zero)))))) (aj (aj (aj (aj (aj @one_ne_zero' (aj @zero_ne_one' @Nat.add_zero)) (aj @Nat.zero_add (aj @ev_bs22_3E @ev_field))) (aj (aj @ev_min (aj @ev_max @minA_int)) (aj (aj @maxA_int @ev_callM') (aj @callMv_own @ev_callE)))) (aj (aj (aj @una_not (aj @una_neg @una_xor)) (aj @convK_some (aj @convA_int @add_ptr))) (aj (aj @add_ip (aj @loadE_cells @loadE_row)) (aj (aj @load_ip @load_ptr) (aj @stor_v @stor_agg))))) (aj (aj (aj (aj @stor_sl (aj @stor_cl @stor_ip)) (aj @stor_ptr (aj @stor_own @stor_mp))) (aj (aj @stor_clo (aj @cel_v @cel_agg)) (aj (aj @cel_sl @cel_cl) (aj @cel_ip @cel_ptr)))) (aj (aj (aj @cel_own (aj @cel_mp @cel_clo)) (aj (aj @one_int @one_bool) (aj @one_slice @inb_normal))) (aj (aj @inb_ret (aj @inb_exit @gslot_l)) (aj (aj @gei @gti) (aj @gen' @gtn)))))))
def EV:=aj EN @evL_condB
def LE:=aj (aj (aj (aj (aj (aj @rd_one @up_one) (aj @up_treeX (aj @up_treeY @len_csNode))) (aj (aj @len_csInt @len_csU64) (aj @cInt_c (aj @cU64_c @cBool_c)))) (aj (aj (aj @len_cU64 @len_cInt) (aj @len_cBool (aj @len_cRoot @len_cWide))) (aj (aj @len_cCkpt @len_cPulled) (aj @len_cBlock (aj @len_cNode @len_cTree))))) (aj (aj (aj (aj @Nat.sub_zero @Nat.le_refl) (aj @fill_nil (aj @fill_cons @Option.map_some.{0,0}))) (aj (aj @List.all_cons.{0} @List.all_nil.{0}) (aj @Bool.and_true (aj @Bool.true_and @Bool.and_self)))) (aj (aj (aj @store_ptr @List.length_cons.{0}) (aj @List.length_nil.{0} (aj @vRoot_c @vWide_c))) (aj (aj @vBlock_c (aj @vCkpt_c @vPulled_c)) (aj @vNode_c (aj @Nat.zero_le @Nat.mul_one)))))) (aj (aj (aj (aj (aj @len_csCkpt @len_csBlock) (aj @len_cTagged (aj @len_cVerdict @len_cLimits))) (aj (aj @len_cConfig @len_cVote) (aj @len_cAtt (aj @len_cClaim @len_cSlashing)))) (aj (aj (aj @len_cTable @len_cRequest) (aj @len_cCommand (aj @len_cVotes @len_cFinality))) (aj (aj @len_cQueues (aj @len_cTreeA @len_cStore)) (aj @len_cState (aj @len_cOpS @len_csVote))))) (aj (aj (aj (aj @len_csRequest @vTagged_c) (aj @vVerdict_c (aj @vLimits_c @vConfig_c))) (aj (aj @vVote_c @vAtt_c) (aj @vClaim_c (aj @vSlashing_c @vTable_c)))) (aj (aj (aj @vRequest_c @vCommand_c) (aj @vVotes_c (aj @vFinality_c @vQueues_c))) (aj (aj @vTreeA_c (aj @vStore_c @vState_c)) (aj @vOpS_c (aj @ol_some @ol_none))))))
def RD:=aj (aj (aj (aj (aj (aj (aj (aj @rd_Root_all @up_Root_all) (aj @rd_Wide_all @up_Wide_all)) (aj (aj @get_Ckpt_epoch @up_Ckpt_epoch) (aj @rd_Ckpt_root (aj @up_Ckpt_root @rd_Ckpt_all)))) (aj (aj (aj @up_Ckpt_all @rd_Pulled_pj) (aj @up_Pulled_pj @get_Pulled_pj_epoch)) (aj (aj @up_Pulled_pj_epoch @rd_Pulled_pf) (aj @up_Pulled_pf (aj @get_Pulled_pf_epoch @rd_Pulled_all))))) (aj (aj (aj (aj @up_Pulled_all @rd_Block_pulled) (aj @up_Block_pulled @rd_Block_pulled_pj)) (aj (aj @up_Block_pulled_pj @get_Block_pulled_pj_epoch) (aj @up_Block_pulled_pj_epoch (aj @rd_Block_pulled_pf @up_Block_pulled_pf)))) (aj (aj (aj @get_Block_pulled_pf_epoch @get_Block_slot) (aj @up_Block_slot @rd_Block_root)) (aj (aj @up_Block_root @rd_Block_parent) (aj @up_Block_parent (aj @rd_Block_payload @up_Block_payload)))))) (aj (aj (aj (aj (aj @rd_Block_diff @up_Block_diff) (aj @rd_Block_pdiff @up_Block_pdiff)) (aj (aj @rd_Block_just @up_Block_just) (aj @get_Block_just_epoch (aj @rd_Block_fin @up_Block_fin)))) (aj (aj (aj @get_Block_fin_epoch @up_Block_fin_root) (aj @get_Block_timely @up_Block_timely)) (aj (aj @rd_Block_all @up_Block_all) (aj @rd_Node_block (aj @up_Node_block @rd_Node_block_pulled))))) (aj (aj (aj (aj @rd_Node_block_pulled_pj @get_Node_block_pulled_pj_epoch) (aj @rd_Node_block_pulled_pf @get_Node_block_pulled_pf_epoch)) (aj (aj @get_Node_block_slot @rd_Node_block_root) (aj @rd_Node_block_payload (aj @rd_Node_block_just @rd_Node_block_fin)))) (aj (aj (aj @get_Node_up @up_Node_up) (aj @get_Node_status (aj @up_Node_status @rd_Node_all))) (aj (aj @up_Node_all @get_Tree_nodes) (aj @rd_Tree_all (aj @up_Tree_all @get_Tagged_tag))))))) (aj (aj (aj (aj (aj (aj @up_Tagged_tag @up_Verdict_tagged) (aj @get_Verdict_tagged_tag @up_Verdict_tagged_tag)) (aj (aj @get_Verdict_kind @up_Verdict_kind) (aj @rd_Verdict_latest (aj @up_Verdict_latest @rd_Verdict_all)))) (aj (aj (aj @up_Verdict_all @get_Limits_nodeL) (aj @up_Limits_nodeL @get_Limits_orphL)) (aj (aj @up_Limits_orphL @get_Limits_earlyL)
 (aj @up_Limits_earlyL (aj @get_Limits_tableL @up_Limits_tableL))))) (aj (aj (aj (aj @get_Limits_retryL @up_Limits_retryL) (aj @get_Limits_backoff @up_Limits_backoff)) (aj (aj @up_Config_lim @get_Config_lim_nodeL) (aj @get_Config_lim_orphL (aj @get_Config_lim_earlyL @get_Config_lim_tableL)))) (aj (aj (aj @get_Config_lim_retryL @get_Config_lim_backoff) (aj @get_Config_spe (aj @up_Config_spe @get_Config_boostP))) (aj (aj @up_Config_boostP @rd_Config_ttd) (aj @up_Config_ttd (aj @rd_Config_genesis @up_Config_genesis)))))) (aj (aj (aj (aj (aj @get_Config_bal @up_Config_bal) (aj @rd_Config_all @up_Config_all)) (aj (aj @get_Vote_has @up_Vote_has) (aj @get_Vote_epoch (aj @up_Vote_epoch @rd_Vote_root)))) (aj (aj (aj @up_Vote_root @rd_Vote_all) (aj @up_Vote_all @get_Att_slot)) (aj (aj @up_Att_slot @rd_Att_root) (aj @up_Att_root (aj @rd_Att_target @up_Att_target))))) (aj (aj (aj (aj @get_Att_target_epoch @up_Att_target_epoch) (aj @rd_Att_target_root @up_Att_target_root)) (aj (aj @get_Att_vals @up_Att_vals) (aj @rd_Att_all (aj @up_Att_all @get_Claim_source)))) (aj (aj (aj @up_Claim_source @get_Claim_target) (aj @up_Claim_target (aj @rd_Claim_root @up_Claim_root))) (aj (aj @get_Claim_vals @up_Claim_vals) (aj @rd_Slashing_first (aj @up_Slashing_first @get_Slashing_first_source)))))))) (aj (aj (aj (aj (aj (aj (aj @get_Slashing_first_target @get_Slashing_first_vals) (aj @rd_Slashing_second @up_Slashing_second)) (aj (aj @get_Slashing_second_source @up_Slashing_second_source) (aj @get_Slashing_second_target (aj @up_Slashing_second_target @up_Slashing_second_root)))) (aj (aj (aj @get_Slashing_second_vals @rd_Slashing_all) (aj @up_Slashing_all @rd_Table_ck)) (aj (aj @up_Table_ck @get_Table_ck_epoch) (aj @rd_Table_ck_root (aj @get_Table_bal @up_Table_bal))))) (aj (aj (aj (aj @rd_Table_all @up_Table_all) (aj @up_Request_tagged @get_Request_tagged_tag)) (aj (aj @rd_Request_block @up_Request_block) (aj @get_Request_tries (aj @up_Request_tries @get_Request_due)))) (aj (aj (aj @up_Request_due
 @rd_Request_all) (aj @up_Request_all (aj @up_Command_head @up_Command_safe))) (aj (aj @up_Command_fin @rd_Command_all) (aj @up_Command_all (aj @get_Votes_latest @up_Votes_latest)))))) (aj (aj (aj (aj (aj @get_Votes_equiv @up_Votes_equiv) (aj @rd_Votes_all @rd_Finality_just)) (aj (aj @up_Finality_just @get_Finality_just_epoch) (aj @rd_Finality_just_root (aj @rd_Finality_fin @up_Finality_fin)))) (aj (aj (aj @get_Finality_fin_epoch @rd_Finality_fin_root) (aj @get_Queues_early @up_Queues_early)) (aj (aj @get_Queues_orphans @up_Queues_orphans) (aj @get_TreeA_nodes (aj @rd_Store_config @up_Store_config))))) (aj (aj (aj (aj @get_Store_config_lim_nodeL @get_Store_config_lim_orphL) (aj @get_Store_config_lim_earlyL @get_Store_config_lim_tableL)) (aj (aj @get_Store_config_lim_retryL @get_Store_config_lim_backoff) (aj @get_Store_config_spe (aj @rd_Store_config_ttd @get_Store_config_bal)))) (aj (aj (aj @rd_Store_votes @get_Store_votes_latest) (aj @up_Store_votes_latest (aj @get_Store_votes_equiv @up_Store_votes_equiv))) (aj (aj @up_Store_finality @rd_Store_finality_just) (aj @up_Store_finality_just (aj @get_Store_finality_just_epoch @rd_Store_finality_just_root))))))) (aj (aj (aj (aj (aj (aj @rd_Store_finality_fin @up_Store_finality_fin) (aj @get_Store_finality_fin_epoch @rd_Store_finality_fin_root)) (aj (aj @get_Store_queues_early @up_Store_queues_early) (aj @get_Store_queues_orphans (aj @up_Store_queues_orphans @rd_Store_tree)))) (aj (aj (aj @up_Store_tree @get_Store_tree_nodes) (aj @get_Store_now @up_Store_now)) (aj (aj @rd_Store_boost @up_Store_boost) (aj @get_Store_tables (aj @up_Store_tables @rd_Store_all))))) (aj (aj (aj (aj @up_Store_all @rd_State_store) (aj @up_State_store @get_State_store_config_lim_retryL)) (aj (aj @get_State_store_config_lim_backoff @get_State_store_config_bal) (aj @get_State_store_votes_latest (aj @get_State_store_votes_equiv @rd_State_store_finality_just_root)))) (aj (aj (aj @rd_State_store_finality_fin_root @get_State_store_queues_early) (aj
 @get_State_store_queues_orphans (aj @rd_State_store_tree @up_State_store_tree))) (aj (aj @get_State_store_tree_nodes @get_State_store_now) (aj @rd_State_store_boost (aj @up_State_store_boost @get_State_store_tables)))))) (aj (aj (aj (aj (aj @get_State_requests @up_State_requests) (aj @get_State_retries @up_State_retries)) (aj (aj @get_State_nextTag @up_State_nextTag) (aj @get_State_sent (aj @up_State_sent @rd_State_last)))) (aj (aj (aj @up_State_last @up_State_overflow) (aj @get_State_halted @up_State_halted)) (aj (aj @rd_State_all @up_State_all) (aj @get_OpS_kind (aj @up_OpS_kind @rd_OpS_block))))) (aj (aj (aj (aj @up_OpS_block @rd_OpS_att) (aj @up_OpS_att @get_OpS_att_vals)) (aj (aj @rd_OpS_slash @up_OpS_slash) (aj @get_OpS_slash_first_vals (aj @get_OpS_slash_second_vals @rd_OpS_table)))) (aj (aj (aj @up_OpS_table @get_OpS_table_bal) (aj @rd_OpS_verdict (aj @up_OpS_verdict @get_OpS_write))) (aj (aj @up_OpS_write @get_OpS_keep) (aj @up_OpS_keep (aj @rd_OpS_all @up_OpS_all))))))))
def FA:=aj (aj (aj (aj (aj (aj (aj (aj @ld3 @ik3) (aj @lk3 @ze3)) (aj (aj @ld23 @ik23) (aj @lk23 (aj @ze23 @ik61)))) (aj (aj (aj @lk61 @ze61) (aj @ld5 (aj @ik5 @lk5))) (aj (aj @ze5 @ik2) (aj @lk2 (aj @ze2 @ik64))))) (aj (aj (aj (aj @lk64 @ze64) (aj @ld4 (aj @lk4 @ze4))) (aj (aj @be4 @ld27) (aj @lk27 (aj @ze27 @eq27)))) (aj (aj (aj @be27 @bn27) (aj @ar27 (aj @bu27 @ld33))) (aj (aj @lk33 @ze33) (aj @ar33 (aj @bu33 @ld41)))))) (aj (aj (aj (aj (aj @lk41 @fo41_0) (aj @fo41_1 @ze41)) (aj (aj @eq41 @be41) (aj @bn41 (aj @bu41 @ld72)))) (aj (aj (aj @lk72 @fo72_0) (aj @fo72_1 (aj @ze72 @bu72))) (aj (aj @ld74 @lk74) (aj @fo74_0 (aj @fo74_1 @fo74_2))))) (aj (aj (aj (aj @fo74_3 @fo74_4) (aj @fo74_5 (aj @fo74_6 @fo74_7))) (aj (aj @fo74_8 @fo74_9) (aj @ze74 (aj @eq74 @be74)))) (aj (aj (aj @bu74 @ld76) (aj @lk76 (aj @fo76_0 @fo76_1))) (aj (aj @fo76_2 @ze76) (aj @bu76 (aj @ld50 @lk50))))))) (aj (aj (aj (aj (aj (aj @fo50_0 @ze50) (aj @bu50 @lk25)) (aj (aj @fo25_0 @ze25) (aj @bu25 (aj @ld29 @lk29)))) (aj (aj (aj @fo29_0 @fo29_1) (aj @fo29_2 (aj @ze29 @eq29))) (aj (aj @be29 @bu29) (aj @lk31 (aj @fo31_0 @fo31_1))))) (aj (aj (aj (aj @fo31_2 @fo31_3) (aj @fo31_4 (aj @fo31_5 @ze31))) (aj (aj @bu31 @ld36) (aj @lk36 (aj @fo36_0 @fo36_1)))) (aj (aj (aj @fo36_2 @fo36_3) (aj @fo36_4 (aj @fo36_5 @ze36))) (aj (aj @bu36 @ld100) (aj @lk100 (aj @fo100_0 @fo100_1)))))) (aj (aj (aj (aj (aj @fo100_2 @ze100) (aj @bu100 (aj @ld87 @lk87))) (aj (aj @fo87_0 @fo87_1) (aj @fo87_2 (aj @fo87_3 @ze87)))) (aj (aj (aj @bu87 @ld186) (aj @lk186 (aj @fo186_0 @fo186_1))) (aj (aj @fo186_2 @fo186_3) (aj @ze186 (aj @bu186 @ld188))))) (aj (aj (aj (aj @lk188 @fo188_0) (aj @fo188_1 (aj @ze188 @bu188))) (aj (aj @ld118 @lk118) (aj @fo118_0 (aj @fo118_1 @ze118)))) (aj (aj (aj @bu118 @ld63) (aj @lk63 (aj @fo63_0 @fo63_1))) (aj (aj @fo63_2 @fo63_3) (aj @ze63 (aj @bu63 @ld56)))))))) (aj (aj (aj (aj (aj (aj (aj @lk56 @fo56_0) (aj @fo56_1 @fo56_2)) (aj (aj @ze56 @eq56) (aj @be56 (aj @bu56 @ld39)))) (aj (aj (aj @lk39 @fo39_0) (aj
 @fo39_1 (aj @ze39 @lk43))) (aj (aj @fo43_0 @fo43_1) (aj @ze43 (aj @bu43 @lk47))))) (aj (aj (aj (aj @fo47_0 @fo47_1) (aj @ze47 (aj @ld53 @lk53))) (aj (aj @fo53_0 @fo53_1) (aj @fo53_2 (aj @fo53_3 @fo53_4)))) (aj (aj (aj @fo53_5 @fo53_6) (aj @fo53_7 (aj @ze53 @bu53))) (aj (aj @ld58 @lk58) (aj @fo58_0 (aj @fo58_1 @fo58_2)))))) (aj (aj (aj (aj (aj @fo58_3 @fo58_4) (aj @fo58_5 @fo58_6)) (aj (aj @fo58_7 @ze58) (aj @bu58 (aj @ld190 @lk190)))) (aj (aj (aj @fo190_0 @fo190_1) (aj @fo190_2 (aj @fo190_3 @fo190_4))) (aj (aj @fo190_5 @fo190_6) (aj @fo190_7 (aj @ze190 @bu190))))) (aj (aj (aj (aj @fa58_0 @fa41_0) (aj @sl22 (aj @na22 @ld22))) (aj (aj @lk22 @ze22) (aj @sl34 (aj @na34 @ld34)))) (aj (aj (aj @lk34 @ze34) (aj @sl37 (aj @na37 @ld37))) (aj (aj @lk37 @ze37) (aj @sl44 (aj @na44 @ld44))))))) (aj (aj (aj (aj (aj (aj @lk44 @ze44) (aj @sl45 @na45)) (aj (aj @ld45 @lk45) (aj @ze45 (aj @sl48 @na48)))) (aj (aj (aj @ld48 @lk48) (aj @ze48 (aj @sl51 @na51))) (aj (aj @ld51 @lk51) (aj @ze51 (aj @sl54 @na54))))) (aj (aj (aj (aj @ld54 @lk54) (aj @ze54 (aj @sl70 @na70))) (aj (aj @lk70 @ze70) (aj @sl109 (aj @na109 @lk109)))) (aj (aj (aj @ze109 @sl124) (aj @na124 (aj @lk124 @ze124))) (aj (aj @sl181 @na181) (aj @lk181 (aj @ze181 @sl236)))))) (aj (aj (aj (aj (aj @na236 @lk236) (aj @ze236 (aj @sl262 @na262))) (aj (aj @lk262 @ze262) (aj @an34 (aj @ao34 @io34)))) (aj (aj (aj @b134 @an37) (aj @io37 (aj @an44 @ao44))) (aj (aj @b144 @an45) (aj @ao45 (aj @io45 @b145))))) (aj (aj (aj (aj @an51 @ao51) (aj @b151 (aj @an54 @ao54))) (aj (aj @io54 @b154) (aj @ao70 (aj @b170 @io109)))) (aj (aj (aj @an124 @ao124) (aj @b1124 (aj @b1181 @an236))) (aj (aj @ao236 @b1236) (aj @an262 (aj @ao262 @b1262))))))))
def ZZ:=aj (aj EV LE) (aj RD FA)
section
variable {f:Nat} {fn:Func} {st:St} {x y z:AV}
theorem xtmp {t:Nat} (hr:fn.results.toList=[.tmp t]) (hx:st.env t=x) (hf:Flat x:=by exact .v _) (hk:Ext.keep f=false:=by exact keep_none (by decide)):endL Tryz.prog f fn (.ret,st)=some x:=endL_tmp hk (.inl rfl) hr hx hf
theorem xcell {t T:Nat} (hr:fn.results.toList=[.cell t T]) (hy:st.env t=y) (hx:loadA Tryz.prog st T y=some x) (hf:Flat x) (hk:Ext.keep f=false:=by exact keep_none (by decide)):endL Tryz.prog f fn (.ret,st)=some x:=endL_cell hk (.inl rfl) hr hy hx hf
theorem xrow {t s g e' sz n:Nat} {cs:List AV} (hr:fn.results.toList=[.tmp t]) (hx:st.env t=.own s g) (hh:st.heap s g=some (.row e' sz n cs)) (hf:∀ c∈cs,Flat c) (hk:Ext.keep f=false:=by exact keep_none (by decide)):endL Tryz.prog f fn (.ret,st)=some (.uniq e' sz n cs):=endL_row hk (.inl rfl) hr hx hh hf
theorem xcellx {t T:Nat} {cs:List AV} (hr:fn.results.toList=[.cell t T]) (hz:st.env t=z) (hx:loadA Tryz.prog st T z=some (.agg cs)) (hy:expo st (.agg cs)=some y) (hk:Ext.keep f=false:=by exact keep_none (by decide)):endL Tryz.prog f fn (.ret,st)=some y:=endL_cellx hk (.inl rfl) hr hz hx hy
theorem xtwo {r1 r2:ResultVar} {x1 x2 y1 y2:AV} (hr:fn.results.toList=[r1,r2]) (h1:resA Tryz.prog st r1=some x1) (h2:resA Tryz.prog st r2=some x2) (e1:expo st x1=some y1) (e2:expo st x2=some y2) (hk:Ext.keep f=false:=by exact keep_none (by decide)):endL Tryz.prog f fn (.ret,st)=some (.tup [y1,y2]):=endL_two hk (.inl rfl) hr h1 h2 e1 e2
theorem xtwoD {r1 r2:ResultVar} {x1 x2 y1 y2:AV} (hr:fn.results.toList=[r1,r2]) (h1:resA Tryz.prog st r1=some x1) (h2:resA Tryz.prog st r2=some x2) (e0:expo st x1=none) (e1:expoD st x1=some y1) (e2:expo st x2=some y2) (hk:Ext.keep f=false:=by exact keep_none (by decide)):endL Tryz.prog f fn (.ret,st)=some (.tup [y1,y2]):=endL_twoD hk (.inl rfl) hr h1 h2 e0 e1 e2
theorem xthree {r1 r2 r3:ResultVar} {x1 x2 x3 y1 y2 y3:AV} (hr:fn.results.toList=[r1,r2,r3]) (h1:resA Tryz.prog st r1=some x1) (h2:resA Tryz.prog st r2=some x2) (h3:resA Tryz.prog st r3=some x3) (e1:expo st x1=some y1) (e2:expo st x2=some y2) (e3:expo st x3=some y3) (hk:Ext.keep f=false:=by exact keep_none (by decide)):endL Tryz.prog f fn (.ret,st)=some (.tup [y1,y2,y3]):=endL_three hk (.inl rfl) hr h1 h2 h3 e1 e2 e3
theorem cL {c:Code} (hf:Tryz.prog.funcs[f]? = some fn) (hb:fn.body=some c) (hok:fnOkN fn=true) {xs:List AV} (hu:xs.any isUniq=false):callL Tryz.prog f xs=bnd (evL Tryz.prog c (St.init xs)) (endL Tryz.prog f fn):=callL_eq _ hf hb hok xs (ext_none _ _) hu
theorem cG {c:Code} (hf:Tryz.prog.funcs[f]? = some fn) (hb:fn.body=some c) (hok:fnOk fn=true) (hc:codeInl c=true) {xs:List AV} (hu:xs.any isUniq=false):callL Tryz.prog f xs=bnd (evG Tryz.prog true c (St.init xs)) (endL Tryz.prog f fn):=by
 rw[callG_eq Tryz.prog hf hb hok xs (ext_none _ _) hu,hc]
end
section
variable {b:Code} {st st':St} {n:Nat} {I:Nat→St→Prop} {Q:Ex→St→Prop}
theorem oN (m:Nat) (h:evL Tryz.prog b st=some (.normal,st')) (hi:I m st') (hm:m < n:=by omega):∃ e st',evL Tryz.prog b st=some (e,st')∧((e=.normal∧∃ m,m < n∧I m st')∨(e≠.normal∧Q e st')):=go_on h m hm hi
theorem oT (e:Ex) (h:evL Tryz.prog b st=some (e,st')) (hq:Q e st') (he:e≠.normal:=by simp):∃ e st',evL Tryz.prog b st=some (e,st')∧((e=.normal∧∃ m,m < n∧I m st')∨(e≠.normal∧Q e st')):=go_out h he hq
theorem oNG {bi:Bool} (m:Nat) (h:evG Tryz.prog bi b st=some (.normal,st')) (hi:I m st') (hm:m < n:=by omega):∃ e st',evG Tryz.prog bi b st=some (e,st')∧((e=.normal∧∃ m,m < n∧I m st')∨(e≠.normal∧Q e st')):=go_onG h m hm hi
theorem oTG {bi:Bool} (e:Ex) (h:evG Tryz.prog bi b st=some (e,st')) (hq:Q e st') (he:e≠.normal:=by simp):∃ e st',evG Tryz.prog bi b st=some (e,st')∧((e=.normal∧∃ m,m < n∧I m st')∨(e≠.normal∧Q e st')):=go_outG h he hq
end
end Go.Ab.Tryz
end
namespace Go.Ab.Tryz
open Classical Go.Proofs Go.Ab
def FT:=aj (aj (aj (aj (aj (aj @expo_Ckpt (aj @expo_Request @cTreeA_f)) (aj @up_Store_treeC (aj @up_State_treeC @expo_storeC))) (aj (aj @expo_stateC (aj @ldsCkpt @ldaCkpt)) (aj @upsCkpt (aj @view_ovVote @idx37l)))) (aj (aj (aj @idx37o (aj @anoVotes @exFVote)) (aj @ldsVote (aj @ldaVote @upsVote))) (aj (aj @view_ovAtt (aj @idx44l @idx44o)) (aj (aj @anoAtt1 @anoAtts) (aj @aooAtt1 @exFAtt))))) (aj (aj (aj (aj @view_ovTable (aj @expo_ovTable @stor_ovTable)) (aj @cel_ovTable (aj @idx51l @idx51o))) (aj (aj @anoTable1 (aj @anoTables @aooTable1)) (aj (aj @aooTables @exFTable) (aj @to51o @from51o)))) (aj (aj (aj @view_ovBlock (aj @expo_ovBlock @idx45l)) (aj @idx45o (aj @anoBlock1 @anoBlocks))) (aj (aj @aooBlock1 (aj @aooBlocks @exFBlock)) (aj (aj @ldsBlock @ldaBlock) (aj @to45o @from45o)))))) (aj (aj (aj (aj (aj @view_ovRequest (aj @idx54l @idx54o)) (aj @anoRequest1 (aj @anoRequests @aooRequest1))) (aj (aj @aooRequests (aj @exFRequest @ldsRequest)) (aj @ldaRequest (aj @upsRequest @to54o)))) (aj (aj (aj @from54o (aj @view_ovRoot @idx70l)) (aj @idx70o (aj @aooRoot1 @exFRoot))) (aj (aj @idx262l (aj @anoBool1 @aooBool1)) (aj (aj @exFBool @expo_ovU8) (aj @anoU81 @aooU81))))) (aj (aj (aj (aj @aooU8s (aj @exFU8 @view_ovInt)) (aj @expo_ovInt (aj @stor_ovInt @cel_ovInt))) (aj (aj @idx22l (aj @idx22o @anoInts)) (aj (aj @aooInt1 @aooInts) (aj @exFInt @to22o)))) (aj (aj (aj @from22o (aj @view_ovU64 @stor_ovU64)) (aj @cel_ovU64 (aj @idx34l @idx34o))) (aj (aj @anoU641 (aj @anoU64s @aooU641)) (aj (aj @exFU64 @ldsU64) (aj @ldaU64 @upsU64))))))
def E8:=EV
def L8:=LE
def R8:=RD
def F8:=aj FA FT
def EGn:=aj (aj (aj (aj (aj (aj @List.size_toArray.{0} @initM_env0) (aj @initM_env @initM_heap)) (aj (aj @initM_cnt0 @initM_cnt) (aj @evG_skip @evG_exit))) (aj (aj (aj @evG_ret @evG_seq) (aj @evG_block @evG_regionX)) (aj (aj @firstDst_l @evOpsI_nil) (aj @evOpsI_cons (aj @back_env @back_heap))))) (aj (aj (aj (aj @back_cnt @swaps_nil) (aj @swaps_cons @swapAt_eq)) (aj (aj @swapL_11 @swapL_21) (aj @farApart_pp (aj @farApart_po @farApart_op)))) (aj (aj (aj @farApart_vp @farApart_pv) (aj @farApart_os @farApart_so)) (aj (aj @farApart_sp @farApart_ps) (aj @farApart_ss (aj @farApart_ov @farApart_vo)))))) (aj (aj (aj (aj (aj @farApart_vs @farApart_sv) (aj @dyn_eq @inl_none)) (aj (aj @inl_some @mv_some) (aj @oi_move (aj @oi_assign @oi_pick)))) (aj (aj (aj @oi_alloc @oi_box) (aj @oi_build @oi_buildSlice)) (aj (aj @oi_makeSlice @oi_makeFunc) (aj @oi_load (aj @oi_store @oi_binOp))))) (aj (aj (aj (aj @oi_unOp @oi_fieldAddr) (aj @oi_field @oi_indexAddr)) (aj (aj @oi_convert @oi_extract) (aj @oi_slice (aj @oi_builtin @oi_tmp)))) (aj (aj (aj @oi_call @oi_inl) (aj @kr_load @kr_store)) (aj (aj @kr_index @kr_slice) (aj @kr_len (aj @kr_append @kr_call2))))))
def ZC:=aj (aj L8 R8) F8
def Z8:=aj EV ZC
def ZG:=aj (aj EGn @evG_condB) Z8
end Go.Ab.Tryz
namespace Go.Ab.Tryz
open Go.Ab
theorem DY12:(((dynTab 0 2 (some 4)=[])∧((dynTab 1 5 (some 9)=[])∧(dynTab 2 15 (some 12)=[])))∧(((dynTab 3 3 (some 25)=[])∧(dynTab 4 5 (some 28)=[]))∧((dynTab 5 3 (some 32)=[])∧(dynTab 6 11 (some 35)=[]))))∧(((dynTab 7 3 (some 45)=[])∧((dynTab 8 15 (some 48)=[(5,10),(8,10),(8,12)])∧(dynTab 9 3 (some 60)=[])))∧(((dynTab 10 6 (some 63)=[])∧(dynTab 11 3 (some 68)=[]))∧((dynTab 12 5 (some 71)=[])∧(dynTab 13 11 (some 75)=[])))):=⟨⟨⟨rfl,⟨rfl,rfl⟩⟩,⟨⟨rfl,rfl⟩,⟨rfl,rfl⟩⟩⟩,⟨⟨rfl,⟨rfl,rfl⟩⟩,⟨⟨rfl,rfl⟩,⟨rfl,rfl⟩⟩⟩⟩
theorem DY25:(((dynTab 0 2 (some 2)=[])∧((dynTab 1 13 (some 11)=[])∧(dynTab 2 17 (some 22)=[])))∧(((dynTab 3 4 (some 37)=[])∧(dynTab 4 8 (some 40)=[]))∧((dynTab 5 10 (some 48)=[])∧(dynTab 6 9 (some 56)=[(4,7)]))))∧(((dynTab 7 6 (some 63)=[])∧((dynTab 8 6 (some 68)=[])∧(dynTab 9 9 (some 73)=[])))∧(((dynTab 10 18 (some 82)=[])∧(dynTab 11 4 (some 99)=[]))∧((dynTab 12 3 (some 103)=[])∧(dynTab 13 2 (some 105)=[])))):=⟨⟨⟨rfl,⟨rfl,rfl⟩⟩,⟨⟨rfl,rfl⟩,⟨rfl,rfl⟩⟩⟩,⟨⟨rfl,⟨rfl,rfl⟩⟩,⟨⟨rfl,rfl⟩,⟨rfl,rfl⟩⟩⟩⟩
theorem DY27:(((dynTab 0 5 (some 2)=[])∧(dynTab 1 1 (some 7)=[]))∧((dynTab 2 5 (some 9)=[])∧(dynTab 4 11 (some 16)=[])))∧(((dynTab 5 7 (some 27)=[])∧(dynTab 6 13 (some 32)=[]))∧((dynTab 7 5 (some 44)=[(1,2)])∧((dynTab 3 3 (some 14)=[])∧(dynTab 8 5 (some 46)=[])))):=⟨⟨⟨rfl,rfl⟩,⟨rfl,rfl⟩⟩,⟨⟨rfl,rfl⟩,⟨rfl,⟨rfl,rfl⟩⟩⟩⟩
theorem DY50:(((((dynTab 0 2 (some 3)=[])∧(dynTab 1 7 (some 12)=[]))∧((dynTab 2 4 (some 18)=[])∧(dynTab 3 14 (some 22)=[])))∧(((dynTab 4 8 (some 35)=[])∧(dynTab 5 23 (some 41)=[]))∧((dynTab 6 9 (some 62)=[])∧((dynTab 7 5 (some 71)=[])∧(dynTab 8 4 (some 75)=[])))))∧((((dynTab 9 9 (some 79)=[])∧(dynTab 10 7 (some 87)=[]))∧((dynTab 11 6 (some 93)=[])∧((dynTab 12 13 (some 97)=[])∧(dynTab 13 4 (some 110)=[]))))∧(((dynTab 14 6 (some 114)=[])∧(dynTab 15 4 (some 119)=[]))∧((dynTab 16 15 (some 122)=[])∧((dynTab 17 12 (some 137)=[(7,9)])∧(dynTab 18 11 (some 147)=[]))))))∧(((((dynTab 19 5 (some 158)=[])∧(dynTab 20 8 (some 162)=[(3,5)]))∧((dynTab 21 3 (some 168)=[])∧((dynTab 22 2 (some 172)=[])∧(dynTab 23 6 (some 173)=[]))))∧(((dynTab 24 2 (some 179)=[])∧(dynTab 25 5 (some 180)=[]))∧((dynTab 26 2 (some 185)=[])∧((dynTab 27 5 (some 186)=[])∧(dynTab 28 2 (some 191)=[])))))∧((((dynTab 29 9 (some 192)=[])∧(dynTab 30 2 (some 201)=[]))∧((dynTab 31 5 (some 202)=[])∧((dynTab 32 2 (some 207)=[])∧(dynTab 33 16 (some 208)=[]))))∧(((dynTab 34 2 (some 224)=[])∧(dynTab 35 5 (some 225)=[]))∧((dynTab 36 2 (some 230)=[])∧((dynTab 37 3 (some 231)=[])∧(dynTab 38 2 (some 233)=[])))))):=⟨⟨⟨⟨⟨rfl,rfl⟩,⟨rfl,rfl⟩⟩,⟨⟨rfl,rfl⟩,⟨rfl,⟨rfl,rfl⟩⟩⟩⟩,⟨⟨⟨rfl,rfl⟩,⟨rfl,⟨rfl,rfl⟩⟩⟩,⟨⟨rfl,rfl⟩,⟨rfl,⟨rfl,rfl⟩⟩⟩⟩⟩,⟨⟨⟨⟨rfl,rfl⟩,⟨rfl,⟨rfl,rfl⟩⟩⟩,⟨⟨rfl,rfl⟩,⟨rfl,⟨rfl,rfl⟩⟩⟩⟩,⟨⟨⟨rfl,rfl⟩,⟨rfl,⟨rfl,rfl⟩⟩⟩,⟨⟨rfl,rfl⟩,⟨rfl,⟨rfl,rfl⟩⟩⟩⟩⟩⟩
theorem DY59:(((dynTab 0 6 (some 3)=[])∧(dynTab 1 10 (some 13)=[(5,8)]))∧((dynTab 2 5 (some 19)=[])∧((dynTab 3 2 (some 24)=[])∧(dynTab 4 5 (some 25)=[]))))∧(((dynTab 5 2 (some 30)=[])∧(dynTab 6 12 (some 31)=[]))∧((dynTab 7 36 (some 41)=[])∧((dynTab 8 5 (some 114)=[])∧(dynTab 9 5 (some 116)=[(1,2)])))):=⟨⟨⟨rfl,rfl⟩,⟨rfl,⟨rfl,rfl⟩⟩⟩,⟨⟨rfl,rfl⟩,⟨rfl,⟨rfl,rfl⟩⟩⟩⟩
theorem DY61:((((dynTab 0 4 (some 3)=[])∧(dynTab 1 13 (some 16)=[]))∧((dynTab 2 2 (some 23)=[])∧((dynTab 3 2 (some 25)=[])∧(dynTab 4 7 (some 26)=[]))))∧(((dynTab 5 6 (some 32)=[])∧(dynTab 6 8 (some 37)=[(1,4)]))∧((dynTab 7 2 (some 43)=[])∧((dynTab 8 2 (some 45)=[])∧(dynTab 9 14 (some 47)=[])))))∧((((dynTab 10 6 (some 59)=[])∧(dynTab 11 3 (some 65)=[]))∧((dynTab 12 9 (some 68)=[])∧((dynTab 13 1 (some 13)=[])∧(dynTab 14 1 (some 14)=[]))))∧(((dynTab 15 6 (some 74)=[])∧((dynTab 17 9 (some 82)=[])∧(dynTab 18 10 (some 91)=[])))∧((dynTab 16 3 (some 80)=[])∧((dynTab 19 4 (some 100)=[])∧(dynTab 20 2 (some 103)=[]))))):=⟨⟨⟨⟨rfl,rfl⟩,⟨rfl,⟨rfl,rfl⟩⟩⟩,⟨⟨rfl,rfl⟩,⟨rfl,⟨rfl,rfl⟩⟩⟩⟩,⟨⟨⟨rfl,rfl⟩,⟨rfl,⟨rfl,rfl⟩⟩⟩,⟨⟨rfl,⟨rfl,rfl⟩⟩,⟨rfl,⟨rfl,rfl⟩⟩⟩⟩⟩
theorem DY74:(((dynTab 0 2 (some 1)=[])∧(dynTab 1 3 (some 5)=[]))∧((dynTab 2 2 (some 7)=[])∧((dynTab 3 1 (some 4)=[])∧(dynTab 4 4 (some 8)=[]))))∧(((dynTab 6 9 (some 14)=[])∧((dynTab 7 10 (some 23)=[])∧(dynTab 8 7 (some 32)=[])))∧((dynTab 9 13 (some 39)=[])∧((dynTab 5 3 (some 12)=[])∧(dynTab 10 2 (some 51)=[])))):=⟨⟨⟨rfl,rfl⟩,⟨rfl,⟨rfl,rfl⟩⟩⟩,⟨⟨rfl,⟨rfl,rfl⟩⟩,⟨rfl,⟨rfl,rfl⟩⟩⟩⟩
theorem DY75:((((dynTab 0 3 (some 2)=[])∧(dynTab 1 4 (some 14)=[]))∧((dynTab 2 10 (some 17)=[])∧(dynTab 3 1 (some 9)=[])))∧(((dynTab 4 4 (some 22)=[])∧(dynTab 5 4 (some 25)=[]))∧((dynTab 6 1 (some 10)=[])∧(dynTab 7 1 (some 11)=[]))))∧((((dynTab 8 3 (some 29)=[])∧(dynTab 10 5 (some 34)=[]))∧((dynTab 11 2 (some 38)=[])∧(dynTab 12 1 (some 12)=[])))∧(((dynTab 13 7 (some 40)=[])∧(dynTab 14 5 (some 45)=[]))∧((dynTab 15 8 (some 50)=[])∧((dynTab 9 3 (some 32)=[])∧(dynTab 16 6 (some 56)=[(2,3)]))))):=⟨⟨⟨⟨rfl,rfl⟩,⟨rfl,rfl⟩⟩,⟨⟨rfl,rfl⟩,⟨rfl,rfl⟩⟩⟩,⟨⟨⟨rfl,rfl⟩,⟨rfl,rfl⟩⟩,⟨⟨rfl,rfl⟩,⟨rfl,⟨rfl,rfl⟩⟩⟩⟩⟩
theorem DY181:((dynTab 0 3 (some 1)=[])∧((dynTab 1 5 (some 5)=[])∧(dynTab 2 8 (some 8)=[])))∧((dynTab 3 3 (some 16)=[])∧((dynTab 4 5 (some 17)=[(0,2)])∧(dynTab 5 5 (some 20)=[(1,3)]))):=⟨⟨rfl,⟨rfl,rfl⟩⟩,⟨rfl,⟨rfl,rfl⟩⟩⟩
theorem DY184:((((dynTab 0 2 (some 1)=[])∧(dynTab 1 8 (some 6)=[]))∧((dynTab 2 1 (some 2)=[])∧((dynTab 3 7 (some 15)=[])∧(dynTab 4 2 (some 19)=[]))))∧(((dynTab 5 2 (some 21)=[])∧((dynTab 6 5 (some 22)=[])∧(dynTab 7 2 (some 25)=[])))∧((dynTab 8 2 (some 28)=[])∧((dynTab 9 4 (some 29)=[])∧(dynTab 10 2 (some 33)=[])))))∧((((dynTab 11 4 (some 34)=[])∧((dynTab 12 2 (some 38)=[])∧(dynTab 13 4 (some 39)=[])))∧((dynTab 14 2 (some 43)=[])∧((dynTab 15 4 (some 44)=[])∧(dynTab 16 2 (some 48)=[]))))∧(((dynTab 17 4 (some 49)=[])∧((dynTab 18 2 (some 53)=[])∧(dynTab 19 8 (some 54)=[(3,5)])))∧((dynTab 20 4 (some 60)=[])∧((dynTab 21 1 (some 2)=[])∧(dynTab 22 1 (some 2)=[]))))):=⟨⟨⟨⟨rfl,rfl⟩,⟨rfl,⟨rfl,rfl⟩⟩⟩,⟨⟨rfl,⟨rfl,rfl⟩⟩,⟨rfl,⟨rfl,rfl⟩⟩⟩⟩,⟨⟨⟨rfl,⟨rfl,rfl⟩⟩,⟨rfl,⟨rfl,rfl⟩⟩⟩,⟨⟨rfl,⟨rfl,rfl⟩⟩,⟨rfl,⟨rfl,rfl⟩⟩⟩⟩⟩
theorem DY195:((dynTab 0 2 (some 3)=[])∧(dynTab 1 1 (some 5)=[]))∧((dynTab 2 15 (some 6)=[])∧((dynTab 3 3 (some 21)=[])∧(dynTab 4 13 (some 23)=[(7,10)]))):=⟨⟨rfl,rfl⟩,⟨rfl,⟨rfl,rfl⟩⟩⟩
theorem DY202:((((dynTab 0 3 (some 1)=[])∧(dynTab 1 3 (some 9)=[]))∧((dynTab 2 3 (some 12)=[])∧(dynTab 3 5 (some 13)=[])))∧(((dynTab 4 3 (some 17)=[])∧(dynTab 5 7 (some 19)=[]))∧((dynTab 6 4 (some 26)=[])∧((dynTab 7 7 (some 28)=[])∧(dynTab 8 4 (some 34)=[])))))∧((((dynTab 9 3 (some 37)=[])∧(dynTab 10 1 (some 6)=[]))∧((dynTab 11 4 (some 39)=[])∧((dynTab 13 8 (some 45)=[])∧(dynTab 14 12 (some 53)=[]))))∧(((dynTab 15 11 (some 65)=[])∧(dynTab 16 2 (some 73)=[]))∧((dynTab 17 7 (some 75)=[])∧((dynTab 12 3 (some 43)=[])∧(dynTab 18 3 (some 81)=[]))))):=⟨⟨⟨⟨rfl,rfl⟩,⟨rfl,rfl⟩⟩,⟨⟨rfl,rfl⟩,⟨rfl,⟨rfl,rfl⟩⟩⟩⟩,⟨⟨⟨rfl,rfl⟩,⟨rfl,⟨rfl,rfl⟩⟩⟩,⟨⟨rfl,rfl⟩,⟨rfl,⟨rfl,rfl⟩⟩⟩⟩⟩
theorem DY210:((dynTab 0 2 (some 3)=[])∧(dynTab 1 14 (some 5)=[(3,5),(3,8),(6,8),(3,11),(6,11),(9,11)]))∧((dynTab 2 8 (some 18)=[(3,5)])∧((dynTab 3 8 (some 25)=[(3,5)])∧(dynTab 4 13 (some 32)=[(4,7),(4,10),(8,10)]))):=⟨⟨rfl,rfl⟩,⟨rfl,⟨rfl,rfl⟩⟩⟩
theorem DY211:((dynTab 0 3 (some 1)=[])∧(dynTab 1 4 (some 5)=[]))∧((dynTab 2 2 (some 8)=[])∧((dynTab 3 3 (some 10)=[])∧(dynTab 4 14 (some 11)=[(5,7),(5,10),(8,10)]))):=⟨⟨rfl,rfl⟩,⟨rfl,⟨rfl,rfl⟩⟩⟩
theorem DY213:(((dynTab 0 3 (some 1)=[])∧(dynTab 1 4 (some 6)=[]))∧((dynTab 2 2 (some 2)=[])∧(dynTab 3 14 (some 10)=[(7,9),(7,10)])))∧(((dynTab 4 1 (some 5)=[])∧(dynTab 5 5 (some 23)=[]))∧((dynTab 7 8 (some 30)=[])∧((dynTab 6 3 (some 28)=[])∧(dynTab 8 3 (some 37)=[])))):=⟨⟨⟨rfl,rfl⟩,⟨rfl,rfl⟩⟩,⟨⟨rfl,rfl⟩,⟨rfl,⟨rfl,rfl⟩⟩⟩⟩
theorem DY214:((dynTab 0 3 (some 1)=[])∧(dynTab 1 8 (some 4)=[]))∧((dynTab 2 2 (some 2)=[])∧(dynTab 3 13 (some 12)=[(7,9)])):=⟨⟨rfl,rfl⟩,⟨rfl,rfl⟩⟩
theorem DY228:(dynTab 0 2 (some 3)=[])∧(dynTab 1 8 (some 5)=[(3,5)]):=⟨rfl,rfl⟩
theorem DY231:(dynTab 0 2 (some 3)=[])∧(dynTab 1 14 (some 5)=[(3,5),(3,8),(6,8),(3,11),(6,11),(9,11)]):=⟨rfl,rfl⟩
theorem DY235:((dynTab 0 1 (some 4)=[])∧((dynTab 1 1 (some 5)=[])∧(dynTab 2 12 (some 6)=[])))∧(((dynTab 3 3 (some 18)=[])∧(dynTab 4 12 (some 20)=[]))∧((dynTab 5 2 (some 32)=[])∧(dynTab 6 12 (some 33)=[(6,9)]))):=⟨⟨rfl,⟨rfl,rfl⟩⟩,⟨⟨rfl,rfl⟩,⟨rfl,rfl⟩⟩⟩
end Go.Ab.Tryz
namespace Go.Ab.Tryz
open Classical Go.Proofs Go.Ab
theorem w157 (x:Int) (h1:-9223372036854775808≤x) (h2:x≤9223372036854775807):IntKind.i64.wrap x=x:=wrap_i64 x h1 h2
theorem c87 (ns:List Node) (i:Int):callL Tryz.prog 87 [.agg (cTree ⟨ns⟩),.v (.int .i64 i)]=some (.v (.bool (decide (0≤i) && decide (i < ns.length)))):=by
 rw[cL Tryz.func87 rfl ok87 rfl]
 by_cases h:0≤i
 all_goals
  simp only[ZZ,seval,h,decide_true,decide_false,Bool.false_eq_true,Bool.true_and,Bool.false_and]
  exact xtmp rfl (by simp only[EV,seval]) (.v _)
theorem k87 (ns:List Node) (i:Int) (st:St) (d:Option Nat):callFn (callL Tryz.prog) 87 [.agg (cTree ⟨ns⟩),.v (.int .i64 i)] st d=some { dst:=d,val:=.v (.bool (decide (0≤i) && decide (i < ns.length)))}:=call_flat (flat2 (flatT _) (.v _)) (c87 ns i) (.v _)
def isSt (n:Int):Bool:=decide (0≤n) && decide (n≤2)
theorem c186 (i:Int):callL Tryz.prog 186 [.v (.int .i64 i)]=some (.v (.bool (isSt i))):=by
 rw[cL Tryz.func186 rfl ok186 rfl]
 by_cases h:0≤i
 all_goals
  simp only[ZZ,seval,h,decide_true,decide_false,Bool.false_eq_true,Bool.true_and,Bool.false_and]
  exact xtmp rfl (by simp only[EV,seval,isSt,h,decide_true,decide_false,Bool.false_and,Bool.true_and]) (.v _)
noncomputable def findR (ns:List Node) (r:Root):Int:=match ns.findIdx? (fun n=>decide (n.block.root=r)) with
 | some k=>(k:Int)
 | none=>-1
theorem findR_at {ns:List Node} {r:Root} {i:Int} (h0:0≤i) (h1:i < ns.length) (hr:(nd ns i).block.root=r) (hb:∀ j,0≤j→j < i→(nd ns j).block.root≠r):findR ns r=i:=by
 obtain⟨hi,e⟩:=nd_get h0 h1
 have:ns.findIdx? (fun n=>decide (n.block.root=r))=some i.toNat:=by
  rw[List.findIdx?_eq_some_iff_getElem]
  refine⟨hi,by simp[← e,hr],fun j hj=>?_⟩
  have h:=hb j (by omega) (by omega)
  have hj':j < ns.length:=by omega
  simp[nd,hj'] at h
  simpa using h
 unfold findR
 rw[this]
 simp;omega
theorem findR_none {ns:List Node} {r:Root} (hb:∀ j,0≤j→j < (ns.length:Int)→(nd ns j).block.root≠r):findR ns r=-1:=by
 have:ns.findIdx? (fun n=>decide (n.block.root=r))=none:=by
  rw[List.findIdx?_eq_none_iff]
  intro n hn
  obtain⟨j,hj,rfl⟩:=List.getElem_of_mem hn
  have h:=hb j (by omega) (by omega)
  simp[nd,hj] at h
  simpa using h
 unfold findR
 rw[this]
theorem c46 (ns:List Node) (r:Root) (hn:(ns.length:Int) < 1000000):callL Tryz.prog 46 [.agg (cTree ⟨ns⟩),.agg (cRoot r)]=some (.v (.int .i64 (findR ns r))):=by
 rw[cL Tryz.func46 rfl ok46 rfl]
 simp only[ZZ,seval]
 refine use_loop (fun n st=>∃ i:Int,st.env 2=.ptr 2 0 0∧st.env 3=.ptr 3 0 0∧st.heap 2 0=some (.cells (cTree ⟨ns⟩))∧st.heap 3 0=some (.cells (cRoot r))∧st.env 5=.v (.int .i64 i)∧0≤i∧i≤ns.length∧n=(ns.length - i).toNat ∧
  ∀ j,0≤j→j < i→(nd ns j).block.root≠r)
  (fun e st=>(e=.ret∧st.env 4=.v (.int .i64 (findR ns r)))∨(e=.exit 0∧findR ns r=-1)) ns.length ?step ?start ?rest
 case step =>
  rintro n st ⟨i,h2,h3,hh2,hh3,h5,i0,i1,hn',hb⟩
  by_cases hlt:i < ns.length
  ·have hw:IntKind.i64.wrap (i+1)=i+1:=w157 _ (by omega) (by omega)
   by_cases hr:(nd ns i).block.root=r
   ·apply oT (.ret)
    ·simp only[ZZ,seval,h2,h3,hh2,hh3,h5,hlt,i0,hr]
     rfl
    ·exact .inl ⟨rfl,by simp only[EV,seval,findR_at i0 hlt hr hb]⟩
   ·apply oN ((ns.length - (i+1)).toNat)
    ·simp only[ZZ,seval,h2,h3,hh2,hh3,h5,hlt,i0,hr,hw]
     rfl
    ·exact⟨i+1,by simp only[EV,seval,h2],by simp only[EV,seval,h3],by simp only[EV,seval,hh2],by simp only[EV,seval,hh3],(by simp only[EV,seval]),by omega,by omega,rfl,fun j j0 j1=>by
     rcases Int.lt_or_eq_of_le (show j≤i by omega) with h | rfl
     ·exact hb j j0 h
     ·exact hr⟩
  ·apply oT (.exit 0)
   ·simp only[ZZ,seval,h2,h3,hh2,hh3,h5,hlt,i0]
    rfl
   ·exact .inr ⟨rfl,findR_none fun j j0 j1=>hb j j0 (by omega)⟩
 case start=>exact⟨0,(by simp only[EV,seval]),(by simp only[EV,seval]),(by simp only[EV,seval]),(by simp only[EV,seval]),(by simp only[EV,seval]),by omega,by omega,by omega,fun j _ _=>by omega⟩
 case rest =>
  rintro e st (⟨rfl,h⟩ | ⟨rfl,h⟩)
  ·simp only[ZZ,seval]
   exact xtmp rfl h (.v _)
  ·simp only[ZZ,seval]
   exact xtmp rfl (by simp only[EV,seval,h]) (.v _)
theorem q49 (args:List AV) (st:St) (d:Option Nat):callFn (callL Tryz.prog) 49 args st d=callQ (callL Tryz.prog) 49 (optAll (args.map (expo st))) (decide (∀ x∈args,Flat x)) st d:=callFn_Q _ _ _ _ _
theorem c49 (l:List Int) (a:Int) (hn:(l.length:Int) < 1000000):callL Tryz.prog 49 [.sl l.length (csInt l),.v (.int .i64 a)]=some (.v (.bool (decide (a∈l)))):=by
 rw[cL Tryz.func49 rfl ok49 rfl]
 simp only[ZZ,seval]
 refine use_loop (fun n st=>∃ i:Int,st.env 0=.sl l.length (csInt l)∧st.env 1=.v (.int .i64 a)∧st.env 5=.v (.int .i64 i)∧0≤i∧i≤l.length∧n=(l.length - i).toNat∧∀ j,0≤j→j < i→it l j≠a)
  (fun e st=>(e=.ret∧st.env 4=.v (.bool (decide (a∈l))))∨(e=.exit 0∧decide (a∈l)=false)) l.length ?step ?start ?rest
 case step =>
  rintro n st ⟨i,h0,h1,h5,i0,i1,hn',hb⟩
  by_cases hlt:i < l.length
  ·have hw:IntKind.i64.wrap (i+1)=i+1:=w157 _ (by omega) (by omega)
   obtain⟨hi,he⟩:=it_get i0 hlt
   by_cases hr:it l i=a
   ·have hm:decide (a∈l)=true:=by rw[decide_eq_true_eq,← hr,he];exact List.getElem_mem hi
    have hbq:(it l i == a)=true:=by simp[hr]
    apply oT (.ret)
    ·simp only[ZZ,seval,h0,h1,h5,hlt,i0,hbq]
     rfl
    ·exact .inl ⟨rfl,by simp only[EV,seval,hm]⟩
   ·have hbq:(it l i == a)=false:=by simp[hr]
    apply oN ((l.length - (i+1)).toNat)
    ·simp only[ZZ,seval,h0,h1,h5,hlt,i0,hbq,hw]
     rfl
    ·exact⟨i+1,by simp only[EV,seval,h0],by simp only[EV,seval,h1],(by simp only[EV,seval]),by omega,by omega,rfl,fun j j0 j1=>by
     rcases Int.lt_or_eq_of_le (show j≤i by omega) with h | rfl
     ·exact hb j j0 h
     ·exact hr⟩
  ·apply oT (.exit 0)
   ·simp only[ZZ,seval,h0,h1,h5,hlt,i0]
    rfl
   ·exact .inr ⟨rfl,by
    rw[decide_eq_false_iff_not]
    intro hm
    obtain⟨j,hj,rfl⟩:=List.getElem_of_mem hm
    exact hb j (by omega) (by omega) (by simp[it,hj])⟩
 case start=>exact⟨0,(by simp only[EV,seval]),(by simp only[EV,seval]),(by simp only[EV,seval]),by omega,by omega,by omega,fun j _ _=>by omega⟩
 case rest =>
  rintro e st (⟨rfl,h⟩ | ⟨rfl,h⟩)
  ·simp only[ZZ,seval]
   exact xtmp rfl h (.v _)
  ·simp only[ZZ,seval]
   exact xtmp rfl (by simp only[EV,seval,h]) (.v _)
theorem c49n (a:Int):callL Tryz.prog 49 [.v (.slice none 0 0),.v (.int .i64 a)]=some (.v (.bool false)):=by
 rw[cL Tryz.func49 rfl ok49 rfl]
 simp only[ZZ,seval,evL_loop,Int.natCast_zero,Int.lt_irrefl,decide_false]
 exact xtmp rfl (by simp only[EV,seval]) (.v _)
theorem k49 (l:List Int) (a:Int) (hn:(l.length:Int) < 1000000) (fl:Bool) (st:St) (d:Option Nat):callQ (callL Tryz.prog) 49 (some [.sl l.length (csInt l),.v (.int .i64 a)]) fl st d=some { dst:=d,val:=.v (.bool (decide (a∈l)))}:=Q_bool (c49 l a hn)
theorem k49n (a:Int) (fl:Bool) (st:St) (d:Option Nat):callQ (callL Tryz.prog) 49 (some [.v (.slice none 0 0),.v (.int .i64 a)]) fl st d=some { dst:=d,val:=.v (.bool false)}:=Q_bool (c49n a)
def UpOk (ns:List Node):Prop:=∀ i:Int,0 < i→i < ns.length→0≤(nd ns i).up∧(nd ns i).up < i
def pathN (ns:List Node):Nat→Int→List Int
 | 0,_=>[]
 | f+1,i=>if i=0 then [0] else pathN ns f (nd ns i).up ++ [i]
def path (ns:List Node) (i:Int):List Int:=if 0≤i∧i < ns.length then pathN ns (i.toNat+1) i else []
theorem pathN_fuel {ns:List Node} (h:UpOk ns):∀ (f g:Nat) (i:Int),0≤i→i < ns.length→i.toNat < f→i.toNat < g→pathN ns f i=pathN ns g i
 | 0,_,i,_,_,h1,_=>by omega
 | f+1,0,i,_,_,_,h2=>by omega
 | f+1,g+1,i,i0,i1,h1,h2=>by
   simp only[pathN]
   by_cases hi:i=0
   ·rw[if_pos hi,if_pos hi]
   ·obtain⟨u0,u1⟩:=h i (by omega) i1
    rw[if_neg hi,if_neg hi,pathN_fuel h f g (nd ns i).up u0 (by omega) (by omega) (by omega)]
theorem path_zero {ns:List Node} (h:0 < ns.length):path ns 0=[0]:=by
 unfold path
 rw[if_pos ⟨by omega,by omega⟩]
 rfl
theorem path_step {ns:List Node} (h:UpOk ns) {i:Int} (i0:0 < i) (i1:i < ns.length):path ns i=path ns (nd ns i).up ++ [i]:=by
 obtain⟨u0,u1⟩:=h i i0 i1
 unfold path
 rw[if_pos ⟨by omega,i1⟩,if_pos ⟨u0,by omega⟩]
 show pathN ns (i.toNat+1) i=_
 rw[pathN,if_neg (by omega)]
 rw[pathN_fuel h i.toNat ((nd ns i).up.toNat+1) (nd ns i).up u0 (by omega) (by omega) (by omega)]
theorem path_none {ns:List Node} {i:Int} (h:¬ (0≤i∧i < ns.length)):path ns i=[]:=if_neg h
theorem path_len {ns:List Node} (h:UpOk ns):∀ (k:Nat) (i:Int),i.toNat=k→0≤i→i < ns.length→(path ns i).length≤i+1:=by
 intro k
 induction k using Nat.strongRecOn with
 | _ k ih =>
   intro i hk i0 i1
   by_cases hi:i=0
   ·subst hi;rw[path_zero (by omega)];simp
   ·obtain⟨u0,u1⟩:=h i (by omega) i1
    rw[path_step h (by omega) i1]
    have:=ih (nd ns i).up.toNat (by omega) _ rfl u0 (by omega)
    simp only[List.length_append,List.length_singleton]
    omega
theorem path_lt {ns:List Node} (h:UpOk ns) (i:Int):((path ns i).length:Int)≤ns.length:=by
 by_cases hi:0≤i∧i < ns.length
 ·have:=path_len h _ i rfl hi.1 hi.2;omega
 ·rw[path_none hi];simp
theorem c76n (ns:List Node) (i:Int) (h:¬ (0≤i∧i < ns.length)):callL Tryz.prog 76 [.agg (cTree ⟨ns⟩),.v (.int .i64 i)]=some (.v (.slice none 0 0)):=by
 rw[cL Tryz.func76 rfl ok76 rfl]
 have hd:(decide (0≤i) && decide (i < ns.length))=false:=by
  rw[← Bool.not_eq_true];simpa using h
 simp only[ZZ,seval,k87,hd]
 exact xtmp rfl (by simp only[EV,seval]) (.v _)
theorem c76 (ns:List Node) (hu:UpOk ns) (hn:(ns.length:Int) < 1000000):∀ (k:Nat) (i:Int),i.toNat=k→0≤i→i < ns.length→callL Tryz.prog 76 [.agg (cTree ⟨ns⟩),.v (.int .i64 i)]=some (.uniq 3 1 (path ns i).length (csInt (path ns i))):=by
 intro k
 induction k using Nat.strongRecOn with
 | _ k ih =>
   intro i hk i0 i1
   have hd:(decide (0≤i) && decide (i < ns.length))=true:=by simp[i0,i1]
   rw[cL Tryz.func76 rfl ok76 rfl]
   by_cases hi:i=0
   ·subst hi
    simp only[ZZ,seval,k87,hd,i1,beq_self_eq_true]
    exact xrow rfl (by simp only[EV,seval];rfl) (by simp only[EV,seval,path_zero (show 0 < ns.length by omega)];rfl) (flat_csInt _)
   ·obtain⟨u0,u1⟩:=hu i (by omega) i1
    have hq:(i == 0)=false:=by simp[hi]
    have hr:=ih (nd ns i).up.toNat (by omega) _ rfl u0 (by omega)
    have hc:∀ (st:St) (d:Nat),callFn (callL Tryz.prog) 76 [.agg (cTree ⟨ns⟩),.v (.int .i64 (nd ns i).up)] st (some d)=some { dst:=some d,val:=.own d (st.cnt d),new:=some (d,[.row 3 1 (path ns (nd ns i).up).length (csInt (path ns (nd ns i).up))])}:=fun st d=>call_uniq (flat2 (flatT _) (.v _)) hr
    have hl:((path ns (nd ns i).up).length:Int) < 1000000:=by have:=path_lt hu (nd ns i).up;omega
    simp only[ZZ,seval,k87,hd,hq,i0,i1,hc,hl]
    exact xrow rfl (by simp only[EV,seval];rfl) (by simp only[EV,seval,path_step hu (show 0 < i by omega) i1]) (flat_csInt _)
theorem k76 (ns:List Node) (hu:UpOk ns) (hn:(ns.length:Int) < 1000000) (i:Int) (i0:0≤i) (i1:i < ns.length) (st:St) (d:Nat):callFn (callL Tryz.prog) 76 [.agg (cTree ⟨ns⟩),.v (.int .i64 i)] st (some d)=some { dst:=some d,val:=.own d (st.cnt d),new:=some (d,[.row 3 1 (path ns i).length (csInt (path ns i))])}:=call_uniq (flat2 (flatT _) (.v _)) (c76 ns hu hn _ i rfl i0 i1)
theorem k76n (ns:List Node) (i:Int) (h:¬ (0≤i∧i < ns.length)) (st:St) (d:Option Nat):callFn (callL Tryz.prog) 76 [.agg (cTree ⟨ns⟩),.v (.int .i64 i)] st d=some { dst:=d,val:=.v (.slice none 0 0)}:=call_flat (flat2 (flatT _) (.v _)) (c76n ns i h) (.v _)
def anc (ns:List Node) (a b:Int):Bool:=decide (a∈path ns b)
theorem c47 (ns:List Node) (hu:UpOk ns) (hn:(ns.length:Int) < 1000000) (a b:Int):callL Tryz.prog 47 [.agg (cTree ⟨ns⟩),.v (.int .i64 a),.v (.int .i64 b)]=some (.v (.bool (anc ns a b))):=by
 rw[cL Tryz.func47 rfl ok47 rfl]
 by_cases hb:0≤b∧b < ns.length
 ·have hl:((path ns b).length:Int) < 1000000:=by have:=path_lt hu b;omega
  simp only[ZZ,seval,k76 ns hu hn b hb.1 hb.2,q49,k49,hl]
  exact xtmp rfl (by simp only[EV,seval,anc]) (.v _)
 ·simp only[ZZ,seval,k76n ns b hb,q49,k49n]
  exact xtmp rfl (by simp only[EV,seval,anc,path_none hb,List.not_mem_nil,decide_false]) (.v _)
theorem k47 (ns:List Node) (hu:UpOk ns) (hn:(ns.length:Int) < 1000000) (a b:Int) (st:St) (d:Option Nat):callFn (callL Tryz.prog) 47 [.agg (cTree ⟨ns⟩),.v (.int .i64 a),.v (.int .i64 b)] st d=some { dst:=d,val:=.v (.bool (anc ns a b))}:=call_flat (flat3 (flatT _) (.v _) (.v _)) (c47 ns hu hn a b) (.v _)
end Go.Ab.Tryz
