/-
  Part 4 of the proof: an evaluator of programs, its soundness, and what functions of this program compute.
-/
import Derived.Test.YtmcjkemalibacaaGreatK3
set_option linter.all false
set_option maxRecDepth 20000
set_option maxHeartbeats 40000000
section
namespace Go.Ab
open Classical
variable [Ext]
def Xq (ops:Array Oper) (acc:Array Nat):Prop :=
 ∀j o,j<acc.size→ops[j]? = some o→∀k,(acc.getD j 0).testBit k=true→∃e∈o.after,Region.binds .any e=true∧(e.on=k∨(acc.getD e.on 0).testBit k=true)
theorem EK (acc:Array Nat) (k:Nat):∀(l:List Edge) (s:Nat),(l.foldl (fun s e=>if Region.binds .any e=true then s ||| 2 ^ e.on ||| acc.getD e.on 0 else s) s).testBit k=true →
 s.testBit k=true∨∃e∈l,Region.binds .any e=true∧(e.on=k∨(acc.getD e.on 0).testBit k=true)
 | [],s,h=>.inl h
 | e :: l,s,h=>by
   simp only[List.foldl_cons] at h;rcases EK acc k l _ h with h|⟨e',zM,h⟩
   ·split at h
    ·rename_i hb;simp only[Nat.testBit_or,Bool.or_eq_true] at h;rcases h with (h|h)|h
     ·exact .inl h
     ·rw[Nat.testBit_two_pow] at h;exact .inr ⟨e,by simp,hb,.inl (by simpa using h)⟩
     ·exact .inr ⟨e,by simp,hb,.inr h⟩
    ·exact .inl h
   ·exact .inr ⟨e',by simp[zM],h⟩
theorem EL {α:Type} (n:Nat) (k:Nat→α):forced n k=k n:=by cases n<;>rfl
theorem Xr (ops:Array Oper):∀(l:List Oper) (acc:Array Nat),(∀i o,l[i]? = some o→ops[acc.size+i]? = some o)→Xq ops acc→Xq ops (CQ l acc)
 | [],acc,_,h=>h
 | o :: l,acc,hl,h=>by
   unfold CQ;rw[EL];refine Xr ops l _ (fun i o' ho'=>?_) ?_
   ·have:=hl (i+1) o' (by simpa using ho')
    simp only[Array.size_push];rw[← this];congr 1
    omega
   ·intro j oj hj hoj k hk;have pW:∀x,(acc.getD x 0).testBit k=true→((acc.push (RL acc o)).getD x 0).testBit k=true:=fun x hx=>by
     have aZ:x<acc.size:=by
      rcases Nat.lt_or_ge x acc.size with h'|h'
      ·exact h'
      ·simp[Array.getElem?_eq_none h'] at hx
     simp only[Array.getD_eq_getD_getElem?,Array.getElem?_push_lt aZ] at hx ⊢;simpa [aZ] using hx
    rcases Nat.lt_or_ge j acc.size with aZ|hge
    ·have hk':(acc.getD j 0).testBit k=true:=by
      simp only[Array.getD_eq_getD_getElem?,Array.getElem?_push_lt aZ] at hk ⊢;simpa [aZ] using hk
     obtain⟨e,he,hb,hor⟩:=h j oj aZ hoj k hk'
     exact⟨e,he,hb,hor.imp id (pW _)⟩
    ·have hje:j=acc.size:=by simp only[Array.size_push] at hj;omega
     subst hje;have ho:=hl 0 o (by simp)
     rw[Nat.add_zero,hoj] at ho;cases ho
     have hk':(RL acc o).testBit k=true:=by simpa using hk
     rcases EK acc k _ 0 hk' with h0|⟨e,he,hb,hor⟩
     ·simp at h0
     ·exact⟨e,by simpa using he,hb,hor.imp id (pW _)⟩
theorem Ok {ops:Array Oper} {dy:List (Nat × Nat)} {b:Array Nat} {j:Nat} {oj:Oper}:∀(l:List Oper) (i0:Nat),Mj ops dy b j oj l i0=true→∀i oi,l[i]? = some oi→i0+i<j→(b.getD j 0).testBit (i0+i)=true∨(WW oi=true∧WW oj=true∧(rS ops oi oj=true∨((i0+i,j)∈dy∧EY ops b (i0+i) oi j oj=true)))
 | [],_,_,i,oi,h,_=>by simp at h
 | o :: l,i0,h,i,oi,ho,aZ=>by
   unfold Mj at h;simp only[Bool.and_eq_true,Bool.or_eq_true,decide_eq_true_eq] at h;cases i with
   | zero =>
     simp at ho
     subst ho;rcases h.1 with (h|h)|⟨⟨n1,n2⟩,h⟩
     ·omega
     ·exact .inl (by simpa using h)
     ·exact .inr ⟨n1,n2,h.imp id fun h=>⟨by simpa using h.1,by simpa using h.2⟩⟩
   | succ i =>
     have:=Ok l (i0+1) h.2 i oi (by simpa using ho) (by omega)
     rw[show i0+(i+1)=i0+1+i by omega]
     exact this
theorem Ho {ops:Array Oper} {dy:List (Nat × Nat)} {b:Array Nat}:∀(l:List Oper) (j0:Nat),EZ ops dy b l j0=true→∀j oj,l[j]? = some oj →
 (∀e∈oj.after,Region.binds .any e=true→e.on<j0+j)∧Mj ops dy b (j0+j) oj ops.toList 0=true
 | [],_,_,j,oj,h=>by simp at h
 | o :: l,j0,h,j,oj,ho=>by
   unfold EZ at h;simp only[Bool.and_eq_true] at h;obtain⟨⟨h1,h2⟩,h3⟩:=h
   cases j with
   | zero =>
     simp at ho
     subst ho;refine⟨fun e he hb=>?_,by simpa using h2⟩
     have:=List.all_eq_true.1 h1 e (by simpa using he)
     simpa [hb] using this
   | succ j =>
     have:=Ho l (j0+1) h3 j oj (by simpa using ho)
     rw[show j0+(j+1)=j0+1+j by omega]
     exact this
structure Cu (ops:Array Oper) (dy:List (Nat × Nat)) (b:Array Nat):Prop where
 aLZ:Xq ops b
 size:b.size=ops.size
 lt:∀j oj,ops[j]? = some oj→∀e∈oj.after,Region.binds .any e=true→e.on<j
 apart:∀i j oi oj,i<j→ops[i]? = some oi→ops[j]? = some oj→(b.getD j 0).testBit i=true∨(WW oi=true∧WW oj=true∧(rS ops oi oj=true∨((i,j)∈dy∧EY ops b i oi j oj=true)))
theorem Xs:∀(l:List Oper) (acc:Array Nat),(CQ l acc).size=acc.size+l.length
 | [],acc=>rfl
 | o :: l,acc=>by
   unfold CQ;rw[EL,Xs l];simp
   omega
theorem NR {ops:Array Oper} {dy:List (Nat × Nat)} (h:Ve ops dy=true):∃b,Cu ops dy b:=by
 unfold Ve at h;refine⟨_,Xr ops ops.toList #[] (fun i o ho=>by simpa using ho) (fun j o hj=>by simp at hj),by rw[Xs];simp,fun j oj hoj=>?_,fun i j oi oj hij T7 hoj=>?_⟩
 ·have:=(Ho _ 0 h j oj (by simpa using hoj)).1
  simpa using this
 ·have:=(Ho _ 0 h j oj (by simpa using hoj)).2
  simp only[Nat.zero_add] at this;have:=Ok _ 0 this i oi (by simpa using T7) (by omega)
  simpa using this
section
variable {P:Program} {call:Nat→List AV→Option AV} {ops:Array Oper} {nt:Nat} {Q:Exit→Act→World→Prop}
theorem NS {h0:Nat→Obj→Prop} {w0:World} {F:Gj} {ρ:Nat→Nat→Value} {st:St} {a:Act} {w:World} (S:kE F h0 w0 nt ρ st a w) {o:Oper} {b:Bool} (h:gv ops st o.guard=some b):Region.wanted o (yielded ops a.tmps)=b:=by
 unfold gv at h;unfold Region.wanted;cases hg:o.guard with
 | none=>simp[hg] at h;subst h;rfl
 | some jw =>
   obtain⟨j,want⟩:=jw
   simp only[hg] at h;simp only
   cases hd:(ops[j]?).bind (·.dst) with
   | none =>
     simp[hd] at h
     subst h;simp[yielded,hd]
   | some d =>
     simp only[hd] at h;split at h
     ·rename_i x hx;have hr:=S.env d
      rw[hx] at hr;have hv:=iC hr
      rcases Nat.lt_or_ge d a.tmps.size with aZ|hge
      ·have hv':a.tmps[d]? = some x:=by
        simp[aZ] at hv ⊢
        exact hv
       simp only[yielded,hd,Option.bind_some,hv'];split at h
       ·simp only[Option.some.injEq] at h;rw[← h];simp
       ·simp only[Option.some.injEq] at h;subst h;rename_i gR;cases x<;>first|rfl|exact absurd rfl (gR _)
      ·have hn:a.tmps[d]? = none:=Array.getElem?_eq_none hge
       have hu:x=undef:=by simpa [hn] using hv.symm
       subst hu;simp[undef] at h
       subst h;simp[yielded,hd,hn]
     ·cases h
theorem UQ {h0:Nat→Obj→Prop} {w0:World} {F:Gj} {ρ:Nat→Nat→Value} {st st':St} {a:Act} {w:World} {K:Act→World→Prop} (S:kE F h0 w0 nt ρ st a w) (jY:qK P call) {i:Nat} {o:Oper}
 (hi:ops[i]? = some o) (hd:∀d,o.dst=some d→d<nt) (h:cC P call ops o st=some st')
 (hK:∀nD a' w',kE F h0 w0 nt nD st' a' w'→K a' w'):wpOp P ops Q i K a w:=by
 unfold wpOp;simp only[hi];unfold cC at h;cases hg:gv ops st o.guard with
 | none=>simp[hg] at h
 | some b =>
   rw[NS S hg];simp only[hg] at h;cases b with
   | true =>
     simp only[if_true] at h ⊢;cases he:dN P call o st with
     | none=>simp[he] at h
     | some e =>
       simp only[he,Option.map_some,Option.some.injEq] at h;subst h;exact .inl (Sx S jY he hd hK)
   | false =>
     simp only[Bool.false_eq_true,if_false,Option.some.injEq] at h ⊢;subst h;exact hK ρ _ w (S.put o.dst hd (.v _))
theorem HI {o:Oper} {a:Act} {w:World} {K:Act→World→Prop} (h:o.wp P a w K fun _ _ _=>False):∃a' w',K a' w':=by
 unfold Oper.wp at h;generalize (execOp a.eval o).run P w=r at h
 have hlet:¬LetsOut (fun _ _ _=>False):=by rintro⟨_,_,h⟩;exact h
 cases r with
 | ok n w' =>
   cases n<;>simp only[Oper.upon] at h<;>(try exact⟨_,_,h⟩)<;>(try exact h.elim)
   ·obtain⟨e,w2,fr,hR,_⟩:=h []
    cases e with
    | returned v=>exact⟨_,_,hR⟩
    | panicked c=>exact hR.elim
    | outgrown=>exact absurd hR hlet
   ·obtain⟨v,w2,hR,_⟩:=h default []
    exact⟨_,_,hR⟩
 | halt x w'=>cases x<;>simp only[Oper.upon] at h
def Valid (nt:Nat) (st:St):Prop:=∃(F:Gj) (h0:Nat→Obj→Prop) (w0:World) (ρ:Nat→Nat→Value) (a:Act) (w:World),kE F h0 w0 nt ρ st a w
theorem Valid.ids {st:St} (h:Valid nt st):∀t,lX st.aQ (st.env t):=by
 obtain⟨F,h0,w0,ρ,a,w,S⟩:=h
 exact fun t=>⟨ctx h0 w0 ρ st w,_,rfl,S.env t⟩
theorem Valid.hp {st:St} (h:Valid nt st):AY st:=by
 obtain⟨F,h0,w0,ρ,a,w,S⟩:=h
 intro s g cs he c hc;obtain⟨_,_,b,arr,T,_,_,_,Bf⟩:=S.rT s g _ he
 obtain⟨i,hi,rfl⟩:=List.getElem_of_mem hc
 have hl:=Bf.len
 exact⟨ctx h0 w0 ρ st w,arr.toList[i]'(by omega),rfl,Bf.rel i _ _ (by simp[hi]) (by simp)⟩
theorem Valid.step {st st':St} (h:Valid nt st) (jY:qK P call) {o:Oper} (hd:∀d,o.dst=some d→d<nt) (he:cC P call ops o st=some st'):Valid nt st':=by
 obtain⟨F,h0,w0,ρ,a,w,S⟩:=h
 unfold cC at he;cases hg:gv ops st o.guard with
 | none=>simp[hg] at he
 | some b =>
   simp only[hg] at he;cases b with
   | true =>
     simp only[if_true] at he;cases hee:dN P call o st with
     | none=>simp[hee] at he
     | some e =>
       simp only[hee,Option.map_some,Option.some.injEq] at he;subst he;obtain⟨a',w',nD,S'⟩:=HI (Sx (Q:=fun _ _ _=>False) (K:=fun a' w'=>∃nD,kE F h0 w0 nt nD (e.apply st) a' w') S jY hee hd (fun nD a' w' h=>⟨nD,h⟩))
       exact⟨F,h0,w0,nD,a',w',S'⟩
   | false =>
     simp only[Bool.false_eq_true,if_false,Option.some.injEq] at he;subst he;exact⟨F,h0,w0,ρ,_,w,S.put o.dst hd (.v _)⟩
theorem uX {b:Array Nat} {i a:Nat} {aS:List Nat} (ha:a∈aS):∀(l:List Oper) (m0:Nat),vK b i aS l m0=true→∀m o,l[m]? = some o→o.dst=some a→(b.getD i 0).testBit (m0+m)=true
 | [],_,_,m,o,h,_=>by simp at h
 | o' :: l,m0,h,m,o,ho,hd=>by
   unfold vK at h;simp only[Bool.and_eq_true,Bool.or_eq_true] at h;cases m with
   | zero =>
     simp at ho
     subst ho;rcases h.1 with h|h
     ·rw[hd] at h;simp[ha] at h
     ·simpa using h
   | succ m =>
     have:=uX ha l (m0+1) h.2 m o (by simpa using ho) hd
     rw[show m0+(m+1)=m0+1+m by omega]
     exact this
theorem pP.mem {s:St}:∀ {l:List (Nat × Nat)},pP ops s l→∀p∈l,Vd ops s p
 | p :: l,h,q,hq=>by
   rcases List.mem_cons.1 hq with rfl|hq
   ·exact h.1
   ·exact h.2.mem q hq
structure Left (ops:Array Oper) (lK:Array Bool) (l:List Nat):Prop where
 size:lK.size=ops.size
 mem:∀j,j∈l↔j<ops.size∧lK.getD j true=false
 sorted:l.Pairwise (· < ·)
 closed:∀j o,ops[j]? = some o→lK.getD j false=true→∀e∈o.after,Region.binds .any e=true→lK.getD e.on false=true
theorem Cu.aF4 {dy:List (Nat × Nat)} {b:Array Nat} (D:Cu ops dy b):∀(j:Nat) o,ops[j]? = some o→∀k,(b.getD j 0).testBit k=true→k<j:=by
 intro j;induction j using Nat.strongRecOn with
 | _ j ih =>
   intro o ho k hk;have hj:j<ops.size:=(Array.getElem?_eq_some_iff.1 ho).1
   obtain⟨e,he,hb,hor⟩:=D.aLZ j o (by rw[D.size];exact hj) ho k hk
   have aZ:=D.lt j o ho e he hb
   rcases hor with rfl|hk'
   ·exact aZ
   ·have hes:e.on<ops.size:=by omega
    have:=ih e.on aZ _ (Array.getElem?_eq_getElem hes) k hk'
    omega
theorem EM {lK:Array Bool} {j:Nat} (hj:j<lK.size):lK.getD j true=lK.getD j false:=by simp[hj]
theorem NT {dy:List (Nat × Nat)} {b:Array Nat} (D:Cu ops dy b) {lK:Array Bool} {l:List Nat} (L:Left ops lK l):∀(j:Nat) o,ops[j]? = some o→(∀e∈o.after,Region.binds .any e=true→lK.getD e.on false=true) →
 ∀k,(b.getD j 0).testBit k=true→lK.getD k false=true:=by
 intro j;induction j using Nat.strongRecOn with
 | _ j ih =>
   intro o ho Ko k hk;have hj:j<ops.size:=(Array.getElem?_eq_some_iff.1 ho).1
   obtain⟨e,he,hb,hor⟩:=D.aLZ j o (by rw[D.size];exact hj) ho k hk
   have hle:=Ko e he hb
   rcases hor with rfl|hk'
   ·exact hle
   ·have aZ:=D.lt j o ho e he hb
    have hes:e.on<ops.size:=by omega
    exact ih e.on aZ _ (Array.getElem?_eq_getElem hes) (L.closed e.on _ (Array.getElem?_eq_getElem hes) hle) k hk'
end
end Go.Ab
end
section
namespace Go.Ab
open Classical
variable [Ext]
section
variable {P:Program} {call:Nat→List AV→Option AV} {inl:Nat→List AV→St→Option (AV × St)} {bi:Bool} {nt:Nat} {h0:Nat→Obj→Prop} {w0:World} {F:Gj}
theorem BG {ops:Array Oper} {id:Nat} {draw:Bool} (h:codeOk bi nt (.region id ops draw)=true):(∀(j:Nat) o,ops[j]? = some o→∀d,o.dst=some d→d<nt)∧(draw=true→Ve ops (if bi=true then Ext.dyn id ops.size (rG ops) else [])=true):=by
 simp only[codeOk,Bool.and_eq_true,Bool.or_eq_true,Bool.not_eq_true'] at h;refine⟨fun j o ho d hd=>?_,fun hdr=>h.2.resolve_left (by rw[hdr];simp)⟩
 have:=Array.all_eq_true_iff_forall_mem.1 h.1 o (Array.mem_of_getElem? ho)
 simpa [hd] using this
def Xt (P:Program) (inl:Nat→List AV→St→Option (AV × St)):Prop :=
 ∀g xs st r s',inl g xs st=some (r,s')→Hh P g ∧
  ∀(F:Gj) (h0:Nat→Obj→Prop) (w0:World) (nt:Nat) (ρ:Nat→Nat→Value) (a:Act) (w:World) (vs:Array Value) (K:Value→World→Prop),kE F h0 w0 nt ρ st a w→lC (ctx h0 w0 ρ st w) xs vs.toList →
   (∀nD w' v,kE F h0 w0 nt nD (st.back s') a w'→cM (ctx h0 w0 nD (st.back s') w') r v→K v w')→Calls P g vs w fun en w'=>∃v,en=.returned v∧K v w'
theorem UR {o:Oper} {g:Nat} {args:List Operand} (h:Ew o=some (g,args)):∃c,o.op=.call c∧c.callee=.value (.func g)∧c.args.toList=args:=by
 obtain⟨dst,op,type,pos,after,guard⟩:=o
 unfold Ew at h;split at h
 ·rename_i g' args' sQ pQ
  split at h
  ·simp only[Option.some.injEq,Prod.mk.injEq] at h;obtain⟨rfl,rfl⟩:=h
   exact⟨_,pQ,rfl,rfl⟩
  ·cases h
 ·cases h
theorem Tb {ops:Array Oper} {Q:Exit→Act→World→Prop} {ρ:Nat→Nat→Value} {st st':St} {a:Act} {w:World} {K:Act→World→Prop} (S:kE F h0 w0 nt ρ st a w) (jY:qK P call) (Ol:Xt P inl) {i:Nat} {o:Oper}
 (hi:ops[i]? = some o) (hd:∀d,o.dst=some d→d<nt) (h:gL P bi call inl ops o st=some st')
 (hK:∀nD a' w',kE F h0 w0 nt nD st' a' w'→K a' w'):wpOp P ops Q i K a w:=by
 unfold gL at h;split at h
 ·rename_i g args hg;have ZM:Ew o=some (g,args):=by
   split at hg
   ·exact hg
   ·cases hg
  obtain⟨c,pQ,hcal,sR⟩:=UR ZM
  unfold wpOp;simp only[hi];cases S9:gv ops st o.guard with
  | none=>simp[S9] at h
  | some b =>
    rw[NS S S9];simp only[S9] at h;cases b with
    | true =>
      simp only[if_true] at h ⊢;cases he:inl g (args.map st.ev) st with
      | none=>simp[he] at h
      | some r =>
        obtain⟨x,s'⟩:=r
        simp only[he,Option.map_some,Option.some.injEq] at h;subst h;refine .inl ?_
        obtain⟨⟨fn,aFZ,S4,S5⟩,UH⟩:=Ol g _ st x s' he
        have hnb:fn.body.isNone=false:=by
         cases hb:fn.body<;>simp[hb] at S5 ⊢
        have Pz : ¬ fn.name = "runtime.NumGoroutine" := by simpa using S4
        have hn2:¬fn.body=none:=by intro h;simp[h] at hnb
        have pN:(execOp a.eval o).run P w=.ok (.enter g (c.args.map a.eval)) w:=by
         simp[execOp,pQ,resolve,hcal,Act.eval,Deferred.ofValue,invoke,callFunc,aFZ,Pz,hn2]
        have fU:lC (ctx h0 w0 ρ st w) (args.map st.ev) (c.args.map a.eval).toList:=by
         rw[← sR];simpa using lC.map c.args.toList _ _ fun p _=>S.ev p
        unfold Oper.wp;rw[pN,Oper.upon_enter];refine (UH F h0 w0 nt ρ a w (c.args.map a.eval) (fun v w'=>K (a.put o.dst v) w') S fU fun nD w' v S' hv=>?_).mono ?_
        ·exact hK nD _ w' (S'.put o.dst hd hv)
        ·rintro en w' ⟨v,rfl,hk⟩
         exact hk
    | false =>
      simp only[Bool.false_eq_true,if_false,Option.some.injEq] at h ⊢;subst h;exact hK ρ _ w (S.put o.dst hd (.v _))
 ·exact UQ S jY hi hd h hK
theorem Xu {ops:Array Oper} (jY:qK P call) (Ol:Xt P inl) (kP:∀(j:Nat) o,ops[j]? = some o→∀d,o.dst=some d→d<nt) {Q:Exit→Act→World→Prop} {sf:St}
 (hQ:∀nD a' w',kE F h0 w0 nt nD sf a' w'→Q .normal a' w'):∀(l:List Oper) (k:Nat) (st:St) (ρ:Nat→Nat→Value) (a:Act) (w:World),(∀(j:Nat) o,l[j]? = some o→ops[k+j]? = some o)→kE F h0 w0 nt ρ st a w →
  lT P bi call inl ops l st=some sf→wpOps P ops Q (List.range' k l.length) a w
 | [],k,st,ρ,a,w,hl,S,h=>by
   simp only[lT,Option.some.injEq] at h;subst h;exact hQ ρ a w S
 | o :: l,k,st,ρ,a,w,hl,S,h=>by
   rw[List.length_cons,List.range'_succ,wpOps_cons];have hi:ops[k]? = some o:=hl 0 o rfl
   unfold lT at h;cases h1:gL P bi call inl ops o st with
   | none=>simp[h1,cH] at h
   | some s1 =>
     simp only[h1,cH] at h;exact Tb S jY Ol hi (kP k o hi) h1 fun nD a' w' S'=>Xu jY Ol kP hQ l (k+1) s1 nD a' w' (fun j o' hj=>by
      have:=hl (j+1) o' (by simpa using hj)
      rw[show k+1+j=k+(j+1) by omega];exact this) S' h
noncomputable def Ln (P:Program) (bi:Bool) (call:Nat→List AV→Option AV) (inl:Nat→List AV→St→Option (AV × St)) (ops:Array Oper):List Nat→St→Option St
 | [],st=>some st
 | i :: r,st =>
   match ops[i]? with
   | some o=>cH (gL P bi call inl ops o st) (Ln P bi call inl ops r)
   | none=>Ln P bi call inl ops r st
theorem Tc {ops:Array Oper}:∀(l:List Oper) (k:Nat) (st:St),(∀j,l[j]? = ops[k+j]?∨l.length≤j)→lT P bi call inl ops l st=Ln P bi call inl ops (List.range' k l.length) st
 | [],k,st,h=>rfl
 | o :: l,k,st,h=>by
   have h0:=(h 0).resolve_right (by simp)
   simp only[List.getElem?_cons_zero,Nat.add_zero] at h0;simp only[lT,List.length_cons,List.range'_succ,Ln,← h0];cases gL P bi call inl ops o st with
   | none=>rfl
   | some s =>
     simp only[cH];exact Tc l (k+1) s fun j=>by
      rcases h (j+1) with h|h
      ·left
       rw[show k+1+j=k+(j+1) by omega,← h]
       simp
      ·right
       simpa using h
theorem Xv {ops:Array Oper} {o:Oper} {st s:St} {a:Nat} (h:cC P call ops o st=some s) (hd:o.dst≠some a):s.env a=st.env a:=by
 rw[En] at h;cases he:qZ P call ops o st with
 | none=>simp[he] at h
 | some e =>
   simp only[he,Option.map_some,Option.some.injEq] at h;subst h;rw[oA,(oJ he).1,if_neg hd]
theorem T8 {o:Oper} (h:WW o=true):Ew o=none:=by simpa [WW] using h
theorem NU {ops:Array Oper} {o:Oper} (h:WW o=true) (st:St):gL P bi call inl ops o st=cC P call ops o st:=by
 unfold gL;rw[T8 h];cases bi<;>rfl
theorem A2 {ops:Array Oper} {o:Oper} {st s:St} {a:Nat} (h:gL P bi call inl ops o st=some s) (hd:o.dst≠some a):s.env a=st.env a:=by
 unfold gL at h;have hput:∀(s0:St) (x:AV),(s0.put o.dst x).env a=s0.env a:=fun s0 x=>by
  cases hod:o.dst with
  | none=>rfl
  | some d =>
    simp only[St.put];rw[if_neg];rintro rfl
    exact hd hod
 split at h
 ·split at h
  ·split at h
   ·simp only[Option.map_eq_some_iff] at h;obtain⟨r,_,rfl⟩:=h
    exact hput _ _
   ·simp only[Option.some.injEq] at h;subst h;exact hput _ _
  ·cases h
 ·exact Xv h hd
theorem Om {ops:Array Oper} {a:Nat}:∀(l:List Nat) {st sf:St},(∀m∈l,∀o,ops[m]? = some o→o.dst≠some a)→Ln P bi call inl ops l st=some sf→sf.env a=st.env a
 | [],st,sf,_,h=>by
   simp only[Ln,Option.some.injEq] at h;subst h;rfl
 | i :: l,st,sf,hd,h=>by
   unfold Ln at h;cases hi:ops[i]? with
   | none=>simp only[hi] at h;exact Om l (fun m hm=>hd m (by simp[hm])) h
   | some o =>
     simp only[hi] at h;cases h1:gL P bi call inl ops o st with
     | none=>simp[h1,cH] at h
     | some s1 =>
       simp only[h1,cH] at h;rw[Om l (fun m hm=>hd m (by simp[hm])) h,A2 h1 (hd i (by simp) o hi)]
def YK (ops:Array Oper) (sf:St) (rest:List Nat) (k:Nat) (ok oi:Oper):Prop :=
 rS ops ok oi=true∨∃aS bs,gQ ok=some aS∧gQ oi=some bs∧Oper.apart ops ok oi=true∧Km sf aS bs ∧
  (∀m∈rest,k≤m→∀o,ops[m]? = some o→∀a∈aS,o.dst≠some a)∧(∀m∈rest,∀o,ops[m]? = some o→∀b∈bs,o.dst≠some b)
theorem Xw {ops:Array Oper} (jY:qK P call) (kP:∀(j:Nat) o,ops[j]? = some o→∀d,o.dst=some d→d<nt) {i:Nat} {oi:Oper} (hi:ops[i]? = some oi) (l2:List Nat):∀(l1:List Nat) (st sf:St),Valid nt st→(l1++i :: l2).Pairwise (· < ·) →
 (∀k∈l1,∃ok,ops[k]? = some ok∧WW ok=true∧WW oi=true∧YK ops sf (l1++i :: l2) k ok oi)→Ln P bi call inl ops (l1++i :: l2) st=some sf→Ln P bi call inl ops (i :: (l1++l2)) st=some sf
 | [],st,sf,_,_,_,h=>h
 | k :: l1,st,sf,hv,hs,mQ,h=>by
   obtain⟨ok,rE,Pz,hn2,hak⟩:=mQ k (by simp)
   have e1:=fun st=>NU (P:=P) (bi:=bi) (call:=call) (inl:=inl) (ops:=ops) Pz st
   have e2:=fun st=>NU (P:=P) (bi:=bi) (call:=call) (inl:=inl) (ops:=ops) hn2 st
   simp only[List.cons_append,Ln,rE,e1] at h;cases h1:cC P call ops ok st with
   | none=>simp[h1,cH] at h
   | some s1 =>
     simp only[h1,cH] at h;rw[List.cons_append,List.pairwise_cons] at hs;have ih:=Xw jY kP hi l2 l1 s1 sf (hv.step jY (kP k ok rE) h1) hs.2 (fun k' hk=>by
      obtain⟨ok',h1,m1,m2,h2⟩:=mQ k' (by simp[hk])
      refine⟨ok',h1,m1,m2,h2.imp id ?_⟩
      rintro⟨a,a',e1,e2,e3,e4,e5,e6⟩
      exact⟨a,a',e1,e2,e3,e4,fun m hm=>e5 m (by simp only[List.cons_append];exact List.mem_cons_of_mem _ hm),fun m hm=>e6 m (by simp only[List.cons_append];exact List.mem_cons_of_mem _ hm)⟩) h
     have ih0:=ih
     simp only[Ln,hi,e2] at ih;cases h2:cC P call ops oi s1 with
     | none=>simp[h2,cH] at ih
     | some s2 =>
       simp only[h2,cH] at ih;have hcomm:∃s3,cC P call ops oi st=some s3∧cC P call ops ok s3=some s2:=by
        rcases hak with hak|⟨aS,bs,R1,e2',e3,e4,e5,e6⟩
        ·exact aCa hv.hp hak hv.ids h1 h2
        ·have w1:∀m∈i :: (l1++l2),m∈(k :: l1)++i :: l2∧k≤m:=fun m hm=>by
          have hm':m∈l1++i :: l2:=by
           simp only[List.mem_cons,List.mem_append] at hm ⊢;rcases hm with h|h|h
           ·exact .inr (.inl h)
           ·exact .inl h
           ·exact .inr (.inr h)
          exact⟨by simp only[List.cons_append];exact List.mem_cons_of_mem _ hm',Nat.le_of_lt (hs.1 m hm')⟩
         have f1:∀a∈aS,sf.env a=st.env a:=fun a ha=>by
          rw[Om _ (fun m hm o ho=>e5 m (w1 m hm).1 (w1 m hm).2 o ho a ha) ih0,Xv h1 (e5 k (by simp) (Nat.le_refl _) ok rE a ha)]
         have f2:∀b∈bs,sf.env b=st.env b:=fun b hb=>by
          rw[Om _ (fun m hm o ho=>e6 m (w1 m hm).1 o ho b hb) ih0,Xv h1 (e6 k (by simp) ok rE b hb)]
         have e4':Km st aS bs:=fun a ha b hb=>by
          have:=e4 a ha b hb
          rw[f1 a ha,f2 b hb] at this;exact this
         exact T6 hv.ids R1 e2' e3 e4' h1 h2
       obtain⟨s3,h3,h4⟩:=hcomm
       simp only[List.cons_append,Ln,hi,rE,e1,e2,h3,h4,cH];exact ih
theorem Xx {ops:Array Oper} {Q:Exit→Act→World→Prop} (jY:qK P call) (Ol:Xt P inl) (kP:∀(j:Nat) o,ops[j]? = some o→∀d,o.dst=some d→d<nt) {dy:List (Nat × Nat)} {b:Array Nat} (D:Cu ops dy b) {sf:St} (hsw:pP ops sf dy)
 (hQ:∀nD a' w',kE F h0 w0 nt nD sf a' w'→Q .normal a' w'):∀(f:Nat) (l:List Nat) (lK:Array Bool) (st:St) (ρ:Nat→Nat→Value) (a:Act) (w:World),l.length=f→Left ops lK l→kE F h0 w0 nt ρ st a w →
 Ln P bi call inl ops l st=some sf→wpAny P .any ops Q f lK a w
 | 0,l,lK,st,ρ,a,w,hf,L,S,he=>by
   have hl:=List.length_eq_zero_iff.1 hf
   subst hl;simp only[Ln,Option.some.injEq] at he;subst he;refine⟨?_,hQ ρ a w S⟩
   cases hr:Region.ready .any ops lK with
   | nil=>rfl
   | cons x xs =>
     have hx:x∈Region.ready .any ops lK:=by rw[hr];simp
     obtain⟨h1,o,ho,_⟩:=mem_ready.1 hx
     have:=(L.mem x).2 ⟨(Array.getElem?_eq_some_iff.1 ho).1,h1⟩
     simp at this
 | f+1,l,lK,st,ρ,a,w,hf,L,S,he=>by
   refine⟨fun hr=>?_,fun i hi=>?_⟩
   ·exfalso
    cases l with
    | nil=>simp at hf
    | cons i l =>
      have hil:=(L.mem i).1 (by simp)
      have:i∈Region.ready .any ops lK:=mem_ready.2 ⟨hil.2,ops[i],Array.getElem?_eq_getElem hil.1,fun e zM hb=>by
       have aZ:=D.lt i _ (Array.getElem?_eq_getElem hil.1) e zM hb
       cases hle:lK.getD e.on false with
       | true=>rfl
       | false =>
         have YG:e.on<lK.size:=by rw[L.size];omega
         have hin:=(L.mem e.on).2 ⟨by omega,by rw[EM YG];exact hle⟩
         rcases List.mem_cons.1 hin with h|h
         ·omega
         ·have:=(List.pairwise_cons.1 L.sorted).1 _ h
          omega⟩
      rw[hr] at this;simp at this
   ·obtain⟨h1,oi,T7,Ko⟩:=mem_ready.1 hi
    have hilt:i<ops.size:=(Array.getElem?_eq_some_iff.1 T7).1
    have hil:=(L.mem i).2 ⟨hilt,h1⟩
    obtain⟨l1,l2,rfl⟩:=List.append_of_mem hil
    have hs:=L.sorted
    rw[List.pairwise_append] at hs;obtain⟨s1,s2,s3⟩:=hs
    have hno:∀m,(b.getD i 0).testBit m=true→m ∉ l1++i :: l2:=fun m h hm=>by
     have hkm:=(L.mem m).1 hm
     have:=NT D L i oi T7 Ko m h
     rw[← EM (by rw[L.size];exact hkm.1),hkm.2] at this
     cases this
    have mQ:∀k∈l1,∃ok,ops[k]? = some ok∧WW ok=true∧WW oi=true∧YK ops sf (l1++i :: l2) k ok oi:=fun k hk=>by
     have hki:=s3 k hk i (by simp)
     have hkm:=(L.mem k).1 (by simp[hk])
     refine⟨ops[k],Array.getElem?_eq_getElem hkm.1, ?_⟩
     rcases D.apart k i _ oi hki (Array.getElem?_eq_getElem hkm.1) T7 with h|⟨n1,n2,h|⟨hm,h⟩⟩
     ·exact absurd (by simp[hk]) (hno k h)
     ·exact⟨n1,n2,.inl h⟩
     ·refine⟨n1,n2,.inr ?_⟩
      have hsa:=hsw.mem _ hm
      unfold Vd at hsa;simp only[Array.getElem?_eq_getElem hkm.1,T7,Option.bind_some] at hsa;unfold EY at h;cases ha:gQ ops[k] with
      | none=>rw[ha] at h;cases h
      | some aS =>
        cases ha':gQ oi with
        | none=>rw[ha,ha'] at h;cases h
        | some bs =>
          rw[ha,ha'] at hsa h;simp only[Bool.and_eq_true] at h hsa;refine⟨aS,bs,rfl,rfl,h.1.1,hsa,fun m hm hkm' o ho a haa hd=>?_,fun m hm o ho b wG hd=>?_⟩
          ·have hb:=uX haa _ 0 h.1.2 m o (by simpa using ho) hd
           rw[Nat.zero_add] at hb;have aZ:=D.aF4 k _ (Array.getElem?_eq_getElem hkm.1) m hb
           omega
          ·have hb:=uX wG _ 0 h.2 m o (by simpa using ho) hd
           rw[Nat.zero_add] at hb;exact hno m hb hm
    have zM:=Xw jY kP T7 l2 l1 st sf ⟨F,h0,w0,ρ,a,w,S⟩ L.sorted mQ he
    simp only[Ln,T7] at zM
    cases h2:gL P bi call inl ops oi st with
    | none=>simp[h2,cH] at zM
    | some s2' =>
      simp only[h2,cH] at zM
      refine Tb S jY Ol T7 (kP i oi T7) h2 fun nD a' w' S'=>?_
      refine Xx jY Ol kP D hsw hQ f (l1++l2) _ s2' nD a' w' (by simp at hf ⊢;omega) ⟨by simp[L.size],fun j=>?_, ?_,fun j o ho hlj e he'' hb=>?_⟩ S' zM
      ·have hm:=L.mem j
       simp only[List.mem_append,List.mem_cons] at hm ⊢;by_cases hji:j=i
       ·subst hji;have Pz:j ∉ l1:=fun h=>by have:=s3 j h j (by simp);omega
        have hn2:j ∉ l2:=fun h=>by have:=(List.pairwise_cons.1 s2).1 j h;omega
        have hset:(lK.setIfInBounds j true).getD j true=true:=by
         have:j<lK.size:=by rw[L.size];exact hilt
         simp[this]
        simp[Pz,hn2,hset]
       ·rw[getD_set_ne true (Ne.symm hji)];simpa [hji] using hm
      ·rw[List.pairwise_append];exact⟨s1,(List.pairwise_cons.1 s2).2,fun x hx y hy=>s3 x hx y (by simp[hy])⟩
      ·by_cases hji:i=j
       ·subst hji;rw[T7] at ho;cases ho
        exact getD_set_true (Ko e he'' hb)
       ·rw[getD_set_ne false hji] at hlj;exact getD_set_true (L.closed j o ho hlj e he'' hb)
theorem HJ (hm:P.follows .mixedOrders=true) (jY:qK P call) (Ol:Xt P inl) {ops:Array Oper} {id:Nat} {draw:Bool} (rE:codeOk bi nt (.region id ops draw)=true) {Q:Exit→Act→World→Prop} {st sf:St} {ρ:Nat→Nat→Value} {a:Act} {w:World}
 (S:kE F h0 w0 nt ρ st a w) (hsw:bi=true→pP ops sf (Ext.dyn id ops.size (rG ops))) (h:lT P bi call inl ops ops.toList st=some sf) (hQ:∀nD a' w',kE F h0 w0 nt nD sf a' w'→Q .normal a' w'):(Code.region id ops draw).wp P Q a w:=by
 obtain⟨kP,hdraw⟩:=BG rE
 cases draw with
 | false =>
   refine wp_region ?_
   rw[List.range_eq_range'];have:=Xu jY Ol kP hQ ops.toList 0 st ρ a w (fun j o hj=>by simpa using hj) S h
   simpa using this
 | true =>
   rw[Tc ops.toList 0 st (fun j=>.inl (by simp))] at h
   obtain⟨b,D⟩:=NR (hdraw rfl)
   refine wp_region_any hm ?_
   have hg:w.grownBy { w with drawn:=w.drawn+1 } none:=⟨rfl,rfl,rfl,Nat.le_refl _,fun _ _ _=>rfl⟩
   have hsw':pP ops sf (if bi=true then Ext.dyn id ops.size (rG ops) else []):=by
    cases bi with
    | true=>exact hsw rfl
    | false=>exact trivial
   refine Xx jY Ol kP D hsw' hQ ops.size (List.range' 0 ops.size) _ st ρ a _ (by simp) ⟨by simp,fun j=>?_, ?_,fun j o ho hl=>?_⟩ (S.grow hg).1 (by simpa using h)
   ·rw[← List.range_eq_range',List.mem_range];constructor
    ·intro hj;exact⟨hj,by simp[hj]⟩
    ·exact fun h=>h.1
   ·rw[← List.range_eq_range'];exact List.pairwise_lt_range
   ·simp[Array.getD_eq_getD_getElem?,Array.getElem?_replicate] at hl
    split at hl<;>simp at hl
theorem Dw {p:Nat→Prop} (h:∃n,p n):∃n,p n∧∀m,p m→n≤m:=by
 obtain⟨n,hn⟩:=h
 induction n using Nat.strongRecOn with
 | _ n ih =>
   by_cases hl:∃m,m<n∧p m
   ·obtain⟨m,hm,hp⟩:=hl
    exact ih m hm hp
   ·exact⟨n,hn,fun m hm=>by
     rcases Nat.lt_or_ge m n with h|h
     ·exact absurd ⟨m,h,hm⟩ hl
     ·exact h⟩
noncomputable def Xy (p:Nat→Prop):Nat:=if h:∃n,p n then Classical.choose (Dw h) else 0
theorem Td {p:Nat→Prop} (h:∃n,p n):p (Xy p)∧∀m,p m→Xy p≤m:=by
 unfold Xy;rw[dif_pos h];exact Classical.choose_spec (Dw h)
def Ex.to:Ex→Exit
 | .normal=>.normal
 | .exit id=>.exit id
 | .ret=>.ret
theorem pI (hm:P.follows .mixedOrders=true) (jY:qK P call) (Ol:Xt P inl) (n:Nat):∀(c:Code) (st sf:St) (ex:Ex) (ρ:Nat→Nat→Value) (a:Act) (w:World) (Q:Exit→Act→World→Prop),codeOk bi nt c=true →
 kE F h0 w0 nt ρ st a w→tT P bi call inl n c st=some (ex,sf)→(∀nD a' w',kE F h0 w0 nt nD sf a' w'→Q ex.to a' w')→c.wp P Q a w:=by
 induction n using Nat.strongRecOn with
 | _ n ih =>
 have pI:∀m,m<n→∀(c:Code) (st sf:St) (ex:Ex) (ρ:Nat→Nat→Value) (a:Act) (w:World) (Q:Exit→Act→World→Prop),codeOk bi nt c=true →
  kE F h0 w0 nt ρ st a w→tT P bi call inl m c st=some (ex,sf)→(∀nD a' w',kE F h0 w0 nt nD sf a' w'→Q ex.to a' w')→c.wp P Q a w:=ih
 clear ih
 intro c st sf ex ρ a w Q rE S h hQ;cases n with
 | zero=>simp[tT] at h
 | succ n =>
   cases c<;>simp only[tT] at h
   case skip =>
    simp only[Option.some.injEq,Prod.mk.injEq] at h;obtain⟨rfl,rfl⟩:=h
    exact wp_skip (hQ ρ a w S)
   case region id ops draw =>
    cases h1:lT P bi call inl ops ops.toList st with
    | none=>simp[h1,cH] at h
    | some s1 =>
      simp only[h1,cH] at h;split at h
      ·cases h
      ·rename_i hsw;simp only[Option.some.injEq,Prod.mk.injEq] at h;obtain⟨rfl,rfl⟩:=h
       exact HJ hm jY Ol rE S (fun hb=>Classical.byContradiction fun hc=>hsw ⟨hb,hc⟩) h1 hQ
   case seq x y =>
    simp only[codeOk,Bool.and_eq_true] at rE;cases h1:tT P bi call inl n x st with
    | none=>simp[h1,cH] at h
    | some r =>
      obtain⟨e1,s1⟩:=r
      simp only[h1,cH] at h;refine wp_seq (pI n (by omega) x st s1 e1 ρ a w _ rE.1 S h1 fun nD a' w' S'=>?_)
      cases e1 with
      | normal=>exact pI n (by omega) y s1 sf ex nD a' w' Q rE.2 S' h hQ
      | exit id =>
        simp only[Option.some.injEq,Prod.mk.injEq] at h;obtain⟨rfl,rfl⟩:=h
        exact hQ nD a' w' S'
      | ret =>
        simp only[Option.some.injEq,Prod.mk.injEq] at h;obtain⟨rfl,rfl⟩:=h
        exact hQ nD a' w' S'
   case cond c x y =>
    simp only[codeOk,Bool.and_eq_true] at rE;split at h
    ·rename_i t ht;have hr:=S.ev c
     rw[ht] at hr;have hv:=iC hr
     refine wp_cond (t:=t) hv ?_
     cases t with
     | true=>exact pI n (by omega) x st sf ex ρ a w Q rE.1 S (by simpa using h) hQ
     | false=>exact pI n (by omega) y st sf ex ρ a w Q rE.2 S (by simpa using h) hQ
    ·cases h
   case block id b =>
    simp only[codeOk] at rE;cases h1:tT P bi call inl n b st with
    | none=>simp[h1,cH] at h
    | some r =>
      obtain⟨e1,s1⟩:=r
      simp only[h1,cH,Option.some.injEq,Prod.mk.injEq] at h;obtain⟨rfl,rfl⟩:=h
      refine wp_block (pI n (by omega) b st s1 e1 ρ a w _ rE S h1 fun nD a' w' S'=>?_)
      have:=hQ nD a' w' S'
      cases e1 with
      | normal=>exact this
      | exit i =>
        simp only[Ex.inBlock] at this;simp only[Ex.to,Exit.inBlock];by_cases hi:i=id
        ·rw[if_pos hi] at this ⊢;exact this
        ·rw[if_neg hi] at this ⊢;exact this
      | ret=>exact this
   case loop b =>
    have hok':=rE
    simp only[codeOk] at rE;let p:Act→World→Nat→Prop:=fun a w m=>m≤n+1∧∃st ρ,kE F h0 w0 nt ρ st a w∧tT P bi call inl m (.loop b) st=some (ex,sf)
    refine wp_loop (fun a w=>∃m,p a w m) (fun a w=>Xy (p a w)) ⟨n+1,Nat.le_refl _,st,ρ,S,h⟩ fun a w hI=>?_
    obtain⟨⟨hle,st1,ρ1,S1,h1⟩,_⟩:=Td hI
    generalize Xy (p a w)=m at h1 hle
    cases m with
    | zero=>simp[tT] at h1
    | succ m =>
      simp only[tT] at h1;cases h2:tT P bi call inl m b st1 with
      | none=>simp[h2,cH] at h1
      | some r =>
        obtain⟨e1,s1⟩:=r
        simp only[h2,cH] at h1;have hmn:m≤n:=by omega
        refine pI m (by omega) b st1 s1 e1 ρ1 a w _ rE S1 h2 fun nD a' w' S'=>?_
        cases e1 with
        | normal =>
          have hp:p a' w' m:=⟨by omega,s1,nD,S',h1⟩
          exact⟨⟨m,hp⟩,Nat.lt_succ_of_le ((Td ⟨m,hp⟩).2 m hp)⟩
        | exit id =>
          simp only[Option.some.injEq,Prod.mk.injEq] at h1;obtain⟨rfl,rfl⟩:=h1
          exact hQ nD a' w' S'
        | ret =>
          simp only[Option.some.injEq,Prod.mk.injEq] at h1;obtain⟨rfl,rfl⟩:=h1
          exact hQ nD a' w' S'
   case exit id =>
    simp only[Option.some.injEq,Prod.mk.injEq] at h;obtain⟨rfl,rfl⟩:=h
    exact wp_exit (hQ ρ a w S)
   case ret =>
    simp only[Option.some.injEq,Prod.mk.injEq] at h;obtain⟨rfl,rfl⟩:=h
    exact wp_ret (hQ ρ a w S)
   all_goals cases h
end
end Go.Ab
end
section
namespace Go.Ab
open Classical
variable [Ext]
section
variable {P:Program}
theorem NV {h0:Nat→Obj→Prop} {w w':World}:(bare (Cr h0 w w')).Le (bare (newHs h0 w w' [])) :=
 ⟨fun b o h=>⟨h.1,h.2,by simp⟩,fun _=>Nat.le_refl _,fun _ _ h=>absurd h (by simp[bare])⟩
def zB (tmps:Array Value):ResultVar→Sem Value
 | .tmp t=>pure (tmps.getD t undef)
 | .cell p t=>do loadVar t (← asAddr (tmps.getD p undef))
theorem HK {h0:Nat→Obj→Prop} {w0:World} {F:Gj} {nt:Nat} {ρ:Nat→Nat→Value} {st:St} {a:Act} {w:World} (S:kE F h0 w0 nt ρ st a w) {rv:ResultVar} {x:AV} (h:lB P st rv=some x) :
 ∃y,(zB a.tmps rv).run P w=.ok y w∧cM (ctx h0 w0 ρ st w) x y:=by
 cases rv with
 | tmp t =>
   simp only[lB,Option.some.injEq] at h;subst h;exact⟨_,rfl,S.env t⟩
 | cell p T =>
   simp only[lB] at h;cases hra:pX st (st.env p) with
   | none=>simp[hra,cH] at h
   | some cs =>
     simp only[hra,cH] at h;obtain⟨b,off,arr,B,fr,hu,_,_⟩:=Mo S hra (S.env p)
     obtain⟨r,hr,fU⟩:=Vl S hra h (S.env p)
     rw[hu] at hr;refine⟨r, ?_,fU⟩
     simp only[Instr.loadAt,Instr.sureAddr] at hr;simp only[zB,hu,asAddr];exact hr
theorem lL {h0:Nat→Obj→Prop} {w0:World} {F:Gj} {nt:Nat} {ρ:Nat→Nat→Value} {st:St} {a:Act} {w:World} (S:kE F h0 w0 nt ρ st a w):∀(rs:List ResultVar) (xs:List AV),rs.map (lB P st)=xs.map some →
 ∃ys,(rs.mapM (zB a.tmps)).run P w=.ok ys w∧lC (ctx h0 w0 ρ st w) xs ys
 | [],xs,h=>by
   cases xs with
   | nil=>exact⟨[],rfl,.nil _⟩
   | cons x xs=>simp at h
 | r :: rs,xs,h=>by
   cases xs with
   | nil=>simp at h
   | cons x xs =>
     simp only[List.map_cons,List.cons.injEq] at h;obtain⟨y,hy,fU⟩:=HK S h.1
     obtain⟨ys,Ts,hrels⟩:=lL S rs xs h.2
     refine⟨y :: ys, ?_,.cons fU hrels⟩
     rw[List.mapM_cons,dI hy,dI Ts];rfl
theorem HL {h0:Nat→Obj→Prop} {w0:World} {F:Gj} {nt:Nat} {ρ:Nat→Nat→Value} {st:St} {a:Act} {w:World} (S:kE F h0 w0 nt ρ st a w) {fn:Func} {r:AV} (h:vD P fn st=some r) :
 ∃v,(results fn a.tmps).run P w=.ok v w∧ND h0 w0 w r v:=by
 have NX:∀(ys:List Value),(fn.results.toList.mapM (zB a.tmps)).run P w=.ok ys w →
  (results fn a.tmps).run P w=.ok (if h:ys.toArray.size=1 then ys.toArray[0] else .tuple ys.toArray) w:=by
  intro ys Ts;have e:results fn a.tmps=(do let vs ← fn.results.mapM (zB a.tmps);pure (if h:vs.size=1 then vs[0] else .tuple vs)):=by
   unfold results;congr 1
  rw[e,Array.mapM_eq_mapM_toList];simp only[Sem.run_bind,Sem.run_map,Ts,Result.andThen_ok,Sem.run_pure]
 unfold vD at h;split at h
 ·rename_i r1 G8;cases h1:lB P st r1 with
  | none=>simp[h1,cH] at h
  | some x =>
    simp only[h1,cH] at h;obtain⟨ys,Ts,fU⟩:=lL (P:=P) S [r1] [x] (by simp[h1])
    have hlen:=fU.len
    obtain⟨y,rfl⟩:∃y,ys=[y]:=by
     cases ys with
     | nil=>simp at hlen
     | cons y ys=>cases ys with
       | nil=>exact⟨y,rfl⟩
       | cons z zs=>simp at hlen
    have hxy:=fU.head
    have pN:=NX [y] (by rw[G8];exact Ts)
    simp at pN
    refine⟨y,pN, ?_⟩
    unfold Se at h;split at h
    ·rename_i s g;split at h
     ·rename_i e sz n cs he;split at h
      ·rename_i hf;simp only[Option.some.injEq] at h;subst h;obtain⟨_,_,xs,ho,hc⟩:=S.rT s g _ he
       cases hxy with
       | own _ _ hg Sf =>
         refine⟨[ρ s g],fun x hx=>by simp at hx;subst hx;exact Sf,fun i j x y b hi hj _ _=>by
          have:=(List.getElem?_eq_some_iff.1 hi).1
          have:=(List.getElem?_eq_some_iff.1 hj).1
          simp only[List.length_singleton] at *
          omega,fun x hx b hb=>by simp at hx;subst hx;exact (Bz ho b hb).1,fun d c=>rfl,fun D d c hD kK=>?_⟩
         obtain⟨k1,k2⟩:=kK 0 _ rfl
         simp only[Nat.add_zero] at k1 k2;refine⟨?_,fun i e' x hi hx=>?_⟩
         ·have:=cM.own (C:=D) d c k1 (by rw[k2];exact Sf)
          rw[k2] at this;exact this
         ·match i with
          | 0 =>
            simp only[WV,Tj,xY,List.getElem?_cons_zero,Option.some.injEq] at hi hx;subst hi;subst hx;exact⟨xs,ho,hc.flat hf fun b o hb=>hD b o ⟨hb.1,hb.2.1,by simpa using hb.2.2 s g _ he⟩⟩
          | i+1=>simp at hx
      ·cases h
     ·cases h
    ·exact EH (Je h) ((Ll S hxy h).le NV)
 ·rename_i rs gR;simp only[Option.map_eq_some_iff] at h;obtain⟨ds,Qx,rfl⟩:=h
  have hm:=jD _ _ Qx
  have hex:∃xs:List AV,fn.results.toList.map (lB P st)=xs.map some∧xs.map (Bx st)=ds.map some:=by
   generalize fn.results.toList=l at hm
   clear Qx
   induction l generalizing ds with
   | nil=>cases ds with
     | nil=>exact⟨[],rfl,rfl⟩
     | cons d ds=>simp at hm
   | cons r l ih=>cases ds with
     | nil=>simp at hm
     | cons d ds =>
       simp only[List.map_cons,List.cons.injEq] at hm;obtain⟨xs,e1,e2⟩:=ih ds hm.2
       cases hr:lB P st r with
       | none=>simp[hr,cH] at hm
       | some x =>
         simp only[hr,cH] at hm;exact⟨x :: xs,by simp[hr,e1],by simp[hm.1,e2]⟩
  obtain⟨xs,e1,e2⟩:=hex
  obtain⟨ys,Ts,fU⟩:=lL S _ xs e1
  have Py:xs.length=fn.results.toList.length:=by have:=congrArg List.length e1;simpa using this.symm
  have RT:ds.length=xs.length:=by have:=congrArg List.length e2;simpa using this.symm
  have T9:ys.toArray.size≠1:=by
   intro h1;have hlen:=fU.len
   simp only[List.size_toArray] at h1;have:fn.results.toList.length=1:=by omega
   obtain⟨z,hz⟩:=List.length_eq_one_iff.1 this
   exact gR z hz
  have pN:=NX ys Ts
  rw[dif_neg T9] at pN;refine⟨_,pN, ?_⟩
  refine EH (.eE ds (oX (p:=Flat) (f:=fun r=>cH (lB P st r) (Bx st)) (fun a b h=>by
   cases hr:lB P st a with
   | none=>simp[hr,cH] at h
   | some x=>simp only[hr,cH] at h;exact UD h) _ _ Qx)) (.eE ds ys.toArray (by simp;rw[RT];exact fU.len) fun i x y hx hy=>?_)
  have hi:i<xs.length:=by have:=(List.getElem?_eq_some_iff.1 hx).1;omega
  have Iv:Bx st xs[i]=some x:=by
   have:=congrArg (·[i]?) e2
   simp only[List.getElem?_map,hx,List.getElem?_eq_getElem hi,Option.map_some,Option.some.injEq] at this;exact this
  exact (NI S (fU.rel i xs[i] y (by simp[hi]) (by simpa using hy)) Iv).le NV
def YL (w0:World) (ρ:Nat→Nat→Value) (st:St) (w:World) (d:Nat) (H:Nat→Obj→Prop) (f:Nat→AV→AV × List mV) (y:AV) (ks:List (Nat × Nat)) (u:Value):Prop :=
 (∀k∈ks,∃e,st.heap k.1 k.2=some e)∧∀c,(f c y).2.length=ks.length∧∀D:Ctx,(∀b o,H b o→D.h b o)→(∀(i:Nat) (k:Nat × Nat),ks[i]? = some k→c+i<D.aQ d∧D.ρ d (c+i)=ρ k.1 k.2) →
  cM D (f c y).1 u∧∀(i:Nat) (e:mV) (k:Nat × Nat),(f c y).2[i]? = some e→ks[i]? = some k→mP D w w0.heap.size (ρ k.1 k.2) e
section pW
variable {h0:Nat→Obj→Prop} {w0:World} {F:Gj} {nt:Nat} {ρ:Nat→Nat→Value} {st:St} {a:Act} {w:World} {H:Nat→Obj→Prop}
theorem U0 (S:kE F h0 w0 nt ρ st a w) (hH:∀b o,(ctx h0 w0 ρ st w).h b o→H b o) {x y:AV} {u:Value} (hu:cM (ctx h0 w0 ρ st w) x u) (h:kA st x=some y) (d:Nat):YL w0 ρ st w d H (xY d) y (gK x) u:=by
 unfold kA at h;split at h
 ·rename_i hf;simp only[Option.some.injEq] at h;subst h;have hk:gK x=[]:=by cases hf<;>rfl
  rw[hk];refine⟨by simp,fun c=>?_⟩
  rw[Ja hf];exact⟨rfl,fun D hD _=>⟨hu.flat hf fun b o hb=>hD _ _ (hH _ _ hb),by simp⟩⟩
 ·split at h
  ·rename_i s g _;split at h
   ·rename_i e sz n cs he;split at h
    ·rename_i hf;simp only[Option.some.injEq] at h;subst h;obtain⟨_,h1,xs,ho,hc⟩:=S.rT s g _ he
     have hu':u=ρ s g:=by cases hu;rfl
     subst hu'
     refine⟨by simp[gK];exact⟨_,he⟩,fun c=>⟨rfl,fun D hD kK=>?_⟩⟩
     obtain⟨k1,k2⟩:=kK 0 (s,g) rfl
     simp only[Nat.add_zero] at k1 k2;refine⟨?_,fun i e' k hi hk=>?_⟩
     ·have:=cM.own (C:=D) d c k1 (by rw[k2];exact h1)
      rw[k2] at this;exact this
     ·match i with
      | 0 =>
        simp only[xY,gK,List.getElem?_cons_zero,Option.some.injEq] at hi hk;subst hi;subst hk;exact⟨xs,ho,hc.flat hf fun b o hb=>hD _ _ (hH _ _ hb)⟩
      | i+1=>simp[gK] at hk
    ·cases h
   ·cases h
  ·cases h
theorem U1 {f:Nat→AV→AV × List mV} {kf:AV→List (Nat × Nat)} {d:Nat}:∀(xs ys:List AV) (us:List Value),xs.length=ys.length→xs.length=us.length →
 (∀(i:Nat) (x y:AV) (u:Value),xs[i]? = some x→ys[i]? = some y→us[i]? = some u→YL w0 ρ st w d H f y (kf x) u) →
 (∀k∈xs.flatMap kf,∃e,st.heap k.1 k.2=some e)∧∀c,(pU f c ys).2.length=(xs.flatMap kf).length∧∀D:Ctx,(∀b o,H b o→D.h b o) →
  (∀(i:Nat) (k:Nat × Nat),(xs.flatMap kf)[i]? = some k→c+i<D.aQ d∧D.ρ d (c+i)=ρ k.1 k.2) →
  lC D (pU f c ys).1 us∧∀(i:Nat) (e:mV) (k:Nat × Nat),(pU f c ys).2[i]? = some e→(xs.flatMap kf)[i]? = some k→mP D w w0.heap.size (ρ k.1 k.2) e
 | [],ys,us,h1,h2,_=>by
   have e1:ys=[]:=List.length_eq_zero_iff.1 (by simpa using h1.symm)
   have e2:us=[]:=List.length_eq_zero_iff.1 (by simpa using h2.symm)
   subst e1;subst e2;exact⟨by simp,fun c=>⟨rfl,fun D _ _=>⟨.nil _,by simp[pU]⟩⟩⟩
 | x :: xs,[],us,h1,_,_=>by simp at h1
 | x :: xs,y :: ys,[],_,h2,_=>by simp at h2
 | x :: xs,y :: ys,u :: us,h1,h2,hg=>by
   obtain⟨g1,g2⟩:=hg 0 x y u rfl rfl rfl
   obtain⟨i1,i2⟩:=U1 xs ys us (by simpa using h1) (by simpa using h2) fun i x' y' u' hx hy hu=>hg (i+1) x' y' u' (by simpa using hx) (by simpa using hy) (by simpa using hu)
   refine⟨fun k hk=>?_,fun c=>?_⟩
   ·simp only[List.flatMap_cons,List.mem_append] at hk;rcases hk with hk|hk
    ·exact g1 k hk
    ·exact i1 k hk
   ·obtain⟨l1,m1⟩:=g2 c
    obtain⟨l2,m2⟩:=i2 (c+(f c y).2.length)
    rw[l1] at l2 m2;simp only[pU,List.flatMap_cons,List.length_append,l1];refine⟨by rw[l2],fun D hD kK=>?_⟩
    obtain⟨r1,e1⟩:=m1 D hD fun i k hk=>kK i k (by rw[List.getElem?_append_left (List.getElem?_eq_some_iff.1 hk).1];exact hk)
    obtain⟨r2,e2⟩:=m2 D hD fun i k hk=>by
     have:=kK ((kf x).length+i) k (by rw[List.getElem?_append_right (by omega)];simpa using hk)
     rw[Nat.add_assoc];exact this
    refine⟨.cons r1 r2,fun i e k hi hk=>?_⟩
    by_cases aZ:i<(kf x).length
    ·rw[List.getElem?_append_left (by rw[l1];exact aZ)] at hi
     rw[List.getElem?_append_left aZ] at hk;exact e1 i e k hi hk
    ·rw[List.getElem?_append_right (by rw[l1];omega),l1] at hi
     rw[List.getElem?_append_right (by omega)] at hk
     exact e2 _ e k hi hk
theorem Xz {α β:Type} {f:α→Option β} {l:List α} {r:List β} (h:bY (l.map f)=some r):l.length=r.length∧∀(i:Nat) x y,l[i]? = some x→r[i]? = some y→f x=some y:=by
 have hm:=jD _ _ h
 have hl:l.length=r.length:=by have:=congrArg List.length hm;simpa using this
 refine⟨hl,fun i x y hx hy=>?_⟩
 have:=congrArg (·[i]?) hm
 simp only[List.getElem?_map,hx,hy,Option.map_some,Option.some.injEq] at this;exact this
theorem aEI (S:kE F h0 w0 nt ρ st a w) (hH:∀b o,(ctx h0 w0 ρ st w).h b o→H b o) {x y:AV} {u:Value} (hu:cM (ctx h0 w0 ρ st w) x u) (h:rD st x=some y) (d:Nat):YL w0 ρ st w d H (Tj d) y (iQ x) u:=by
 cases x
 case agg cs =>
  simp only[rD,Option.map_eq_some_iff] at h;obtain⟨ds,Qx,rfl⟩:=h
  obtain⟨hl,Xe⟩:=Xz Qx
  cases hu with
  | agg _ ar hla hr h1 =>
    obtain⟨g1,g2⟩:=U1 (w0:=w0) (ρ:=ρ) (st:=st) (w:=w) (H:=H) (f:=xY d) (kf:=gK) (d:=d) cs ds ar.toList hl (by simpa using hla) fun i x y v hx hy hv=>U0 S hH (hr i x v hx (by simpa using hv)) (Xe i x y hx hy) d
    refine⟨g1,fun c=>?_⟩
    obtain⟨l1,m1⟩:=g2 c
    refine⟨l1,fun D hD kK=>?_⟩
    obtain⟨r1,e1⟩:=m1 D hD kK
    exact⟨.agg _ ar (by simpa using r1.len) (fun i x y hx hy=>r1.rel i x y hx (by simpa using hy)) h1,e1⟩
 all_goals
  have g:=U0 S hH hu h d
  cases y<;>first|exact g|skip
  all_goals
   exfalso
   simp only[rD] at h;unfold kA at h;split at h
   ·simp at h
   ·simp at h
    try (split at h<;>(try split at h)<;>simp at h)
theorem aEJ (S:kE F h0 w0 nt ρ st a w) (hH:∀b o,(ctx h0 w0 ρ st w).h b o→H b o) {x y:AV} {u:Value} (hu:cM (ctx h0 w0 ρ st w) x u) (h:By st x=some y) (d:Nat):YL w0 ρ st w d H (WV d) y (lF x) u:=by
 cases x
 case eE cs =>
  simp only[By,Option.map_eq_some_iff] at h;obtain⟨ds,Qx,rfl⟩:=h
  obtain⟨hl,Xe⟩:=Xz Qx
  cases hu with
  | eE _ ar hla hr =>
    obtain⟨g1,g2⟩:=U1 (w0:=w0) (ρ:=ρ) (st:=st) (w:=w) (H:=H) (f:=Tj d) (kf:=iQ) (d:=d) cs ds ar.toList hl (by simpa using hla) fun i x y v hx hy hv=>aEI S hH (hr i x v hx (by simpa using hv)) (Xe i x y hx hy) d
    refine⟨g1,fun c=>?_⟩
    obtain⟨l1,m1⟩:=g2 c
    refine⟨l1,fun D hD kK=>?_⟩
    obtain⟨r1,e1⟩:=m1 D hD kK
    exact⟨.eE _ ar (by simpa using r1.len) (fun i x y hx hy=>r1.rel i x y hx (by simpa using hy)),e1⟩
 case agg cs =>
  have g:=aEI S hH hu h d
  cases y<;>first|exact g|(simp only[By,rD,Option.map_eq_some_iff] at h;obtain⟨_,_,h⟩:=h;cases h)
 all_goals
  have g:=U0 S hH hu h d
  cases y<;>first|exact g|skip
  all_goals
   exfalso
   simp only[By,rD] at h;unfold kA at h;split at h
   ·simp at h
   ·simp at h
    try (split at h<;>(try split at h)<;>simp at h)
theorem Te (S:kE F h0 w0 nt ρ st a w) {x r:AV} {u:Value} (hu:cM (ctx h0 w0 ρ st w) x u) (hn:(lF x).Nodup) (h:By st x=some r):ND h0 w0 w r u:=by
 have hH:∀b o,(ctx h0 w0 ρ st w).h b o→newHs h0 w0 w ((lF x).map fun k=>ρ k.1 k.2) b o:=fun b o hb=>by
  have g:=(aEJ (H:=(ctx h0 w0 ρ st w).h) S (fun _ _ h=>h) hu h 0).1
  refine⟨hb.1,hb.2.1,fun y hy=>?_⟩
  obtain⟨k,hk,rfl⟩:=List.mem_map.1 hy
  obtain⟨e,he⟩:=g k hk
  exact hb.2.2 _ _ e he
 have g:=fun d=>aEJ S hH hu h d
 have key:∀y∈(lF x).map (fun k=>ρ k.1 k.2),∃k e,k∈lF x∧y=ρ k.1 k.2∧st.heap k.1 k.2=some e:=fun y hy=>by
  obtain⟨k,hk,rfl⟩:=List.mem_map.1 hy
  obtain⟨e,he⟩:=(g 0).1 k hk
  exact⟨k,e,hk,rfl,he⟩
 refine⟨(lF x).map fun k=>ρ k.1 k.2,fun y hy=>?_,fun i j y z b hy hz hb nA=>?_,fun y hy b hb=>?_,fun d c=>by rw[((g d).2 c).1];simp,fun D d c hD kK=>?_⟩
 ·obtain⟨k,e,_,rfl,he⟩:=key y hy
  exact (S.rT _ _ e he).2.1
 ·rw[List.getElem?_map] at hy hz;cases hi:(lF x)[i]? with
  | none=>simp[hi] at hy
  | some k=>cases hj:(lF x)[j]? with
    | none=>simp[hj] at hz
    | some k' =>
      simp only[hi,hj,Option.map_some,Option.some.injEq] at hy hz;subst hy;subst hz;obtain⟨e,he⟩:=(g 0).1 k (List.mem_of_getElem? hi)
      obtain⟨e',zM⟩:=(g 0).1 k' (List.mem_of_getElem? hj)
      obtain⟨q1,q2⟩:=S.inj _ _ _ _ e e' b he zM hb nA
      have JX:k=k':=Prod.ext q1 q2
      subst JX;obtain⟨hil,Be⟩:=List.getElem?_eq_some_iff.1 hi
      obtain⟨hjl,hje⟩:=List.getElem?_eq_some_iff.1 hj
      have hp:=List.pairwise_iff_getElem.1 hn
      rcases Nat.lt_trichotomy i j with aZ|heq|aZ
      ·exact absurd (Be.trans hje.symm) (hp i j hil hjl aZ)
      ·exact heq
      ·exact absurd (hje.trans Be.symm) (hp j i hjl hil aZ)
 ·obtain⟨k,e,_,rfl,he⟩:=key y hy
  exact ((S.rT _ _ e he).2.2.FC b hb).1
 ·obtain⟨r1,e1⟩:=((g d).2 c).2 D hD fun i k hk=>kK i _ (by rw[List.getElem?_map,hk];rfl)
  refine⟨r1,fun i e y hi hy=>?_⟩
  rw[List.getElem?_map] at hy;cases hk:(lF x)[i]? with
  | none=>simp[hk] at hy
  | some k =>
    simp only[hk,Option.map_some,Option.some.injEq] at hy;subst hy;exact e1 i e k hi hk
end pW
theorem BH {h0:Nat→Obj→Prop} {w0:World} {F:Gj} {nt:Nat} {ρ:Nat→Nat→Value} {st:St} {a:Act} {w:World} (S:kE F h0 w0 nt ρ st a w) {fn:Func} {r:AV} (h:Mi P fn st=some r) :
 ∃v,(results fn a.tmps).run P w=.ok v w∧ND h0 w0 w r v:=by
 have NX:∀(ys:List Value),(fn.results.toList.mapM (zB a.tmps)).run P w=.ok ys w →
  (results fn a.tmps).run P w=.ok (if h:ys.toArray.size=1 then ys.toArray[0] else .tuple ys.toArray) w:=by
  intro ys Ts;have e:results fn a.tmps=(do let vs ← fn.results.mapM (zB a.tmps);pure (if h:vs.size=1 then vs[0] else .tuple vs)):=by
   unfold results;congr 1
  rw[e,Array.mapM_eq_mapM_toList];simp only[Sem.run_bind,Sem.run_map,Ts,Result.andThen_ok,Sem.run_pure]
 unfold Mi at h;split at h
 ·rename_i r1 G8;cases h1:lB P st r1 with
  | none=>simp[h1,cH] at h
  | some x =>
    simp only[h1,cH] at h;split at h
    ·rename_i hn;obtain⟨ys,Ts,fU⟩:=lL (P:=P) S [r1] [x] (by simp[h1])
     have hlen:=fU.len
     obtain⟨y,rfl⟩:∃y,ys=[y]:=by
      cases ys with
      | nil=>simp at hlen
      | cons y ys=>cases ys with
        | nil=>exact⟨y,rfl⟩
        | cons z zs=>simp at hlen
     have pN:=NX [y] (by rw[G8];exact Ts)
     simp at pN
     exact⟨y,pN,Te S fU.head hn h⟩
    ·cases h
 ·rename_i rs gR;cases GV:bY (fn.results.toList.map fun r=>lB P st r) with
  | none=>simp[GV,cH] at h
  | some xs =>
    simp only[GV,cH] at h;split at h
    ·rename_i hn;have e1:=jD _ _ GV
     obtain⟨ys,Ts,fU⟩:=lL S _ xs e1
     have Py:xs.length=fn.results.toList.length:=by have:=congrArg List.length e1;simpa using this.symm
     have T9:ys.toArray.size≠1:=by
      intro h1;have hlen:=fU.len
      simp only[List.size_toArray] at h1;have:fn.results.toList.length=1:=by omega
      obtain⟨z,hz⟩:=List.length_eq_one_iff.1 this
      exact gR z hz
     have pN:=NX ys Ts
     rw[dif_neg T9] at pN;exact⟨_,pN,Te S (.eE xs ys.toArray (by simpa using fU.len) fun i x y hx hy=>fU.rel i x y hx (by simpa using hy)) hn h⟩
    ·cases h
theorem BI {h0:Nat→Obj→Prop} {w0:World} {F:Gj} {nt:Nat} {ρ:Nat→Nat→Value} {st:St} {a:Act} {w:World} (S:kE F h0 w0 nt ρ st a w) {f:Nat} {fn:Func} {r:AV} (h:jN P f fn st=some r) :
 ∃v,(results fn a.tmps).run P w=.ok v w∧ND h0 w0 w r v:=by
 unfold jN at h;split at h
 ·exact BH S h
 ·exact HL S h
theorem U2 {h0:Nat→Obj→Prop} {w:World} {xs:List AV} {vs:Array Value} {nt:Nat} (hh:∀b o,h0 b o→w.heap[b]? = some o) (fU:lC (bare h0) xs vs.toList) :
 kE Gj.none h0 w nt (fun _ _=>undef) (St.init xs) { tmps:=vs++Array.replicate (nt-vs.size) undef,defers:=[]} w:=by
 have k:(bare h0).Le (ctx h0 w (fun _ _=>undef) (St.init xs) w):=⟨fun b o h=>⟨hh b o h,fun _=>h,fun s g e he=>by simp[St.init] at he⟩,fun _=>Nat.le_refl _,fun _ _ h=>absurd h (by simp[bare])⟩
 refine⟨fun t=>?_,fun s g e he=>by simp[St.init] at he,fun s g s' g' e e' b he=>by simp[St.init] at he,⟨rfl,rfl,rfl,Nat.le_refl _,fun _ _ _=>rfl⟩,by simp;omega,rfl,⟨fun x v h=>h.elim,fun b o h=>h.elim,Nat.zero_le _⟩⟩
 have hlen:=fU.len
 simp only[Array.length_toList] at hlen;show cM _ ((xs[t]?).getD (.v undef)) _
 by_cases ht:t<vs.size
 ·have hx:xs[t]? = some (xs[t]'(by omega)):=by simp[show t<xs.length by omega]
  have hy:vs.toList[t]? = some vs[t]:=by simp[ht]
  have:=(fU.rel t _ _ hx hy).le k
  rw[hx];simp only[Option.getD_some];have e:(vs++Array.replicate (nt-vs.size) undef).getD t undef=vs[t]:=by
   simp[Array.getElem?_append_left ht,ht]
  rw[e];exact this
 ·have hx:xs[t]? = none:=List.getElem?_eq_none (by omega)
  rw[hx];have e:(vs++Array.replicate (nt-vs.size) undef).getD t undef=undef:=by
   rw[Array.getD_eq_getD_getElem?,Array.getElem?_append_right (by omega),Array.getElem?_replicate]
   split<;>rfl
  rw[e];exact .v _
def Ss (P:Program):Prop:=qK P Ext.ext
theorem aCc {h0:Nat→Obj→Prop} {w0:World} {F:Gj} {nt:Nat} {ρ:Nat→Nat→Value} {st:St} {a:Act} {w:World} (S:kE F h0 w0 nt ρ st a w) {xs:List AV} {vs:Array Value} {n:Nat} (fU:lC (ctx h0 w0 ρ st w) xs vs.toList) :
 kE ⟨fun x v=>F.fr x v∨∃t,x=st.env t∧v=a.tmps.getD t undef,F.hb,F.sz⟩ h0 w0 n ρ ((St.init xs).back st) { tmps:=vs++Array.replicate (n-vs.size) undef,defers:=[]} w:=by
 have hc:ctx h0 w0 ρ ((St.init xs).back st) w=ctx h0 w0 ρ st w:=rfl
 refine⟨fun t=>?_,fun s g e he=>?_,fun s g s' g' e e' b he zM=>S.inj s g s' g' e e' b he zM,S.ext,by simp;omega,rfl,⟨fun x v h=>?_,S.Me.2.1,S.Me.2.2⟩⟩
 ·have hlen:=fU.len
  simp only[Array.length_toList] at hlen;show cM _ ((xs[t]?).getD (.v undef)) _
  by_cases ht:t<vs.size
  ·have hx:xs[t]? = some (xs[t]'(by omega)):=by simp[show t<xs.length by omega]
   have hy:vs.toList[t]? = some vs[t]:=by simp[ht]
   have:=fU.rel t _ _ hx hy
   rw[hx];simp only[Option.getD_some];have e:(vs++Array.replicate (n-vs.size) undef).getD t undef=vs[t]:=by
    simp[Array.getElem?_append_left ht,ht]
   rw[e];exact this
  ·have hx:xs[t]? = none:=List.getElem?_eq_none (by omega)
   rw[hx];have e:(vs++Array.replicate (n-vs.size) undef).getD t undef=undef:=by
    rw[Array.getD_eq_getD_getElem?,Array.getElem?_append_right (by omega),Array.getElem?_replicate]
    split<;>rfl
   rw[e];exact .v _
 ·exact S.rT s g e he
 ·rcases h with h|⟨t,rfl,rfl⟩
  ·exact S.Me.1 x v h
  ·exact S.env t
theorem BJ {h0:Nat→Obj→Prop} {w0:World} {F:Gj} {nt:Nat} {ρ:Nat→Nat→Value} {st:St} {a:Act} {w:World} (S:kE F h0 w0 nt ρ st a w) {fn:Func} {r:AV} (h:zX P fn st=some r) :
 ∃v,(results fn a.tmps).run P w=.ok v w∧cM (ctx h0 w0 ρ st w) r v:=by
 have NX:∀(ys:List Value),(fn.results.toList.mapM (zB a.tmps)).run P w=.ok ys w →
  (results fn a.tmps).run P w=.ok (if h:ys.toArray.size=1 then ys.toArray[0] else .tuple ys.toArray) w:=by
  intro ys Ts;have e:results fn a.tmps=(do let vs ← fn.results.mapM (zB a.tmps);pure (if h:vs.size=1 then vs[0] else .tuple vs)):=by
   unfold results;congr 1
  rw[e,Array.mapM_eq_mapM_toList];simp only[Sem.run_bind,Sem.run_map,Ts,Result.andThen_ok,Sem.run_pure]
 unfold zX at h;split at h
 ·rename_i r1 G8;obtain⟨ys,Ts,fU⟩:=lL (P:=P) S [r1] [r] (by simp[h])
  have hlen:=fU.len
  obtain⟨y,rfl⟩:∃y,ys=[y]:=by
   cases ys with
   | nil=>simp at hlen
   | cons y ys=>cases ys with
     | nil=>exact⟨y,rfl⟩
     | cons z zs=>simp at hlen
  have pN:=NX [y] (by rw[G8];exact Ts)
  simp at pN
  exact⟨y,pN,fU.head⟩
 ·rename_i rs gR;cases GV:bY (fn.results.toList.map fun r=>lB P st r) with
  | none=>simp[GV] at h
  | some xs =>
    simp only[GV,Option.map_some,Option.some.injEq] at h;subst h;have e1:=jD _ _ GV
    obtain⟨ys,Ts,fU⟩:=lL S _ xs e1
    have Py:xs.length=fn.results.toList.length:=by have:=congrArg List.length e1;simpa using this.symm
    have T9:ys.toArray.size≠1:=by
     intro h1;have hlen:=fU.len
     simp only[List.size_toArray] at h1;have:fn.results.toList.length=1:=by omega
     obtain⟨z,hz⟩:=List.length_eq_one_iff.1 this
     exact gR z hz
    have pN:=NX ys Ts
    rw[dif_neg T9] at pN;exact⟨_,pN,.eE xs ys.toArray (by simpa using fU.len) fun i x y hx hy=>fU.rel i x y hx (by simpa using hy)⟩
theorem BK {xs:List AV} {u:Nat × Nat × Nat × List AV × List AV} (h:tA xs=some u):xs=.uniq u.1 u.2.1 u.2.2.1 u.2.2.2.1 :: u.2.2.2.2:=by
 unfold tA at h;split at h
 ·simp only[Option.some.injEq] at h;subst h;rfl
 ·cases h
theorem A3 {h0:Nat→Obj→Prop} {w:World} {v0:Value} {e sz m:Nat} {cs xs:List AV} {ys:List Value} {vs:Array Value} {nt:Nat} (hh:∀b o,h0 b o→w.heap[b]? = some o) (gR:∀b o,h0 b o→dF v0≠some b) (ho:nF w 0 e sz v0 m ys) (hc:fG (bare h0) cs ys) (fU:lC (bare h0) xs vs.toList) :
 kE ⟨fun _ _=>False,fun b o=>w.heap[b]? = some o∧dF v0≠some b,w.heap.size⟩ h0 { w with heap:=#[]} nt (fun s g=>if s=0∧g=0 then v0 else undef) (St.sJ e sz m cs xs) { tmps:=(#[v0]++vs)++Array.replicate (nt-(#[v0]++vs).size) undef,defers:=[]} w:=by
 have zA:∀s g e',(St.sJ e sz m cs xs).heap s g=some e'→s=0∧g=0∧e'=.row e sz m cs:=fun s g e' h=>by
  simp only[St.sJ] at h;split at h
  ·rename_i h1;cases h;exact⟨h1.1,h1.2,rfl⟩
  ·cases h
 have k:(bare h0).Le (ctx h0 { w with heap:=#[]} (fun s g=>if s=0∧g=0 then v0 else undef) (St.sJ e sz m cs xs) w) :=
  ⟨fun b o h=>⟨hh b o h,fun aZ=>by simp at aZ,fun s g e' he=>by
   obtain⟨rfl,rfl,_⟩:=zA _ _ _ he
   exact gR b o h⟩,fun _=>Nat.zero_le _,fun _ _ h=>absurd h (by simp[bare])⟩
 refine⟨fun t=>?_,fun s g e' he=>?_,fun s g s' g' e1 e2 b he zM _ _=>?_,⟨rfl,rfl,rfl,Nat.zero_le _,fun b hb _=>by simp at hb⟩,by simp;omega,rfl,⟨fun x v h=>h.elim,fun b o h=>⟨h.1,fun aZ=>by simp at aZ,fun s g e' he=>?_⟩,Nat.le_refl _⟩⟩
 ·have hlen:=fU.len
  simp only[Array.length_toList] at hlen;cases t with
  | zero =>
    have e0:((#[v0]++vs)++Array.replicate (nt-(#[v0]++vs).size) undef).getD 0 undef=v0:=by
     simp[Array.getElem?_append]
    rw[e0];have:=cM.own (C:=ctx h0 { w with heap:=#[]} (fun s g=>if s=0∧g=0 then v0 else undef) (St.sJ e sz m cs xs) w) 0 0 (by show 0<(St.sJ e sz m cs xs).aQ 0;simp[St.sJ]) (by show (if (0:Nat)=0∧(0:Nat)=0 then v0 else undef).oneCell'=true;simp;exact sK ho)
    have e1:(ctx h0 { w with heap:=#[]} (fun s g=>if s=0∧g=0 then v0 else undef) (St.sJ e sz m cs xs) w).ρ 0 0=v0:=by show (if (0:Nat)=0∧(0:Nat)=0 then v0 else undef)=v0;simp
    rw[e1] at this;exact this
  | succ t =>
    show cM _ ((xs[t]?).getD (.v undef)) _
    by_cases ht:t<vs.size
    ·have hx:xs[t]? = some (xs[t]'(by omega)):=by simp[show t<xs.length by omega]
     have hy:vs.toList[t]? = some vs[t]:=by simp[ht]
     have:=(fU.rel t _ _ hx hy).le k
     rw[hx];simp only[Option.getD_some];have e2:((#[v0]++vs)++Array.replicate (nt-(#[v0]++vs).size) undef).getD (t+1) undef=vs[t]:=by
      rw[Array.getD_eq_getD_getElem?,Array.getElem?_append_left (by simp;omega),Array.getElem?_append_right (by simp)]
      simp[ht]
     rw[e2];exact this
    ·have hx:xs[t]? = none:=List.getElem?_eq_none (by omega)
     rw[hx];have e2:((#[v0]++vs)++Array.replicate (nt-(#[v0]++vs).size) undef).getD (t+1) undef=undef:=by
      rw[Array.getD_eq_getD_getElem?,Array.getElem?_append_right (by simp;omega),Array.getElem?_replicate]
      split<;>rfl
     rw[e2];exact .v _
 ·obtain⟨rfl,rfl,rfl⟩:=zA _ _ _ he
  refine⟨by simp[St.sJ],by simp;exact sK ho, ?_⟩
  simp only[and_self,if_true];exact⟨ys,ho,hc.le k⟩
 ·obtain⟨rfl,rfl,_⟩:=zA _ _ _ he
  obtain⟨rfl,rfl,_⟩:=zA _ _ _ zM
  exact⟨rfl,rfl⟩
 ·obtain⟨rfl,rfl,_⟩:=zA _ _ _ he
  exact h.2
theorem aCd (hm:P.follows .mixedOrders=true) {call:Nat→List AV→Option AV} {inl:Nat→List AV→St→Option (AV × St)} (jY:qK P call) (Ol:Xt P inl) {n g:Nat} {xs:List AV} {u:Nat × Nat × Nat × List AV × List AV} (hq:tA xs=some u) {r:AV}
 (h:runM P call inl n g u.1 u.2.1 u.2.2.1 u.2.2.2.1 u.2.2.2.2=some r):Hh P g∧Hf P g xs r:=by
 have GV:=BK hq
 subst GV;obtain⟨e,sz,m,cs,rest⟩:=u
 simp only at h ⊢
 unfold runM at h;cases hf:P.funcs[g]? with
 | none=>simp[hf] at h
 | some fn =>
   simp only[hf] at h;split at h
   ·rename_i rE;cases hb:fn.body with
    | none=>simp[hb] at h
    | some c =>
      simp only[hb] at h;simp only[sY,CR,hb,Bool.and_eq_true,bne_iff_ne,ne_eq] at rE;refine⟨⟨fn,hf,by simpa using rE.1,by simp[hb]⟩, ?_⟩
      show UB P g e sz m cs rest r
      intro w h0 v0 ys vs hh gR ho Bf fU;cases h1:tT P (mZ c) call inl n c (St.sJ e sz m cs rest) with
      | none=>simp[h1,cH] at h
      | some es =>
        obtain⟨ex,sf⟩:=es
        simp only[h1,cH] at h;refine calls_of_wp hf hb ?_
        refine pI hm jY Ol n c (St.sJ e sz m cs rest) sf ex _ _ w _ rE.2 (A3 hh gR ho Bf fU) h1 fun nD a' w' S'=>?_
        have fin:Im P fn sf=some r→∃e' sT n' Dg,r=.uniq e' sT n' Dg∧a'.defers=[]∧∃v',(results fn a'.tmps).run P w'=.ok v' w'∧w.grownBy w' (dF v0) ∧
         ∃zs,nF w' 0 e' sT v' n' zs∧fG (bare h0) Dg zs∧∀b,dF v'=some b→dF v0=some b∨w.heap.size≤b:=fun h=>by
         unfold Im at h;split at h
         ·rename_i r1 G8;split at h
          ·rename_i s k hrv;split at h
           ·rename_i e' sT n' Dg hhp
            split at h
            ·rename_i hmf;simp only[Option.some.injEq] at h;subst h;obtain⟨y,hy,Oe⟩:=lL (P:=P) S' [r1] [.own s k] (by simp[hrv])
             have hlen:=Oe.len
             obtain⟨z,rfl⟩:∃z,y=[z]:=by
              cases y with
              | nil=>simp at hlen
              | cons y ys=>cases ys with
                | nil=>exact⟨y,rfl⟩
                | cons z zs=>simp at hlen
             have hz:z=nD s k:=by
              have:=Oe.head
              cases this
              rfl
             subst hz;have pN:(results fn a'.tmps).run P w'=.ok (nD s k) w':=by
              have e1:results fn a'.tmps=(do let vs ← fn.results.mapM (zB a'.tmps);pure (if h:vs.size=1 then vs[0] else .tuple vs)):=by
               unfold results;congr 1
              rw[e1,Array.mapM_eq_mapM_toList,G8];simp only[Sem.run_bind,Sem.run_map,hy,Result.andThen_ok,Sem.run_pure];simp
             obtain⟨_,_,zs,hzo,R6⟩:=S'.rT s k _ hhp
             obtain⟨_,hkb,YG⟩:=S'.Me
             refine⟨e',sT,n',Dg,rfl,S'.defers,_,pN,⟨S'.ext.os,S'.ext.tape,S'.ext.output,YG,fun b hb hnb=>?_⟩,zs, ?_, ?_,fun b hb=>?_⟩
             ·have NG:w.heap[b]? = some w.heap[b]:=Array.getElem?_eq_getElem hb
              rw[NG];exact (hkb b _ ⟨NG,fun h=>hnb h.symm⟩).1
             ·exact yB hzo (Nat.zero_le _)
             ·exact⟨R6.len,fun i x y hx hy=>(R6.rel i x y hx hy).Oc (hmf x (List.mem_of_getElem? hx)),R6.one⟩
             ·by_cases h1:dF v0=some b
              ·exact .inl h1
              ·right
               rcases Nat.lt_or_ge b w.heap.size with aZ|hge
               ·exfalso
                have NG:w.heap[b]? = some w.heap[b]:=Array.getElem?_eq_getElem aZ
                exact (hkb b _ ⟨NG,h1⟩).2.2 s k _ hhp hb
               ·exact hge
            ·cases h
           ·cases h
          ·rename_i s k n0 hrv;split at h
           ·rename_i e' sT n' Dg hhp
            split at h
            ·rename_i hmf;obtain⟨Ez,hcl',hmf⟩:=hmf
             simp only[Option.some.injEq] at h;subst h;obtain⟨y,hy,Oe⟩:=lL (P:=P) S' [r1] [.vw s k 0 n0] (by simp[hrv])
             have hlen:=Oe.len
             obtain⟨z,rfl⟩:∃z,y=[z]:=by
              cases y with
              | nil=>simp at hlen
              | cons y ys=>cases ys with
                | nil=>exact⟨y,rfl⟩
                | cons z zs=>simp at hlen
             obtain⟨_,_,zs,hzo,R6⟩:=S'.rT s k _ hhp
             obtain⟨_,hkb,YG⟩:=S'.Me
             have hz:∃b cap cur,z=.slice (some ⟨b,0,none⟩) n0 cap∧dF (nD s k)=some b∧w'.heap[b]? = some (.cells cur e' (0,0))∧n0≤cap∧cap≤maxLen∧cur.size=cap * sT∧cur.toList.take (n' * sT)=zs∧0<cap:=by
              have hv:=Oe.head
              cases hv with
              | vw _ _ _ _ b cap hg hb mG yA =>
                have nA:dF (nD s k)=some b:=hb
                rcases hzo.2 with ⟨q,kK,hn⟩|⟨b',AE,cur,kK,vZ,hh,z6,y8,AS,ht,oM⟩
                ·rw[kK,pH] at nA;cases nA
                ·have wG:b'=b:=by rw[kK,jW oM] at nA;simpa using nA
                 subst wG;have hcc:cap=AE:=yA rfl _ _ _ kK
                 subst hcc;exact⟨b',cap,cur,rfl,nA,hh,mG,y8,AS,ht,oM⟩
             obtain⟨b,cap,cur,rfl,hbk,hhb,mG,y8,AS,ht,oM⟩:=hz
             have pN:(results fn a'.tmps).run P w'=.ok (.slice (some ⟨b,0,none⟩) n0 cap) w':=by
              have e1:results fn a'.tmps=(do let vs ← fn.results.mapM (zB a'.tmps);pure (if h:vs.size=1 then vs[0] else .tuple vs)):=by
               unfold results;congr 1
              rw[e1,Array.mapM_eq_mapM_toList,G8];simp only[Sem.run_bind,Sem.run_map,hy,Result.andThen_ok,Sem.run_pure];simp
             have hks:n0 * sT≤n' * sT:=Nat.mul_le_mul_right _ Ez
             refine⟨e',sT,n0,_,rfl,S'.defers,_,pN,⟨S'.ext.os,S'.ext.tape,S'.ext.output,YG,fun b hb hnb=>?_⟩,zs.take (n0 * sT), ?_, ?_,fun b1 RM=>?_⟩
             ·have NG:w.heap[b]? = some w.heap[b]:=Array.getElem?_eq_getElem hb
              rw[NG];exact (hkb b _ ⟨NG,fun h=>hnb h.symm⟩).1
             ·refine⟨by rw[List.length_take,hzo.1];omega,.inr ⟨b,cap,cur,rfl,Nat.zero_le _,hhb,mG,y8,AS, ?_,oM⟩⟩
              rw[← ht,List.take_take,Nat.min_eq_left hks]
             ·have hz2:fG (bare h0) Dg zs:=⟨R6.len,fun i x y hx hy=>(R6.rel i x y hx hy).Oc (hmf x (List.mem_of_getElem? hx)),R6.one⟩
              exact hz2.take _
             ·rw[jW oM] at RM;simp only[Option.some.injEq] at RM;subst RM;by_cases h1:dF v0=some b
              ·exact .inl h1
              ·right
               rcases Nat.lt_or_ge b w.heap.size with aZ|hge
               ·exfalso
                have NG:w.heap[b]? = some w.heap[b]:=Array.getElem?_eq_getElem aZ
                exact (hkb b _ ⟨NG,h1⟩).2.2 s k _ hhp hbk
               ·exact hge
            ·cases h
           ·cases h
          ·cases h
         ·cases h
        cases ex with
        | normal=>obtain⟨e',sT,n',Dg,rfl,h1,v',h2,h3,h4⟩:=fin h;exact⟨h1,v',h2,v',rfl,h3,h4⟩
        | ret=>obtain⟨e',sT,n',Dg,rfl,h1,v',h2,h3,h4⟩:=fin h;exact⟨h1,v',h2,v',rfl,h3,h4⟩
        | exit id=>cases h
   ·cases h
theorem YM (hm:P.follows .mixedOrders=true) (hx:Ss P):∀n,qK P (Md P n)∧Xt P (Vf P n)
 | 0=>⟨fun g xs r h=>hx g xs r h,fun g xs st r s' h=>by cases h⟩
 | n+1=>by
   obtain⟨ihc,ihi⟩:=YM hm hx n
   refine⟨fun g xs r h=>?_,fun g xs st r s' h=>?_⟩
   ·rw[xZ] at h;split at h
    ·rename_i r' he
     simp only[Option.some.injEq] at h;subst h;exact hx g xs _ he
    ·cases hq:tA xs with
     | some u =>
       simp only[hq] at h;exact aCd hm ihc ihi hq h
     | none =>
     simp only[hq] at h;split at h
     ·cases h
     rename_i hnu;unfold ZE at h;cases hf:P.funcs[g]? with
     | none=>simp[hf] at h
     | some fn =>
       simp only[hf] at h;split at h
       ·rename_i rE;cases hb:fn.body with
        | none=>simp[hb] at h
        | some c =>
          simp only[hb] at h;simp only[sY,CR,hb,Bool.and_eq_true,bne_iff_ne,ne_eq] at rE;have hX:GQ P g xs r→Hf P g xs r:=fun h=>by
           unfold Hf;split
           ·simp[sZ] at hnu
           ·exact h
          refine⟨⟨fn,hf,by simpa using rE.1,by simp[hb]⟩,hX fun w h0 vs hh fU=>?_⟩
          cases h1:tT P (mZ c) (Md P n) (Vf P n) n c (St.init xs) with
          | none=>simp[h1,cH] at h
          | some es =>
            obtain⟨ex,sf⟩:=es
            simp only[h1,cH] at h;refine calls_of_wp hf hb ?_
            refine pI hm ihc ihi n c (St.init xs) sf ex _ _ w _ rE.2 (U2 hh fU) h1 fun nD a' w' S'=>?_
            have fin:jN P g fn sf=some r→a'.defers=[]∧∃v,(results fn a'.tmps).run P w'=.ok v w'∧∃v',Ending.returned v=.returned v'∧ND h0 w w' r v'∧w.grownBy w' none:=fun h=>by
             obtain⟨v,hv,hr⟩:=BI S' h
             exact⟨S'.defers,v,hv,v,rfl,hr,S'.ext⟩
            cases ex with
            | normal=>exact fin h
            | ret=>exact fin h
            | exit id=>cases h
       ·cases h
   ·rw[Mk] at h;unfold ZF at h;cases hf:P.funcs[g]? with
    | none=>simp[hf] at h
    | some fn =>
      simp only[hf] at h;split at h
      ·rename_i rE;cases hb:fn.body with
       | none=>simp[hb] at h
       | some c =>
         simp only[hb] at h;simp only[CR,hb,Bool.and_eq_true,bne_iff_ne,ne_eq] at rE;refine⟨⟨fn,hf,by simpa using rE.1,by simp[hb]⟩,fun F h0 w0 nt ρ a w vs K S fU hK=>?_⟩
         cases h1:tT P true (Md P n) (Vf P n) n c ((St.init xs).back st) with
         | none=>simp[h1,cH] at h
         | some es =>
           obtain⟨ex,sf⟩:=es
           simp only[h1,cH] at h;refine calls_of_wp hf hb ?_
           refine pI (F:=⟨fun x v=>F.fr x v∨∃t,x=st.env t∧v=a.tmps.getD t undef,F.hb,F.sz⟩) hm ihc ihi n c ((St.init xs).back st) sf ex _ _ w _ rE.2 (aCc S fU) h1 fun nD a' w' S'=>?_
           have fin:((zX P fn sf).map fun x=>(x,sf))=some (r,s')→a'.defers=[]∧∃v,(results fn a'.tmps).run P w'=.ok v w'∧∃v',Ending.returned v=.returned v'∧K v' w':=fun h=>by
            cases hfi:zX P fn sf with
            | none=>simp[hfi] at h
            | some x =>
              simp only[hfi,Option.map_some,Option.some.injEq,Prod.mk.injEq] at h;obtain⟨rfl,rfl⟩:=h
              obtain⟨v,hv,hr⟩:=BJ S' hfi
              refine⟨S'.defers,v,hv,v,rfl,hK nD w' v ?_ hr⟩
              exact⟨fun t=>S'.Me.1 _ _ (.inr ⟨t,rfl,rfl⟩),fun s g e he=>S'.rT s g e he,fun s g s2 g' e e' b he zM=>S'.inj s g s2 g' e e' b he zM,S'.ext,S.size,S.defers,⟨fun x v h=>S'.Me.1 x v (.inl h),S'.Me.2.1,S'.Me.2.2⟩⟩
           cases ex with
           | normal=>exact fin h
           | ret=>exact fin h
           | exit id=>cases h
      ·cases h
theorem aF5 (hm:P.follows .mixedOrders=true) (hx:Ss P) (n:Nat):qK P (Md P n):=(YM hm hx n).1
end
end Go.Ab
end
section
namespace Go.Ab
open Classical
variable [Ext]
noncomputable def lS {α:Type} (g:Nat→Option α):Option α:=if h:∃n r,g n=some r then some (Classical.choose (Classical.choose_spec h)) else none
theorem Uz {α:Type} {g:Nat→Option α} (hm:∀n r,g n=some r→g (n+1)=some r) {n m:Nat} (h:n≤m) {r:α} (hr:g n=some r):g m=some r:=by
 induction m with
 | zero=>have:n=0:=by omega
         subst this;exact hr
 | succ m ih =>
   rcases Nat.lt_or_ge m n with h'|h'
   ·have:n=m+1:=by omega
    subst this;exact hr
   ·exact hm m r (ih h')
theorem HM {α:Type} {g:Nat→Option α} (hm:∀n r,g n=some r→g (n+1)=some r) (r:α):lS g=some r↔∃n,g n=some r:=by
 unfold lS;constructor
 ·intro h;split at h
  ·rename_i hh;simp only[Option.some.injEq] at h;exact⟨Classical.choose hh,by rw[← h];exact Classical.choose_spec (Classical.choose_spec hh)⟩
  ·cases h
 ·rintro⟨n,hn⟩
  have hh:∃n r,g n=some r:=⟨n,r,hn⟩
  rw[dif_pos hh];have h2:=Classical.choose_spec (Classical.choose_spec hh)
  congr 1
  rcases Nat.le_total n (Classical.choose hh) with hle|hle
  ·have:=Uz hm hle hn
   rw[h2] at this;exact Option.some.inj this
  ·have:=Uz hm hle h2
   rw[hn] at this;exact (Option.some.inj this).symm
theorem fN {α β:Type} {x:Option α} {f:α→Option β} {r:β}:cH x f=some r↔∃a,x=some a∧f a=some r:=by
 cases x<;>simp[cH]
def Ya (i i':Nat→List AV→St→Option (AV × St)):Prop:=∀g xs st r,i g xs st=some r→i' g xs st=some r
def uY (c c':Nat→List AV→Option AV):Prop:=∀g xs r,c g xs=some r→c' g xs=some r
section
variable (P:Program) {c c':Nat→List AV→Option AV} {i i':Nat→List AV→St→Option (AV × St)} {bi:Bool}
theorem Yb {α β:Type} {x y:Option α} {f:α→Option β} {r:β} (h:∀a,x=some a→y=some a) (hx:cH x f=some r):cH y f=some r:=by
 cases Iv:x with
 | none=>simp[Iv,cH] at hx
 | some a=>rw[h a Iv];rw[Iv] at hx;exact hx
theorem Au (h:uY c c') {g:Nat} {args:List AV} {st:St} {dst:Option Nat} {e:qW} (he:aN c g args st dst=some e):aN c' g args st dst=some e:=by
 unfold aN at *
 split at he
 ·rename_i hf;rw[if_pos hf];exact Yb (h g args) he
 ·rename_i hf;rw[if_neg hf];split at he
  ·rename_i xs GV;exact Yb (h g xs) he
  ·cases he
theorem NY (h:uY c c') {g:Nat} {args:List AV} {st:St} {dst:Option Nat} {e:qW} (he:lA c g args st dst=some e):lA c' g args st dst=some e:=by
 unfold lA at *
 split at he
 ·split at he
  ·rename_i e0 sz n cs hh;split at he
   ·rename_i hc;rename_i rest _;simp only[hh,if_pos hc];cases hr:c g (.uniq e0 sz n cs :: rest) with
    | none=>simp[hr] at he
    | some r=>rw[h _ _ _ hr];rw[hr] at he;exact he
   ·cases he
  ·cases he
 ·split at he
  ·rename_i hc;rw[if_pos hc];exact Au h he
  ·cases he
theorem HN (h:uY c c') {g:Nat} {args:List AV} {st:St} {dst:Option Nat} {e:qW} (he:eQ c g args st dst=some e):eQ c' g args st dst=some e:=by
 unfold eQ at *
 split at he
 ·rename_i s k hk;split at he
  ·rename_i rE;rw[if_pos rE];split at he
   ·rename_i xs GV;exact Yb (h g xs) he
   ·cases he
  ·cases he
 ·rename_i hk;exact Au h he
theorem HO (h:uY c c') {f:Operand} {args:List AV} {st:St} {dst:Option Nat} {e:qW} (he:mY c f args st dst=some e):mY c' f args st dst=some e:=by
 cases f
 case func g =>
  simp only[mY] at *
  by_cases hm:Ext.mv g=true
  ·rw[if_pos hm] at *
   exact NY h he
  ·rw[if_neg hm] at *
   by_cases hm2:Ext.eat g dst=true
   ·rw[if_pos hm2] at *
    exact HN h he
   ·rw[if_neg hm2] at *
    exact Au h he
 all_goals
  simp only[mY] at *
  split at he
  ·exact Au h he
  ·cases he
theorem US (h:uY c c') {o:Oper} {st:St} {e:qW} (he:dN P c o st=some e):dN P c' o st=some e:=by
 obtain⟨dst,op,type,pos,after,guard⟩:=o
 cases op
 case call cl =>
  simp only[dN] at *
  unfold iU at *
  split at he
  ·exact HO h he
  all_goals exact he
 case makeMap T r=>cases r<;>exact he
 all_goals exact he
theorem A4 (h:uY c c') {ops:Array Oper} {o:Oper} {st s:St} (he:cC P c ops o st=some s):cC P c' ops o st=some s:=by
 unfold cC at *
 split at he
 ·split at he
  ·rename_i b hg hb;rw[if_pos hb];cases h1:dN P c o st with
   | none=>simp[h1] at he
   | some e=>rw[US P h h1];rw[h1] at he;exact he
  ·rename_i b hg hb;rw[if_neg hb];exact he
 ·cases he
theorem Yc (h:uY c c') (hi:Ya i i') {ops:Array Oper} {o:Oper} {st s:St} (he:gL P bi c i ops o st=some s):gL P bi c' i' ops o st=some s:=by
 unfold gL at he ⊢
 cases hg:(if bi=true then Ew o else none) with
 | none =>
   simp only[hg] at he ⊢;exact A4 P h he
 | some ga =>
   obtain⟨g,args⟩:=ga
   simp only[hg] at he ⊢;cases S9:gv ops st o.guard with
   | none=>simp[S9] at he
   | some t =>
     simp only[S9] at he ⊢;cases t with
     | false=>exact he
     | true =>
       simp only[if_true] at he ⊢;cases h1:i g (args.map st.ev) st with
       | none=>simp[h1] at he
       | some r=>rw[hi _ _ _ _ h1];rw[h1] at he;exact he
theorem Av (h:uY c c') (hi:Ya i i') {ops:Array Oper}:∀(l:List Oper) {st s:St},lT P bi c i ops l st=some s→lT P bi c' i' ops l st=some s
 | [],st,s,he=>he
 | o :: l,st,s,he=>by
   simp only[lT] at *
   obtain⟨s1,h1,h2⟩:=fN.1 he
   exact fN.2 ⟨s1,Yc P h hi h1,Av h hi l h2⟩
theorem oB (h:uY c c') (hi:Ya i i'):∀(n m:Nat),n≤m→∀(x:Code) (st:St) (r:Ex × St),tT P bi c i n x st=some r→tT P bi c' i' m x st=some r
 | 0,_,_,_,_,_,he=>by simp[tT] at he
 | n+1,0,hle,_,_,_,_=>by omega
 | n+1,m+1,hle,x,st,r,he=>by
   have ih:=oB h hi n m (by omega)
   cases x<;>simp only[tT] at he ⊢<;>(try exact he)
   case region id ops draw =>
    obtain⟨s1,h1,h2⟩:=fN.1 he
    exact fN.2 ⟨s1,Av P h hi _ h1,h2⟩
   case seq a b =>
    obtain⟨⟨e1,s1⟩,h1,h2⟩:=fN.1 he
    refine fN.2 ⟨(e1,s1),ih _ _ _ h1, ?_⟩
    cases e1 with
    | normal=>exact ih _ _ _ h2
    | _=>exact h2
   case cond cc a b =>
    split at he
    ·split at he
     ·rename_i hb;rw[if_pos hb];exact ih _ _ _ he
     ·rename_i hb;rw[if_neg hb];exact ih _ _ _ he
    ·cases he
   case block id b =>
    obtain⟨r1,h1,h2⟩:=fN.1 he
    exact fN.2 ⟨r1,ih _ _ _ h1,h2⟩
   case loop b =>
    obtain⟨⟨e1,s1⟩,h1,h2⟩:=fN.1 he
    refine fN.2 ⟨(e1,s1),ih _ _ _ h1, ?_⟩
    cases e1 with
    | normal=>exact ih _ _ _ h2
    | _=>exact h2
theorem Re:∀n,uY (Md P n) (Md P (n+1))∧Ya (Vf P n) (Vf P (n+1))
 | 0=>⟨fun g xs r h=>by
   rw[Vg] at h;rw[xZ,h],fun g xs st r h=>by cases h⟩
 | n+1=>by
   obtain⟨ih,ii⟩:=Re n
   refine⟨fun g xs r h=>?_,fun g xs st r h=>?_⟩
   ·rw[xZ] at h ⊢;cases he:Ext.ext g xs with
    | some r'=>rw[he] at h;exact h
    | none =>
      simp only[he] at h;simp only
      cases hq:tA xs with
      | some u =>
        simp only[hq] at h;simp only
        unfold runM at h ⊢
        split at h
        ·split at h
         ·rename_i rE;rw[if_pos rE];split at h
          ·obtain⟨r1,h1,h2⟩:=fN.1 h
           exact fN.2 ⟨r1,oB P ih ii n (n+1) (by omega) _ _ _ h1,h2⟩
          ·cases h
         ·cases h
        ·cases h
      | none =>
        simp only[hq] at h;simp only
        by_cases hu:xs.any sZ=true
        ·rw[if_pos hu] at h;cases h
        ·rw[if_neg hu] at h ⊢;unfold ZE at h ⊢
         split at h
         ·split at h
          ·rename_i rE;rw[if_pos rE];split at h
           ·obtain⟨r1,h1,h2⟩:=fN.1 h
            exact fN.2 ⟨r1,oB P ih ii n (n+1) (by omega) _ _ _ h1,h2⟩
           ·cases h
          ·cases h
         ·cases h
   ·rw[Mk] at h ⊢;unfold ZF at h ⊢
    split at h
    ·split at h
     ·rename_i rE;rw[if_pos rE];split at h
      ·obtain⟨r1,h1,h2⟩:=fN.1 h
       exact fN.2 ⟨r1,oB P ih ii n (n+1) (by omega) _ _ _ h1,h2⟩
      ·cases h
     ·cases h
    ·cases h
theorem Yd (n:Nat):uY (Md P n) (Md P (n+1)):=(Re P n).1
theorem Ye (n:Nat):Ya (Vf P n) (Vf P (n+1)):=(Re P n).2
theorem Bp {n m:Nat} (h:n≤m):uY (Md P n) (Md P m):=fun g xs r hr =>
 Uz (g:=fun n=>Md P n g xs) (fun n r=>Yd P n g xs r) h hr
theorem Bq {n m:Nat} (h:n≤m):Ya (Vf P n) (Vf P m):=fun g xs st r hr =>
 Uz (g:=fun n=>Vf P n g xs st) (fun n r=>Ye P n g xs st r) h hr
noncomputable def aB (f:Nat) (xs:List AV):Option AV:=lS fun n=>Md P n f xs
noncomputable def Cm (f:Nat) (xs:List AV) (st:St):Option (AV × St):=lS fun n=>Vf P n f xs st
noncomputable def vU (bi:Bool) (x:Code) (st:St):Option (Ex × St):=lS fun n=>tT P bi (Md P n) (Vf P n) n x st
theorem xX {f:Nat} {xs:List AV} {r:AV}:aB P f xs=some r↔∃n,Md P n f xs=some r:=HM (fun n r=>Yd P n f xs r) r
theorem Yf {f:Nat} {xs:List AV} {st:St} {r:AV × St}:Cm P f xs st=some r↔∃n,Vf P n f xs st=some r:=HM (fun n r=>Ye P n f xs st r) r
theorem gG {x:Code} {st:St} {r:Ex × St}:vU P bi x st=some r↔∃n m,tT P bi (Md P n) (Vf P n) m x st=some r:=by
 unfold vU;rw[HM (fun n r=>oB P (Yd P n) (Ye P n) n (n+1) (by omega) x st r)]
 constructor
 ·rintro⟨n,h⟩;exact⟨n,n,h⟩
 ·rintro⟨n,m,h⟩
  exact⟨max n m,oB P (Bp P (Nat.le_max_left n m)) (Bq P (Nat.le_max_left n m)) m _ (Nat.le_max_right n m) x st r h⟩
theorem TW (hm:P.follows .mixedOrders=true) (hx:Ss P) {f:Nat} {xs:List AV} {r:AV} (h:aB P f xs=some r):Hf P f xs r:=by
 obtain⟨n,hn⟩:=(xX P).1 h
 exact (aF5 hm hx n f xs r hn).2
theorem aCe (n:Nat):Ya (Vf P n) (Cm P):=fun g xs st r h=>(Yf P).2 ⟨n,h⟩
theorem U3 (n:Nat):uY (Md P n) (aB P):=fun g xs r h=>(xX P).2 ⟨n,h⟩
theorem HP {β:Type} {g:Nat} {xs:List AV} {f:AV→Option β} {r:β} (h:cH (aB P g xs) f=some r):∃n,cH (Md P n g xs) f=some r:=by
 obtain⟨a,h1,h2⟩:=fN.1 h
 obtain⟨n,hn⟩:=(xX P).1 h1
 exact⟨n,fN.2 ⟨a,hn,h2⟩⟩
theorem Eo {g:Nat} {args:List AV} {st:St} {dst:Option Nat} {e:qW} (h:aN (aB P) g args st dst=some e):∃n,aN (Md P n) g args st dst=some e:=by
 unfold aN at h ⊢
 split at h
 ·rename_i hf;obtain⟨n,hn⟩:=HP P h
  exact⟨n,by rw[if_pos hf];exact hn⟩
 ·rename_i hf;split at h
  ·rename_i xs GV;obtain⟨n,hn⟩:=HP P h
   exact⟨n,by rw[if_neg hf];exact hn⟩
  ·cases h
theorem UT {g:Nat} {args:List AV} {st:St} {dst:Option Nat} {e:qW} (h:lA (aB P) g args st dst=some e):∃n,lA (Md P n) g args st dst=some e:=by
 unfold lA at h ⊢
 split at h
 ·rename_i s k rest;split at h
  ·rename_i e0 sz n cs hh;split at h
   ·rename_i hc;simp only[hh,if_pos hc];cases hr:aB P g (.uniq e0 sz n cs :: rest) with
    | none=>simp[hr] at h
    | some r =>
      obtain⟨m,hm⟩:=(xX P).1 hr
      exact⟨m,by rw[hm];rw[hr] at h;exact h⟩
   ·cases h
  ·cases h
 ·split at h
  ·rename_i hc;simp only[if_pos hc];exact Eo P h
  ·cases h
theorem NZ {g:Nat} {args:List AV} {st:St} {dst:Option Nat} {e:qW} (h:eQ (aB P) g args st dst=some e):∃n,eQ (Md P n) g args st dst=some e:=by
 unfold eQ at h ⊢
 split at h
 ·rename_i s k hk;split at h
  ·rename_i rE;simp only[if_pos rE];split at h
   ·rename_i xs GV;exact HP P h
   ·cases h
  ·cases h
 ·rename_i hk;obtain⟨n,hn⟩:=Eo P h
  exact⟨n,hn⟩
theorem A5 {o:Oper} {st:St} {e:qW} (h:dN P (aB P) o st=some e):∃n,dN P (Md P n) o st=some e:=by
 obtain⟨dst,op,type,pos,after,guard⟩:=o
 cases op
 case call cl =>
  simp only[dN] at *
  unfold iU at *
  split at h
  ·unfold mY at h ⊢
   split at h
   ·split at h
    ·rename_i hm;obtain⟨n,hn⟩:=UT P h
     exact⟨n,by simp only[hm,if_true];exact hn⟩
    ·rename_i hm;split at h
     ·rename_i hm2;obtain⟨n,hn⟩:=NZ P h
      exact⟨n,by rw[if_neg hm,if_pos hm2];exact hn⟩
     ·rename_i hm2;obtain⟨n,hn⟩:=Eo P h
      exact⟨n,by rw[if_neg hm,if_neg hm2];exact hn⟩
   ·split at h
    ·exact Eo P h
    ·cases h
  all_goals exact⟨0,h⟩
 case makeMap T r=>cases r<;>exact⟨0,h⟩
 all_goals exact⟨0,h⟩
theorem U4 {ops:Array Oper} {o:Oper} {st s:St} (h:cC P (aB P) ops o st=some s):∃n,cC P (Md P n) ops o st=some s:=by
 unfold cC at *
 split at h
 ·split at h
  ·rename_i b hg hb;cases h1:dN P (aB P) o st with
   | none=>simp[h1] at h
   | some e =>
     obtain⟨n,hn⟩:=A5 P h1
     refine⟨n, ?_⟩
     rw[if_pos hb,hn];rw[h1] at h;exact h
  ·rename_i b hg hb;exact⟨0,by rw[if_neg hb];exact h⟩
 ·cases h
theorem A6 {ops:Array Oper} {o:Oper} {st s:St} (h:gL P bi (aB P) (Cm P) ops o st=some s):∃n,gL P bi (Md P n) (Vf P n) ops o st=some s:=by
 unfold gL at h ⊢
 cases hg:(if bi=true then Ew o else none) with
 | none =>
   simp only[hg] at h ⊢;exact U4 P h
 | some ga =>
   obtain⟨g,args⟩:=ga
   simp only[hg] at h ⊢;cases S9:gv ops st o.guard with
   | none=>simp[S9] at h
   | some t =>
     simp only[S9] at h ⊢;cases t with
     | false=>exact⟨0,h⟩
     | true =>
       simp only[if_true] at h ⊢;cases h1:Cm P g (args.map st.ev) st with
       | none=>simp[h1] at h
       | some r =>
         obtain⟨n,hn⟩:=(Yf P).1 h1
         refine⟨n, ?_⟩
         rw[h1] at h;rw[hn];exact h
theorem Yg {ops:Array Oper}:∀(l:List Oper) {st s:St},lT P bi (aB P) (Cm P) ops l st=some s→∃n,lT P bi (Md P n) (Vf P n) ops l st=some s
 | [],st,s,h=>⟨0,h⟩
 | o :: l,st,s,h=>by
   simp only[lT] at *
   obtain⟨s1,h1,h2⟩:=fN.1 h
   obtain⟨n,hn⟩:=A6 P h1
   obtain⟨m,hm⟩:=Yg l h2
   exact⟨max n m,fN.2 ⟨s1,Yc P (Bp P (Nat.le_max_left n m)) (Bq P (Nat.le_max_left n m)) hn,Av P (Bp P (Nat.le_max_right n m)) (Bq P (Nat.le_max_right n m)) l hm⟩⟩
theorem On {cc:Nat→List AV→Option AV} {ii:Nat→List AV→St→Option (AV × St)} {ops:Array Oper}:∀(l:List Oper) (st:St),lT P false cc ii ops l st=Mg P cc ops l st
 | [],st=>rfl
 | o :: l,st=>by
   have e:∀s,gL P false cc ii ops o s=cC P cc ops o s:=fun s=>rfl
   unfold lT Mg;rw[e];congr 1
   funext s
   exact On l s
theorem OA (st:St):vU P bi .skip st=some (.normal,st):=(gG P).2 ⟨0,1,rfl⟩
theorem OB (id:Nat) (st:St):vU P bi (.exit id) st=some (.exit id,st):=(gG P).2 ⟨0,1,rfl⟩
theorem YN (st:St):vU P bi .ret st=some (.ret,st):=(gG P).2 ⟨0,1,rfl⟩
theorem Yh (id:Nat) (ops:Array Oper) (d:Bool) (st:St):vU P bi (.region id ops d) st=cH (lT P bi (aB P) (Cm P) ops ops.toList st) fun s=>if bi=true∧¬pP ops s (Ext.dyn id ops.size (rG ops)) then none else some (.normal,s):=by
 apply Option.ext
 intro r;rw[gG,fN];constructor
 ·rintro⟨n,m,h⟩
  cases m with
  | zero=>simp[tT] at h
  | succ m =>
    simp only[tT] at h;obtain⟨s1,h1,h2⟩:=fN.1 h
    exact⟨s1,Av P (U3 P n) (aCe P n) _ h1,h2⟩
 ·rintro⟨s1,h1,h2⟩
  obtain⟨n,hn⟩:=Yg P _ h1
  exact⟨n,1,by simp only[tT];exact fN.2 ⟨s1,hn,h2⟩⟩
def Yi (r:Ex × St) (k:St→Option (Ex × St)):Option (Ex × St) :=
 match r.1 with
 | .normal=>k r.2
 | e=>some (e,r.2)
theorem GA (a b:Code) (st:St):vU P bi (.seq a b) st=cH (vU P bi a st) fun r=>Yi r (vU P bi b):=by
 apply Option.ext
 intro r;rw[gG,fN];constructor
 ·rintro⟨n,m,h⟩
  cases m with
  | zero=>simp[tT] at h
  | succ m =>
    simp only[tT] at h;obtain⟨⟨e1,s1⟩,h1,h2⟩:=fN.1 h
    refine⟨(e1,s1),(gG P).2 ⟨n,m,h1⟩, ?_⟩
    cases e1 with
    | normal=>exact (gG P).2 ⟨n,m,h2⟩
    | _=>exact h2
 ·rintro⟨⟨e1,s1⟩,h1,h2⟩
  obtain⟨n1,m1,h1⟩:=(gG P).1 h1
  cases e1 with
  | normal =>
    obtain⟨n2,m2,h2⟩:=(gG P).1 h2
    refine⟨max n1 n2,max m1 m2+1, ?_⟩
    simp only[tT];exact fN.2 ⟨(.normal,s1),oB P (Bp P (Nat.le_max_left _ _)) (Bq P (Nat.le_max_left _ _)) _ _ (Nat.le_max_left _ _) _ _ _ h1,oB P (Bp P (Nat.le_max_right _ _)) (Bq P (Nat.le_max_right _ _)) _ _ (Nat.le_max_right _ _) _ _ _ h2⟩
  | exit id=>exact⟨n1,m1+1,by simp only[tT];exact fN.2 ⟨(.exit id,s1),h1,h2⟩⟩
  | ret=>exact⟨n1,m1+1,by simp only[tT];exact fN.2 ⟨(.ret,s1),h1,h2⟩⟩
theorem OC (b:Code) (st:St):vU P bi (.loop b) st=cH (vU P bi b st) fun r=>Yi r (vU P bi (.loop b)):=by
 apply Option.ext
 intro r;rw[gG,fN];constructor
 ·rintro⟨n,m,h⟩
  cases m with
  | zero=>simp[tT] at h
  | succ m =>
    simp only[tT] at h;obtain⟨⟨e1,s1⟩,h1,h2⟩:=fN.1 h
    refine⟨(e1,s1),(gG P).2 ⟨n,m,h1⟩, ?_⟩
    cases e1 with
    | normal=>exact (gG P).2 ⟨n,m,h2⟩
    | _=>exact h2
 ·rintro⟨⟨e1,s1⟩,h1,h2⟩
  obtain⟨n1,m1,h1⟩:=(gG P).1 h1
  cases e1 with
  | normal =>
    obtain⟨n2,m2,h2⟩:=(gG P).1 h2
    refine⟨max n1 n2,max m1 m2+1, ?_⟩
    simp only[tT];exact fN.2 ⟨(.normal,s1),oB P (Bp P (Nat.le_max_left _ _)) (Bq P (Nat.le_max_left _ _)) _ _ (Nat.le_max_left _ _) _ _ _ h1,oB P (Bp P (Nat.le_max_right _ _)) (Bq P (Nat.le_max_right _ _)) _ _ (Nat.le_max_right _ _) _ _ _ h2⟩
  | exit id=>exact⟨n1,m1+1,by simp only[tT];exact fN.2 ⟨(.exit id,s1),h1,h2⟩⟩
  | ret=>exact⟨n1,m1+1,by simp only[tT];exact fN.2 ⟨(.ret,s1),h1,h2⟩⟩
theorem EO (id:Nat) (b:Code) (st:St):vU P bi (.block id b) st=cH (vU P bi b st) fun r=>some (r.1.inBlock id,r.2):=by
 apply Option.ext
 intro r;rw[gG,fN];constructor
 ·rintro⟨n,m,h⟩
  cases m with
  | zero=>simp[tT] at h
  | succ m =>
    simp only[tT] at h;obtain⟨r1,h1,h2⟩:=fN.1 h
    exact⟨r1,(gG P).2 ⟨n,m,h1⟩,h2⟩
 ·rintro⟨r1,h1,h2⟩
  obtain⟨n1,m1,h1⟩:=(gG P).1 h1
  exact⟨n1,m1+1,by simp only[tT];exact fN.2 ⟨r1,h1,h2⟩⟩
theorem OD (c:Operand) (a b:Code) (st:St) {t:Bool} (hc:st.ev c=.v (.bool t)):vU P bi (.cond c a b) st=if t=true then vU P bi a st else vU P bi b st:=by
 apply Option.ext
 intro r;rw[gG];constructor
 ·rintro⟨n,m,h⟩
  cases m with
  | zero=>simp[tT] at h
  | succ m =>
    simp only[tT,hc] at h;split at h
    ·rename_i hb;rw[if_pos hb];exact (gG P).2 ⟨n,m,h⟩
    ·rename_i hb;rw[if_neg hb];exact (gG P).2 ⟨n,m,h⟩
 ·intro h;split at h
  ·rename_i hb;obtain⟨n,m,h⟩:=(gG P).1 h
   exact⟨n,m+1,by simp only[tT,hc];rw[if_pos hb];exact h⟩
  ·rename_i hb;obtain⟨n,m,h⟩:=(gG P).1 h
   exact⟨n,m+1,by simp only[tT,hc];rw[if_neg hb];exact h⟩
noncomputable def yG (x:Code) (st:St):Option (Ex × St):=vU P false x st
theorem YO {x:Code} {st:St} {r:Ex × St}:yG P x st=some r↔∃n m,tT P false (Md P n) (Vf P n) m x st=some r:=gG P
theorem U5 (st:St):yG P .skip st=some (.normal,st):=OA P st
theorem U6 (id:Nat) (st:St):yG P (.exit id) st=some (.exit id,st):=OB P id st
theorem aCf (st:St):yG P .ret st=some (.ret,st):=YN P st
theorem UU (id:Nat) (ops:Array Oper) (d:Bool) (st:St):yG P (.region id ops d) st=cH (Mg P (aB P) ops ops.toList st) fun s=>some (.normal,s):=by
 rw[← On P (ii:=Cm P)];have h:=Yh P (bi:=false) id ops d st
 simp only[Bool.false_eq_true,false_and,if_false] at h;exact h
theorem aCg (a b:Code) (st:St):yG P (.seq a b) st=cH (yG P a st) fun r=>Yi r (yG P b):=GA P a b st
theorem Cb (b:Code) (st:St):yG P (.loop b) st=cH (yG P b st) fun r=>Yi r (yG P (.loop b)):=OC P b st
theorem A7 (id:Nat) (b:Code) (st:St):yG P (.block id b) st=cH (yG P b st) fun r=>some (r.1.inBlock id,r.2):=EO P id b st
theorem U7 (c:Operand) (a b:Code) (st:St) {t:Bool} (hc:st.ev c=.v (.bool t)):yG P (.cond c a b) st=if t=true then yG P a st else yG P b st:=OD P c a b st hc
noncomputable def zO (f:Nat) (fn:Func) (r:Ex × St):Option AV :=
 match r.1 with
 | .exit _=>none
 | _=>jN P f fn r.2
def bI (fn:Func):Bool:=sY fn && (match fn.body with|some c=>!mZ c|none=>true)
theorem Kc {xs:List AV} (h:xs.any sZ=false):tA xs=none:=by
 cases xs with
 | nil=>rfl
 | cons x xs =>
   cases x<;>first|rfl|simp[sZ] at h
noncomputable def M4 (fn:Func) (r:Ex × St):Option AV :=
 match r.1 with
 | .exit _=>none
 | _=>Im P fn r.2
theorem LW {f:Nat} {fn:Func} {c:Code} (hf:P.funcs[f]? = some fn) (hb:fn.body=some c) (rE:sY fn=true) (e sz m:Nat) (cs xs:List AV) (hx:Ext.ext f (.uniq e sz m cs :: xs)=none) :
 aB P f (.uniq e sz m cs :: xs)=cH (vU P (mZ c) c (St.sJ e sz m cs xs)) (M4 P fn):=by
 apply Option.ext
 intro r;rw[xX,fN];have hq:tA (.uniq e sz m cs :: xs)=some (e,sz,m,cs,xs):=rfl
 constructor
 ·rintro⟨n,h⟩
  cases n with
  | zero=>rw[Vg,hx] at h;cases h
  | succ n =>
    simp only[xZ,hx,hq,runM,hf,rE,hb,if_true] at h;obtain⟨r1,h1,h2⟩:=fN.1 h
    exact⟨r1,(gG P).2 ⟨n,n,h1⟩,h2⟩
 ·rintro⟨r1,h1,h2⟩
  obtain⟨n,m',h1⟩:=(gG P).1 h1
  refine⟨max n m'+1, ?_⟩
  simp only[xZ,hx,hq,runM,hf,rE,hb,if_true];exact fN.2 ⟨r1,oB P (Bp P (Nat.le_max_left _ _)) (Bq P (Nat.le_max_left _ _)) _ _ (Nat.le_max_right _ _) _ _ _ h1,h2⟩
theorem OE {f:Nat} {fn:Func} {c:Code} (hf:P.funcs[f]? = some fn) (hb:fn.body=some c) (rE:sY fn=true) (xs:List AV) (hx:Ext.ext f xs=none) (hu:xs.any sZ=false):aB P f xs=cH (vU P (mZ c) c (St.init xs)) (zO P f fn):=by
 apply Option.ext
 intro r;rw[xX,fN];constructor
 ·rintro⟨n,h⟩
  cases n with
  | zero=>rw[Vg,hx] at h;cases h
  | succ n =>
    simp only[xZ,hx,Kc hu,hu,ZE,hf,rE,hb,if_true] at h;obtain⟨r1,h1,h2⟩:=fN.1 h
    exact⟨r1,(gG P).2 ⟨n,n,h1⟩,h2⟩
 ·rintro⟨r1,h1,h2⟩
  obtain⟨n,m,h1⟩:=(gG P).1 h1
  refine⟨max n m+1, ?_⟩
  simp only[xZ,hx,Kc hu,hu,ZE,hf,rE,hb,if_true];exact fN.2 ⟨r1,oB P (Bp P (Nat.le_max_left _ _)) (Bq P (Nat.le_max_left _ _)) _ _ (Nat.le_max_right _ _) _ _ _ h1,h2⟩
theorem U8 {f:Nat} {fn:Func} {c:Code} (hf:P.funcs[f]? = some fn) (hb:fn.body=some c) (rE:bI fn=true) (xs:List AV) (hx:Ext.ext f xs=none) (hu:xs.any sZ=false):aB P f xs=cH (yG P c (St.init xs)) (zO P f fn):=by
 simp only[bI,hb,Bool.and_eq_true,Bool.not_eq_true'] at rE;rw[OE P hf hb rE.1 xs hx hu,rE.2];rfl
noncomputable def aF6 (fn:Func) (r:Ex × St):Option (AV × St) :=
 match r.1 with
 | .exit _=>none
 | _=>(zX P fn r.2).map fun x=>(x,r.2)
theorem GB {f:Nat} {fn:Func} {c:Code} (hf:P.funcs[f]? = some fn) (hb:fn.body=some c) (rE:CR true fn=true) (xs:List AV) (st:St):Cm P f xs st=cH (vU P true c ((St.init xs).back st)) (aF6 P fn):=by
 apply Option.ext
 intro r;rw[Yf,fN];constructor
 ·rintro⟨n,h⟩
  cases n with
  | zero=>rw[H8] at h;cases h
  | succ n =>
    simp only[Mk,ZF,hf,rE,hb,if_true] at h;obtain⟨r1,h1,h2⟩:=fN.1 h
    exact⟨r1,(gG P).2 ⟨n,n,h1⟩,h2⟩
 ·rintro⟨r1,h1,h2⟩
  obtain⟨n,m,h1⟩:=(gG P).1 h1
  refine⟨max n m+1, ?_⟩
  simp only[Mk,ZF,hf,rE,hb,if_true];exact fN.2 ⟨r1,oB P (Bp P (Nat.le_max_left _ _)) (Bq P (Nat.le_max_left _ _)) _ _ (Nat.le_max_right _ _) _ _ _ h1,h2⟩
end
end Go.Ab
end
