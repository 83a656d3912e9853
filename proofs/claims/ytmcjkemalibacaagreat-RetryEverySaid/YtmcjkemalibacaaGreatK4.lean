/-
  Part 4 of the proof: an evaluator of programs, its soundness, and what functions of this program compute.
-/
import Derived.Test.YtmcjkemalibacaaGreatK3
set_option linter.all false
set_option maxRecDepth 20000
set_option maxHeartbeats 40000000
section
namespace Go.Ab
open Classical
variable [Ext]
def Yx (ops:Array Oper) (acc:Array Nat):Prop :=
 ∀j o,j<acc.size→ops[j]? = some o→∀k,(acc.getD j 0).testBit k=true→∃e∈o.after,Region.binds .any e=true∧(e.on=k∨(acc.getD e.on 0).testBit k=true)
theorem FQ (acc:Array Nat) (k:Nat):∀(l:List Edge) (s:Nat),(l.foldl (fun s e=>if Region.binds .any e=true then s ||| 2 ^ e.on ||| acc.getD e.on 0 else s) s).testBit k=true →
 s.testBit k=true∨∃e∈l,Region.binds .any e=true∧(e.on=k∨(acc.getD e.on 0).testBit k=true)
 | [],s,h=>.inl h
 | e :: l,s,h=>by
   simp only[List.foldl_cons] at h;rcases FQ acc k l _ h with h|⟨e',Ai,h⟩
   ·split at h
    ·rename_i hb;simp only[Nat.testBit_or,Bool.or_eq_true] at h;rcases h with (h|h)|h
     ·exact .inl h
     ·rw[Nat.testBit_two_pow] at h;exact .inr ⟨e,by simp,hb,.inl (by simpa using h)⟩
     ·exact .inr ⟨e,by simp,hb,.inr h⟩
    ·exact .inl h
   ·exact .inr ⟨e',by simp[Ai],h⟩
theorem FR {α:Type} (n:Nat) (k:Nat→α):forced n k=k n:=by cases n<;>rfl
theorem Yy (ops:Array Oper):∀(l:List Oper) (acc:Array Nat),(∀i o,l[i]? = some o→ops[acc.size+i]? = some o)→Yx ops acc→Yx ops (DS l acc)
 | [],acc,_,h=>h
 | o :: l,acc,hl,h=>by
   unfold DS;rw[FR];refine Yy ops l _ (fun i o' ho'=>?_) ?_
   ·have:=hl (i+1) o' (by simpa using ho')
    simp only[Array.size_push];rw[← this];congr 1
    omega
   ·intro j oj hj hoj k hk;have qP:∀x,(acc.getD x 0).testBit k=true→((acc.push (TB acc o)).getD x 0).testBit k=true:=fun x hx=>by
     have aZ:x<acc.size:=by
      rcases Nat.lt_or_ge x acc.size with h'|h'
      ·exact h'
      ·simp[Array.getElem?_eq_none h'] at hx
     simp only[Array.getD_eq_getD_getElem?,Array.getElem?_push_lt aZ] at hx ⊢;simpa [aZ] using hx
    rcases Nat.lt_or_ge j acc.size with aZ|hge
    ·have F6:(acc.getD j 0).testBit k=true:=by
      simp only[Array.getD_eq_getD_getElem?,Array.getElem?_push_lt aZ] at hk ⊢;simpa [aZ] using hk
     obtain⟨e,he,hb,hor⟩:=h j oj aZ hoj k F6
     exact⟨e,he,hb,hor.imp id (qP _)⟩
    ·have hje:j=acc.size:=by simp only[Array.size_push] at hj;omega
     subst hje;have ho:=hl 0 o (by simp)
     rw[Nat.add_zero,hoj] at ho;cases ho
     have F6:(TB acc o).testBit k=true:=by simpa using hk
     rcases FQ acc k _ 0 F6 with h0|⟨e,he,hb,hor⟩
     ·simp at h0
     ·exact⟨e,by simpa using he,hb,hor.imp id (qP _)⟩
theorem Oo {ops:Array Oper} {dy:List (Nat × Nat)} {b:Array Nat} {j:Nat} {oj:Oper}:∀(l:List Oper) (i0:Nat),Mt ops dy b j oj l i0=true→∀i oi,l[i]? = some oi→i0+i<j→(b.getD j 0).testBit (i0+i)=true∨(YK oi=true∧YK oj=true∧(sV ops oi oj=true∨((i0+i,j)∈dy∧GC ops b (i0+i) oi j oj=true)))
 | [],_,_,i,oi,h,_=>by simp at h
 | o :: l,i0,h,i,oi,ho,aZ=>by
   unfold Mt at h;simp only[Bool.and_eq_true,Bool.or_eq_true,decide_eq_true_eq] at h;cases i with
   | zero =>
     simp at ho
     subst ho;rcases h.1 with (h|h)|⟨⟨n1,n2⟩,h⟩
     ·omega
     ·exact .inl (by simpa using h)
     ·exact .inr ⟨n1,n2,h.imp id fun h=>⟨by simpa using h.1,by simpa using h.2⟩⟩
   | succ i =>
     have:=Oo l (i0+1) h.2 i oi (by simpa using ho) (by omega)
     rw[show i0+(i+1)=i0+1+i by omega]
     exact this
theorem Hx {ops:Array Oper} {dy:List (Nat × Nat)} {b:Array Nat}:∀(l:List Oper) (j0:Nat),GD ops dy b l j0=true→∀j oj,l[j]? = some oj →
 (∀e∈oj.after,Region.binds .any e=true→e.on<j0+j)∧Mt ops dy b (j0+j) oj ops.toList 0=true
 | [],_,_,j,oj,h=>by simp at h
 | o :: l,j0,h,j,oj,ho=>by
   unfold GD at h;simp only[Bool.and_eq_true] at h;obtain⟨⟨h1,h2⟩,h3⟩:=h
   cases j with
   | zero =>
     simp at ho
     subst ho;refine⟨fun e he hb=>?_,by simpa using h2⟩
     have:=List.all_eq_true.1 h1 e (by simpa using he)
     simpa [hb] using this
   | succ j =>
     have:=Hx l (j0+1) h3 j oj (by simpa using ho)
     rw[show j0+(j+1)=j0+1+j by omega]
     exact this
structure Dh (ops:Array Oper) (dy:List (Nat × Nat)) (b:Array Nat):Prop where
 aN8:Yx ops b
 size:b.size=ops.size
 lt:∀j oj,ops[j]? = some oj→∀e∈oj.after,Region.binds .any e=true→e.on<j
 apart:∀i j oi oj,i<j→ops[i]? = some oi→ops[j]? = some oj→(b.getD j 0).testBit i=true∨(YK oi=true∧YK oj=true∧(sV ops oi oj=true∨((i,j)∈dy∧GC ops b i oi j oj=true)))
theorem Yz:∀(l:List Oper) (acc:Array Nat),(DS l acc).size=acc.size+l.length
 | [],acc=>rfl
 | o :: l,acc=>by
   unfold DS;rw[FR,Yz l];simp
   omega
theorem PF {ops:Array Oper} {dy:List (Nat × Nat)} (h:Vw ops dy=true):∃b,Dh ops dy b:=by
 unfold Vw at h;refine⟨_,Yy ops ops.toList #[] (fun i o ho=>by simpa using ho) (fun j o hj=>by simp at hj),by rw[Yz];simp,fun j oj hoj=>?_,fun i j oi oj hij hoi hoj=>?_⟩
 ·have:=(Hx _ 0 h j oj (by simpa using hoj)).1
  simpa using this
 ·have:=(Hx _ 0 h j oj (by simpa using hoj)).2
  simp only[Nat.zero_add] at this;have:=Oo _ 0 this i oi (by simpa using hoi) (by omega)
  simpa using this
section
variable {P:Program} {call:Nat→List AV→Option AV} {ops:Array Oper} {nt:Nat} {Q:Exit→Act→World→Prop}
theorem PG {h0:Nat→Obj→Prop} {w0:World} {F:Gp} {ρ:Nat→Nat→Value} {st:St} {a:Act} {w:World} (S:kZ F h0 w0 nt ρ st a w) {o:Oper} {b:Bool} (h:gv ops st o.guard=some b):Region.wanted o (yielded ops a.tmps)=b:=by
 unfold gv at h;unfold Region.wanted;cases hg:o.guard with
 | none=>simp[hg] at h;subst h;rfl
 | some jw =>
   obtain⟨j,want⟩:=jw
   simp only[hg] at h;simp only
   cases hd:(ops[j]?).bind (·.dst) with
   | none =>
     simp[hd] at h
     subst h;simp[yielded,hd]
   | some d =>
     simp only[hd] at h;split at h
     ·rename_i x hx;have hr:=S.env d
      rw[hx] at hr;have hv:=iN hr
      rcases Nat.lt_or_ge d a.tmps.size with aZ|hge
      ·have hv':a.tmps[d]? = some x:=by
        simp[aZ] at hv ⊢
        exact hv
       simp only[yielded,hd,Option.bind_some,hv'];split at h
       ·simp only[Option.some.injEq] at h;rw[← h];simp
       ·simp only[Option.some.injEq] at h;subst h;rename_i gT;cases x<;>first|rfl|exact absurd rfl (gT _)
      ·have hn:a.tmps[d]? = none:=Array.getElem?_eq_none hge
       have hu:x=undef:=by simpa [hn] using hv.symm
       subst hu;simp[undef] at h
       subst h;simp[yielded,hd,hn]
     ·cases h
theorem WG {h0:Nat→Obj→Prop} {w0:World} {F:Gp} {ρ:Nat→Nat→Value} {st st':St} {a:Act} {w:World} {K:Act→World→Prop} (S:kZ F h0 w0 nt ρ st a w) (kO:rM P call) {i:Nat} {o:Oper}
 (hi:ops[i]? = some o) (hd:∀d,o.dst=some d→d<nt) (h:cE P call ops o st=some st')
 (hK:∀oA a' w',kZ F h0 w0 nt oA st' a' w'→K a' w'):wpOp P ops Q i K a w:=by
 unfold wpOp;simp only[hi];unfold cE at h;cases hg:gv ops st o.guard with
 | none=>simp[hg] at h
 | some b =>
   rw[PG S hg];simp only[hg] at h;cases b with
   | true =>
     simp only[if_true] at h ⊢;cases he:cZ P call o st with
     | none=>simp[he] at h
     | some e =>
       simp only[he,Option.map_some,Option.some.injEq] at h;subst h;exact .inl (Th S kO he hd hK)
   | false =>
     simp only[Bool.false_eq_true,if_false,Option.some.injEq] at h ⊢;subst h;exact hK ρ _ w (S.put o.dst hd (.v _))
theorem IN {o:Oper} {a:Act} {w:World} {K:Act→World→Prop} (h:o.wp P a w K fun _ _ _=>False):∃a' w',K a' w':=by
 unfold Oper.wp at h;generalize (execOp a.eval o).run P w=r at h
 have hlet:¬LetsOut (fun _ _ _=>False):=by rintro⟨_,_,h⟩;exact h
 cases r with
 | ok n w' =>
   cases n<;>simp only[Oper.upon] at h<;>(try exact⟨_,_,h⟩)<;>(try exact h.elim)
   ·obtain⟨e,w2,fr,hR,_⟩:=h []
    cases e with
    | returned v=>exact⟨_,_,hR⟩
    | panicked c=>exact hR.elim
    | outgrown=>exact absurd hR hlet
   ·obtain⟨v,w2,hR,_⟩:=h default []
    exact⟨_,_,hR⟩
 | halt x w'=>cases x<;>simp only[Oper.upon] at h
def Valid (nt:Nat) (st:St):Prop:=∃(F:Gp) (h0:Nat→Obj→Prop) (w0:World) (ρ:Nat→Nat→Value) (a:Act) (w:World),kZ F h0 w0 nt ρ st a w
theorem Valid.ids {st:St} (h:Valid nt st):∀t,mN st.aO (st.env t):=by
 obtain⟨F,h0,w0,ρ,a,w,S⟩:=h
 exact fun t=>⟨ctx h0 w0 ρ st w,_,rfl,S.env t⟩
theorem Valid.hp {st:St} (h:Valid nt st):CB st:=by
 obtain⟨F,h0,w0,ρ,a,w,S⟩:=h
 intro s g cs he c hc;obtain⟨_,_,b,arr,T,_,_,_,Bv⟩:=S.sX s g _ he
 obtain⟨i,hi,rfl⟩:=List.getElem_of_mem hc
 have hl:=Bv.len
 exact⟨ctx h0 w0 ρ st w,arr.toList[i]'(by omega),rfl,Bv.rel i _ _ (by simp[hi]) (by simp)⟩
theorem Valid.step {st st':St} (h:Valid nt st) (kO:rM P call) {o:Oper} (hd:∀d,o.dst=some d→d<nt) (he:cE P call ops o st=some st'):Valid nt st':=by
 obtain⟨F,h0,w0,ρ,a,w,S⟩:=h
 unfold cE at he;cases hg:gv ops st o.guard with
 | none=>simp[hg] at he
 | some b =>
   simp only[hg] at he;cases b with
   | true =>
     simp only[if_true] at he;cases hee:cZ P call o st with
     | none=>simp[hee] at he
     | some e =>
       simp only[hee,Option.map_some,Option.some.injEq] at he;subst he;obtain⟨a',w',oA,S'⟩:=IN (Th (Q:=fun _ _ _=>False) (K:=fun a' w'=>∃oA,kZ F h0 w0 nt oA (e.apply st) a' w') S kO hee hd (fun oA a' w' h=>⟨oA,h⟩))
       exact⟨F,h0,w0,oA,a',w',S'⟩
   | false =>
     simp only[Bool.false_eq_true,if_false,Option.some.injEq] at he;subst he;exact⟨F,h0,w0,ρ,_,w,S.put o.dst hd (.v _)⟩
theorem vZ {b:Array Nat} {i a:Nat} {aS:List Nat} (ha:a∈aS):∀(l:List Oper) (m0:Nat),wP b i aS l m0=true→∀m o,l[m]? = some o→o.dst=some a→(b.getD i 0).testBit (m0+m)=true
 | [],_,_,m,o,h,_=>by simp at h
 | o' :: l,m0,h,m,o,ho,hd=>by
   unfold wP at h;simp only[Bool.and_eq_true,Bool.or_eq_true] at h;cases m with
   | zero =>
     simp at ho
     subst ho;rcases h.1 with h|h
     ·rw[hd] at h;simp[ha] at h
     ·simpa using h
   | succ m =>
     have:=vZ ha l (m0+1) h.2 m o (by simpa using ho) hd
     rw[show m0+(m+1)=m0+1+m by omega]
     exact this
theorem oY.mem {s:St}:∀ {l:List (Nat × Nat)},oY ops s l→∀p∈l,Kv ops s p
 | p :: l,h,q,hq=>by
   rcases List.mem_cons.1 hq with rfl|hq
   ·exact h.1
   ·exact h.2.mem q hq
structure Left (ops:Array Oper) (mC:Array Bool) (l:List Nat):Prop where
 size:mC.size=ops.size
 mem:∀j,j∈l↔j<ops.size∧mC.getD j true=false
 sorted:l.Pairwise (· < ·)
 closed:∀j o,ops[j]? = some o→mC.getD j false=true→∀e∈o.after,Region.binds .any e=true→mC.getD e.on false=true
theorem Dh.aH4 {dy:List (Nat × Nat)} {b:Array Nat} (D:Dh ops dy b):∀(j:Nat) o,ops[j]? = some o→∀k,(b.getD j 0).testBit k=true→k<j:=by
 intro j;induction j using Nat.strongRecOn with
 | _ j ih =>
   intro o ho k hk;have hj:j<ops.size:=(Array.getElem?_eq_some_iff.1 ho).1
   obtain⟨e,he,hb,hor⟩:=D.aN8 j o (by rw[D.size];exact hj) ho k hk
   have aZ:=D.lt j o ho e he hb
   rcases hor with rfl|F6
   ·exact aZ
   ·have hes:e.on<ops.size:=by omega
    have:=ih e.on aZ _ (Array.getElem?_eq_getElem hes) k F6
    omega
theorem FU {mC:Array Bool} {j:Nat} (hj:j<mC.size):mC.getD j true=mC.getD j false:=by simp[hj]
theorem PH {dy:List (Nat × Nat)} {b:Array Nat} (D:Dh ops dy b) {mC:Array Bool} {l:List Nat} (L:Left ops mC l):∀(j:Nat) o,ops[j]? = some o→(∀e∈o.after,Region.binds .any e=true→mC.getD e.on false=true) →
 ∀k,(b.getD j 0).testBit k=true→mC.getD k false=true:=by
 intro j;induction j using Nat.strongRecOn with
 | _ j ih =>
   intro o ho Kx k hk;have hj:j<ops.size:=(Array.getElem?_eq_some_iff.1 ho).1
   obtain⟨e,he,hb,hor⟩:=D.aN8 j o (by rw[D.size];exact hj) ho k hk
   have hle:=Kx e he hb
   rcases hor with rfl|F6
   ·exact hle
   ·have aZ:=D.lt j o ho e he hb
    have hes:e.on<ops.size:=by omega
    exact ih e.on aZ _ (Array.getElem?_eq_getElem hes) (L.closed e.on _ (Array.getElem?_eq_getElem hes) hle) k F6
end
end Go.Ab
end
section
namespace Go.Ab
open Classical
variable [Ext]
section
variable {P:Program} {call:Nat→List AV→Option AV} {inl:Nat→List AV→St→Option (AV × St)} {bi:Bool} {nt:Nat} {h0:Nat→Obj→Prop} {w0:World} {F:Gp}
theorem CJ {ops:Array Oper} {id:Nat} {draw:Bool} (h:codeOk bi nt (.region id ops draw)=true):(∀(j:Nat) o,ops[j]? = some o→∀d,o.dst=some d→d<nt)∧(draw=true→Vw ops (if bi=true then Ext.dyn id ops.size (pN ops) else [])=true):=by
 simp only[codeOk,Bool.and_eq_true,Bool.or_eq_true,Bool.not_eq_true'] at h;refine⟨fun j o ho d hd=>?_,fun hdr=>h.2.resolve_left (by rw[hdr];simp)⟩
 have:=Array.all_eq_true_iff_forall_mem.1 h.1 o (Array.mem_of_getElem? ho)
 simpa [hd] using this
def Za (P:Program) (inl:Nat→List AV→St→Option (AV × St)):Prop :=
 ∀g xs st r s',inl g xs st=some (r,s')→Hq P g ∧
  ∀(F:Gp) (h0:Nat→Obj→Prop) (w0:World) (nt:Nat) (ρ:Nat→Nat→Value) (a:Act) (w:World) (vs:Array Value) (K:Value→World→Prop),kZ F h0 w0 nt ρ st a w→lP (ctx h0 w0 ρ st w) xs vs.toList →
   (∀oA w' v,kZ F h0 w0 nt oA (st.back s') a w'→cV (ctx h0 w0 oA (st.back s') w') r v→K v w')→Calls P g vs w fun en w'=>∃v,en=.returned v∧K v w'
theorem WH {o:Oper} {g:Nat} {args:List Operand} (h:Cj o=some (g,args)):∃c,o.op=.call c∧c.callee=.value (.func g)∧c.args.toList=args:=by
 obtain⟨dst,op,type,pos,after,guard⟩:=o
 unfold Cj at h;split at h
 ·rename_i g' args' tJ qL
  split at h
  ·simp only[Option.some.injEq,Prod.mk.injEq] at h;obtain⟨rfl,rfl⟩:=h
   exact⟨_,qL,rfl,rfl⟩
  ·cases h
 ·cases h
theorem Tl {ops:Array Oper} {Q:Exit→Act→World→Prop} {ρ:Nat→Nat→Value} {st st':St} {a:Act} {w:World} {K:Act→World→Prop} (S:kZ F h0 w0 nt ρ st a w) (kO:rM P call) (Oq:Za P inl) {i:Nat} {o:Oper}
 (hi:ops[i]? = some o) (hd:∀d,o.dst=some d→d<nt) (h:gJ P bi call inl ops o st=some st')
 (hK:∀oA a' w',kZ F h0 w0 nt oA st' a' w'→K a' w'):wpOp P ops Q i K a w:=by
 unfold gJ at h;split at h
 ·rename_i g args hg;have TJ:Cj o=some (g,args):=by
   split at hg
   ·exact hg
   ·cases hg
  obtain⟨c,qL,hcal,vB⟩:=WH TJ
  unfold wpOp;simp only[hi];cases hgv:gv ops st o.guard with
  | none=>simp[hgv] at h
  | some b =>
    rw[PG S hgv];simp only[hgv] at h;cases b with
    | true =>
      simp only[if_true] at h ⊢;cases he:inl g (args.map st.ev) st with
      | none=>simp[he] at h
      | some r =>
        obtain⟨x,s'⟩:=r
        simp only[he,Option.map_some,Option.some.injEq] at h;subst h;refine .inl ?_
        obtain⟨⟨fn,aH0,aAB,aAC⟩,VW⟩:=Oq g _ st x s' he
        have hnb:fn.body.isNone=false:=by
         cases hb:fn.body<;>simp[hb] at aAC ⊢
        have Qe : ¬ fn.name = "runtime.NumGoroutine" := by simpa using aAB
        have hn2:¬fn.body=none:=by intro h;simp[h] at hnb
        have qJ:(execOp a.eval o).run P w=.ok (.enter g (c.args.map a.eval)) w:=by
         simp[execOp,qL,resolve,hcal,Act.eval,Deferred.ofValue,invoke,callFunc,aH0,Qe,hn2]
        have gA:lP (ctx h0 w0 ρ st w) (args.map st.ev) (c.args.map a.eval).toList:=by
         rw[← vB];simpa using lP.map c.args.toList _ _ fun p _=>S.ev p
        unfold Oper.wp;rw[qJ,Oper.upon_enter];refine (VW F h0 w0 nt ρ a w (c.args.map a.eval) (fun v w'=>K (a.put o.dst v) w') S gA fun oA w' v S' hv=>?_).mono ?_
        ·exact hK oA _ w' (S'.put o.dst hd hv)
        ·rintro en w' ⟨v,rfl,hk⟩
         exact hk
    | false =>
      simp only[Bool.false_eq_true,if_false,Option.some.injEq] at h ⊢;subst h;exact hK ρ _ w (S.put o.dst hd (.v _))
 ·exact WG S kO hi hd h hK
theorem Zb {ops:Array Oper} (kO:rM P call) (Oq:Za P inl) (lG:∀(j:Nat) o,ops[j]? = some o→∀d,o.dst=some d→d<nt) {Q:Exit→Act→World→Prop} {sf:St}
 (hQ:∀oA a' w',kZ F h0 w0 nt oA sf a' w'→Q .normal a' w'):∀(l:List Oper) (k:Nat) (st:St) (ρ:Nat→Nat→Value) (a:Act) (w:World),(∀(j:Nat) o,l[j]? = some o→ops[k+j]? = some o)→kZ F h0 w0 nt ρ st a w →
  lO P bi call inl ops l st=some sf→wpOps P ops Q (List.range' k l.length) a w
 | [],k,st,ρ,a,w,hl,S,h=>by
   simp only[lO,Option.some.injEq] at h;subst h;exact hQ ρ a w S
 | o :: l,k,st,ρ,a,w,hl,S,h=>by
   rw[List.length_cons,List.range'_succ,wpOps_cons];have hi:ops[k]? = some o:=hl 0 o rfl
   unfold lO at h;cases h1:gJ P bi call inl ops o st with
   | none=>simp[h1,cC] at h
   | some s1 =>
     simp only[h1,cC] at h;exact Tl S kO Oq hi (lG k o hi) h1 fun oA a' w' S'=>Zb kO Oq lG hQ l (k+1) s1 oA a' w' (fun j o' hj=>by
      have:=hl (j+1) o' (by simpa using hj)
      rw[show k+1+j=k+(j+1) by omega];exact this) S' h
noncomputable def Lu (P:Program) (bi:Bool) (call:Nat→List AV→Option AV) (inl:Nat→List AV→St→Option (AV × St)) (ops:Array Oper):List Nat→St→Option St
 | [],st=>some st
 | i :: r,st =>
   match ops[i]? with
   | some o=>cC (gJ P bi call inl ops o st) (Lu P bi call inl ops r)
   | none=>Lu P bi call inl ops r st
theorem Tm {ops:Array Oper}:∀(l:List Oper) (k:Nat) (st:St),(∀j,l[j]? = ops[k+j]?∨l.length≤j)→lO P bi call inl ops l st=Lu P bi call inl ops (List.range' k l.length) st
 | [],k,st,h=>rfl
 | o :: l,k,st,h=>by
   have h0:=(h 0).resolve_right (by simp)
   simp only[List.getElem?_cons_zero,Nat.add_zero] at h0;simp only[lO,List.length_cons,List.range'_succ,Lu,← h0];cases gJ P bi call inl ops o st with
   | none=>rfl
   | some s =>
     simp only[cC];exact Tm l (k+1) s fun j=>by
      rcases h (j+1) with h|h
      ·left
       rw[show k+1+j=k+(j+1) by omega,← h]
       simp
      ·right
       simpa using h
theorem Zc {ops:Array Oper} {o:Oper} {st s:St} {a:Nat} (h:cE P call ops o st=some s) (hd:o.dst≠some a):s.env a=st.env a:=by
 rw[Fb] at h;cases he:sD P call ops o st with
 | none=>simp[he] at h
 | some e =>
   simp only[he,Option.map_some,Option.some.injEq] at h;subst h;rw[oM,(oX he).1,if_neg hd]
theorem aAM {o:Oper} (h:YK o=true):Cj o=none:=by simpa [YK] using h
theorem PI {ops:Array Oper} {o:Oper} (h:YK o=true) (st:St):gJ P bi call inl ops o st=cE P call ops o st:=by
 unfold gJ;rw[aAM h];cases bi<;>rfl
theorem G9 {ops:Array Oper} {o:Oper} {st s:St} {a:Nat} (h:gJ P bi call inl ops o st=some s) (hd:o.dst≠some a):s.env a=st.env a:=by
 unfold gJ at h;have hput:∀(s0:St) (x:AV),(s0.put o.dst x).env a=s0.env a:=fun s0 x=>by
  cases hod:o.dst with
  | none=>rfl
  | some d =>
    simp only[St.put];rw[if_neg];rintro rfl
    exact hd hod
 split at h
 ·split at h
  ·split at h
   ·simp only[Option.map_eq_some_iff] at h;obtain⟨r,_,rfl⟩:=h
    exact hput _ _
   ·simp only[Option.some.injEq] at h;subst h;exact hput _ _
  ·cases h
 ·exact Zc h hd
theorem Ot {ops:Array Oper} {a:Nat}:∀(l:List Nat) {st sf:St},(∀m∈l,∀o,ops[m]? = some o→o.dst≠some a)→Lu P bi call inl ops l st=some sf→sf.env a=st.env a
 | [],st,sf,_,h=>by
   simp only[Lu,Option.some.injEq] at h;subst h;rfl
 | i :: l,st,sf,hd,h=>by
   unfold Lu at h;cases hi:ops[i]? with
   | none=>simp only[hi] at h;exact Ot l (fun m hm=>hd m (by simp[hm])) h
   | some o =>
     simp only[hi] at h;cases h1:gJ P bi call inl ops o st with
     | none=>simp[h1,cC] at h
     | some s1 =>
       simp only[h1,cC] at h;rw[Ot l (fun m hm=>hd m (by simp[hm])) h,G9 h1 (hd i (by simp) o hi)]
def o9 (ops:Array Oper) (sf:St) (rest:List Nat) (k:Nat) (ok oi:Oper):Prop :=
 sV ops ok oi=true∨∃aS bs,gK ok=some aS∧gK oi=some bs∧Oper.apart ops ok oi=true∧Ku sf aS bs ∧
  (∀m∈rest,k≤m→∀o,ops[m]? = some o→∀a∈aS,o.dst≠some a)∧(∀m∈rest,∀o,ops[m]? = some o→∀b∈bs,o.dst≠some b)
theorem Zd {ops:Array Oper} (kO:rM P call) (lG:∀(j:Nat) o,ops[j]? = some o→∀d,o.dst=some d→d<nt) {i:Nat} {oi:Oper} (hi:ops[i]? = some oi) (l2:List Nat):∀(l1:List Nat) (st sf:St),Valid nt st→(l1++i :: l2).Pairwise (· < ·) →
 (∀k∈l1,∃ok,ops[k]? = some ok∧YK ok=true∧YK oi=true∧o9 ops sf (l1++i :: l2) k ok oi)→Lu P bi call inl ops (l1++i :: l2) st=some sf→Lu P bi call inl ops (i :: (l1++l2)) st=some sf
 | [],st,sf,_,_,_,h=>h
 | k :: l1,st,sf,hv,hs,nM,h=>by
   obtain⟨ok,sK,Qe,hn2,hak⟩:=nM k (by simp)
   have e1:=fun st=>PI (P:=P) (bi:=bi) (call:=call) (inl:=inl) (ops:=ops) Qe st
   have e2:=fun st=>PI (P:=P) (bi:=bi) (call:=call) (inl:=inl) (ops:=ops) hn2 st
   simp only[List.cons_append,Lu,sK,e1] at h;cases h1:cE P call ops ok st with
   | none=>simp[h1,cC] at h
   | some s1 =>
     simp only[h1,cC] at h;rw[List.cons_append,List.pairwise_cons] at hs;have ih:=Zd kO lG hi l2 l1 s1 sf (hv.step kO (lG k ok sK) h1) hs.2 (fun k' hk=>by
      obtain⟨ok',h1,m1,m2,h2⟩:=nM k' (by simp[hk])
      refine⟨ok',h1,m1,m2,h2.imp id ?_⟩
      rintro⟨a,a',e1,e2,e3,e4,e5,e6⟩
      exact⟨a,a',e1,e2,e3,e4,fun m hm=>e5 m (by simp only[List.cons_append];exact List.mem_cons_of_mem _ hm),fun m hm=>e6 m (by simp only[List.cons_append];exact List.mem_cons_of_mem _ hm)⟩) h
     have ih0:=ih
     simp only[Lu,hi,e2] at ih;cases h2:cE P call ops oi s1 with
     | none=>simp[h2,cC] at ih
     | some s2 =>
       simp only[h2,cC] at ih;have hcomm:∃s3,cE P call ops oi st=some s3∧cE P call ops ok s3=some s2:=by
        rcases hak with hak|⟨aS,bs,e1',e2',e3,e4,e5,e6⟩
        ·exact aDS hv.hp hak hv.ids h1 h2
        ·have w1:∀m∈i :: (l1++l2),m∈(k :: l1)++i :: l2∧k≤m:=fun m hm=>by
          have hm':m∈l1++i :: l2:=by
           simp only[List.mem_cons,List.mem_append] at hm ⊢;rcases hm with h|h|h
           ·exact .inr (.inl h)
           ·exact .inl h
           ·exact .inr (.inr h)
          exact⟨by simp only[List.cons_append];exact List.mem_cons_of_mem _ hm',Nat.le_of_lt (hs.1 m hm')⟩
         have f1:∀a∈aS,sf.env a=st.env a:=fun a ha=>by
          rw[Ot _ (fun m hm o ho=>e5 m (w1 m hm).1 (w1 m hm).2 o ho a ha) ih0,Zc h1 (e5 k (by simp) (Nat.le_refl _) ok sK a ha)]
         have f2:∀b∈bs,sf.env b=st.env b:=fun b hb=>by
          rw[Ot _ (fun m hm o ho=>e6 m (w1 m hm).1 o ho b hb) ih0,Zc h1 (e6 k (by simp) ok sK b hb)]
         have e4':Ku st aS bs:=fun a ha b hb=>by
          have:=e4 a ha b hb
          rw[f1 a ha,f2 b hb] at this;exact this
         exact aAK hv.ids e1' e2' e3 e4' h1 h2
       obtain⟨s3,h3,h4⟩:=hcomm
       simp only[List.cons_append,Lu,hi,sK,e1,e2,h3,h4,cC];exact ih
theorem Ze {ops:Array Oper} {Q:Exit→Act→World→Prop} (kO:rM P call) (Oq:Za P inl) (lG:∀(j:Nat) o,ops[j]? = some o→∀d,o.dst=some d→d<nt) {dy:List (Nat × Nat)} {b:Array Nat} (D:Dh ops dy b) {sf:St} (hsw:oY ops sf dy)
 (hQ:∀oA a' w',kZ F h0 w0 nt oA sf a' w'→Q .normal a' w'):∀(f:Nat) (l:List Nat) (mC:Array Bool) (st:St) (ρ:Nat→Nat→Value) (a:Act) (w:World),l.length=f→Left ops mC l→kZ F h0 w0 nt ρ st a w →
 Lu P bi call inl ops l st=some sf→wpAny P .any ops Q f mC a w
 | 0,l,mC,st,ρ,a,w,hf,L,S,he=>by
   have hl:=List.length_eq_zero_iff.1 hf
   subst hl;simp only[Lu,Option.some.injEq] at he;subst he;refine⟨?_,hQ ρ a w S⟩
   cases hr:Region.ready .any ops mC with
   | nil=>rfl
   | cons x xs =>
     have hx:x∈Region.ready .any ops mC:=by rw[hr];simp
     obtain⟨h1,o,ho,_⟩:=mem_ready.1 hx
     have:=(L.mem x).2 ⟨(Array.getElem?_eq_some_iff.1 ho).1,h1⟩
     simp at this
 | f+1,l,mC,st,ρ,a,w,hf,L,S,he=>by
   refine⟨fun hr=>?_,fun i hi=>?_⟩
   ·exfalso
    cases l with
    | nil=>simp at hf
    | cons i l =>
      have hil:=(L.mem i).1 (by simp)
      have:i∈Region.ready .any ops mC:=mem_ready.2 ⟨hil.2,ops[i],Array.getElem?_eq_getElem hil.1,fun e Ai hb=>by
       have aZ:=D.lt i _ (Array.getElem?_eq_getElem hil.1) e Ai hb
       cases hle:mC.getD e.on false with
       | true=>rfl
       | false =>
         have hsz:e.on<mC.size:=by rw[L.size];omega
         have hin:=(L.mem e.on).2 ⟨by omega,by rw[FU hsz];exact hle⟩
         rcases List.mem_cons.1 hin with h|h
         ·omega
         ·have:=(List.pairwise_cons.1 L.sorted).1 _ h
          omega⟩
      rw[hr] at this;simp at this
   ·obtain⟨h1,oi,hoi,Kx⟩:=mem_ready.1 hi
    have hilt:i<ops.size:=(Array.getElem?_eq_some_iff.1 hoi).1
    have hil:=(L.mem i).2 ⟨hilt,h1⟩
    obtain⟨l1,l2,rfl⟩:=List.append_of_mem hil
    have hs:=L.sorted
    rw[List.pairwise_append] at hs;obtain⟨s1,s2,s3⟩:=hs
    have hno:∀m,(b.getD i 0).testBit m=true→m ∉ l1++i :: l2:=fun m h hm=>by
     have hkm:=(L.mem m).1 hm
     have:=PH D L i oi hoi Kx m h
     rw[← FU (by rw[L.size];exact hkm.1),hkm.2] at this
     cases this
    have nM:∀k∈l1,∃ok,ops[k]? = some ok∧YK ok=true∧YK oi=true∧o9 ops sf (l1++i :: l2) k ok oi:=fun k hk=>by
     have hki:=s3 k hk i (by simp)
     have hkm:=(L.mem k).1 (by simp[hk])
     refine⟨ops[k],Array.getElem?_eq_getElem hkm.1, ?_⟩
     rcases D.apart k i _ oi hki (Array.getElem?_eq_getElem hkm.1) hoi with h|⟨n1,n2,h|⟨hm,h⟩⟩
     ·exact absurd (by simp[hk]) (hno k h)
     ·exact⟨n1,n2,.inl h⟩
     ·refine⟨n1,n2,.inr ?_⟩
      have hsa:=hsw.mem _ hm
      unfold Kv at hsa;simp only[Array.getElem?_eq_getElem hkm.1,hoi,Option.bind_some] at hsa;unfold GC at h;cases ha:gK ops[k] with
      | none=>rw[ha] at h;cases h
      | some aS =>
        cases ha':gK oi with
        | none=>rw[ha,ha'] at h;cases h
        | some bs =>
          rw[ha,ha'] at hsa h;simp only[Bool.and_eq_true] at h hsa;refine⟨aS,bs,rfl,rfl,h.1.1,hsa,fun m hm hkm' o ho a haa hd=>?_,fun m hm o ho b xG hd=>?_⟩
          ·have hb:=vZ haa _ 0 h.1.2 m o (by simpa using ho) hd
           rw[Nat.zero_add] at hb;have aZ:=D.aH4 k _ (Array.getElem?_eq_getElem hkm.1) m hb
           omega
          ·have hb:=vZ xG _ 0 h.2 m o (by simpa using ho) hd
           rw[Nat.zero_add] at hb;exact hno m hb hm
    have Ai:=Zd kO lG hoi l2 l1 st sf ⟨F,h0,w0,ρ,a,w,S⟩ L.sorted nM he
    simp only[Lu,hoi] at Ai
    cases h2:gJ P bi call inl ops oi st with
    | none=>simp[h2,cC] at Ai
    | some s2' =>
      simp only[h2,cC] at Ai
      refine Tl S kO Oq hoi (lG i oi hoi) h2 fun oA a' w' S'=>?_
      refine Ze kO Oq lG D hsw hQ f (l1++l2) _ s2' oA a' w' (by simp at hf ⊢;omega) ⟨by simp[L.size],fun j=>?_, ?_,fun j o ho hlj e he'' hb=>?_⟩ S' Ai
      ·have hm:=L.mem j
       simp only[List.mem_append,List.mem_cons] at hm ⊢;by_cases hji:j=i
       ·subst hji;have Qe:j ∉ l1:=fun h=>by have:=s3 j h j (by simp);omega
        have hn2:j ∉ l2:=fun h=>by have:=(List.pairwise_cons.1 s2).1 j h;omega
        have hset:(mC.setIfInBounds j true).getD j true=true:=by
         have:j<mC.size:=by rw[L.size];exact hilt
         simp[this]
        simp[Qe,hn2,hset]
       ·rw[getD_set_ne true (Ne.symm hji)];simpa [hji] using hm
      ·rw[List.pairwise_append];exact⟨s1,(List.pairwise_cons.1 s2).2,fun x hx y hy=>s3 x hx y (by simp[hy])⟩
      ·by_cases hji:i=j
       ·subst hji;rw[hoi] at ho;cases ho
        exact getD_set_true (Kx e he'' hb)
       ·rw[getD_set_ne false hji] at hlj;exact getD_set_true (L.closed j o ho hlj e he'' hb)
theorem IP (hm:P.follows .mixedOrders=true) (kO:rM P call) (Oq:Za P inl) {ops:Array Oper} {id:Nat} {draw:Bool} (sK:codeOk bi nt (.region id ops draw)=true) {Q:Exit→Act→World→Prop} {st sf:St} {ρ:Nat→Nat→Value} {a:Act} {w:World}
 (S:kZ F h0 w0 nt ρ st a w) (hsw:bi=true→oY ops sf (Ext.dyn id ops.size (pN ops))) (h:lO P bi call inl ops ops.toList st=some sf) (hQ:∀oA a' w',kZ F h0 w0 nt oA sf a' w'→Q .normal a' w'):(Code.region id ops draw).wp P Q a w:=by
 obtain⟨lG,hdraw⟩:=CJ sK
 cases draw with
 | false =>
   refine wp_region ?_
   rw[List.range_eq_range'];have:=Zb kO Oq lG hQ ops.toList 0 st ρ a w (fun j o hj=>by simpa using hj) S h
   simpa using this
 | true =>
   rw[Tm ops.toList 0 st (fun j=>.inl (by simp))] at h
   obtain⟨b,D⟩:=PF (hdraw rfl)
   refine wp_region_any hm ?_
   have hg:w.grownBy { w with drawn:=w.drawn+1 } none:=⟨rfl,rfl,rfl,Nat.le_refl _,fun _ _ _=>rfl⟩
   have hsw':oY ops sf (if bi=true then Ext.dyn id ops.size (pN ops) else []):=by
    cases bi with
    | true=>exact hsw rfl
    | false=>exact trivial
   refine Ze kO Oq lG D hsw' hQ ops.size (List.range' 0 ops.size) _ st ρ a _ (by simp) ⟨by simp,fun j=>?_, ?_,fun j o ho hl=>?_⟩ (S.grow hg).1 (by simpa using h)
   ·rw[← List.range_eq_range',List.mem_range];constructor
    ·intro hj;exact⟨hj,by simp[hj]⟩
    ·exact fun h=>h.1
   ·rw[← List.range_eq_range'];exact List.pairwise_lt_range
   ·simp[Array.getD_eq_getD_getElem?,Array.getElem?_replicate] at hl
    split at hl<;>simp at hl
theorem Em {p:Nat→Prop} (h:∃n,p n):∃n,p n∧∀m,p m→n≤m:=by
 obtain⟨n,hn⟩:=h
 induction n using Nat.strongRecOn with
 | _ n ih =>
   by_cases hl:∃m,m<n∧p m
   ·obtain⟨m,hm,hp⟩:=hl
    exact ih m hm hp
   ·exact⟨n,hn,fun m hm=>by
     rcases Nat.lt_or_ge m n with h|h
     ·exact absurd ⟨m,h,hm⟩ hl
     ·exact h⟩
noncomputable def Zf (p:Nat→Prop):Nat:=if h:∃n,p n then Classical.choose (Em h) else 0
theorem Tn {p:Nat→Prop} (h:∃n,p n):p (Zf p)∧∀m,p m→Zf p≤m:=by
 unfold Zf;rw[dif_pos h];exact Classical.choose_spec (Em h)
def Ex.to:Ex→Exit
 | .normal=>.normal
 | .exit id=>.exit id
 | .ret=>.ret
theorem pW (hm:P.follows .mixedOrders=true) (kO:rM P call) (Oq:Za P inl) (n:Nat):∀(c:Code) (st sf:St) (ex:Ex) (ρ:Nat→Nat→Value) (a:Act) (w:World) (Q:Exit→Act→World→Prop),codeOk bi nt c=true →
 kZ F h0 w0 nt ρ st a w→uV P bi call inl n c st=some (ex,sf)→(∀oA a' w',kZ F h0 w0 nt oA sf a' w'→Q ex.to a' w')→c.wp P Q a w:=by
 induction n using Nat.strongRecOn with
 | _ n ih =>
 have pW:∀m,m<n→∀(c:Code) (st sf:St) (ex:Ex) (ρ:Nat→Nat→Value) (a:Act) (w:World) (Q:Exit→Act→World→Prop),codeOk bi nt c=true →
  kZ F h0 w0 nt ρ st a w→uV P bi call inl m c st=some (ex,sf)→(∀oA a' w',kZ F h0 w0 nt oA sf a' w'→Q ex.to a' w')→c.wp P Q a w:=ih
 clear ih
 intro c st sf ex ρ a w Q sK S h hQ;cases n with
 | zero=>simp[uV] at h
 | succ n =>
   cases c<;>simp only[uV] at h
   case skip =>
    simp only[Option.some.injEq,Prod.mk.injEq] at h;obtain⟨rfl,rfl⟩:=h
    exact wp_skip (hQ ρ a w S)
   case region id ops draw =>
    cases h1:lO P bi call inl ops ops.toList st with
    | none=>simp[h1,cC] at h
    | some s1 =>
      simp only[h1,cC] at h;split at h
      ·cases h
      ·rename_i hsw;simp only[Option.some.injEq,Prod.mk.injEq] at h;obtain⟨rfl,rfl⟩:=h
       exact IP hm kO Oq sK S (fun hb=>Classical.byContradiction fun hc=>hsw ⟨hb,hc⟩) h1 hQ
   case seq x y =>
    simp only[codeOk,Bool.and_eq_true] at sK;cases h1:uV P bi call inl n x st with
    | none=>simp[h1,cC] at h
    | some r =>
      obtain⟨e1,s1⟩:=r
      simp only[h1,cC] at h;refine wp_seq (pW n (by omega) x st s1 e1 ρ a w _ sK.1 S h1 fun oA a' w' S'=>?_)
      cases e1 with
      | normal=>exact pW n (by omega) y s1 sf ex oA a' w' Q sK.2 S' h hQ
      | exit id =>
        simp only[Option.some.injEq,Prod.mk.injEq] at h;obtain⟨rfl,rfl⟩:=h
        exact hQ oA a' w' S'
      | ret =>
        simp only[Option.some.injEq,Prod.mk.injEq] at h;obtain⟨rfl,rfl⟩:=h
        exact hQ oA a' w' S'
   case cond c x y =>
    simp only[codeOk,Bool.and_eq_true] at sK;split at h
    ·rename_i t ht;have hr:=S.ev c
     rw[ht] at hr;have hv:=iN hr
     refine wp_cond (t:=t) hv ?_
     cases t with
     | true=>exact pW n (by omega) x st sf ex ρ a w Q sK.1 S (by simpa using h) hQ
     | false=>exact pW n (by omega) y st sf ex ρ a w Q sK.2 S (by simpa using h) hQ
    ·cases h
   case block id b =>
    simp only[codeOk] at sK;cases h1:uV P bi call inl n b st with
    | none=>simp[h1,cC] at h
    | some r =>
      obtain⟨e1,s1⟩:=r
      simp only[h1,cC,Option.some.injEq,Prod.mk.injEq] at h;obtain⟨rfl,rfl⟩:=h
      refine wp_block (pW n (by omega) b st s1 e1 ρ a w _ sK S h1 fun oA a' w' S'=>?_)
      have:=hQ oA a' w' S'
      cases e1 with
      | normal=>exact this
      | exit i =>
        simp only[Ex.inBlock] at this;simp only[Ex.to,Exit.inBlock];by_cases hi:i=id
        ·rw[if_pos hi] at this ⊢;exact this
        ·rw[if_neg hi] at this ⊢;exact this
      | ret=>exact this
   case loop b =>
    have hok':=sK
    simp only[codeOk] at sK;let p:Act→World→Nat→Prop:=fun a w m=>m≤n+1∧∃st ρ,kZ F h0 w0 nt ρ st a w∧uV P bi call inl m (.loop b) st=some (ex,sf)
    refine wp_loop (fun a w=>∃m,p a w m) (fun a w=>Zf (p a w)) ⟨n+1,Nat.le_refl _,st,ρ,S,h⟩ fun a w hI=>?_
    obtain⟨⟨hle,st1,ρ1,S1,h1⟩,_⟩:=Tn hI
    generalize Zf (p a w)=m at h1 hle
    cases m with
    | zero=>simp[uV] at h1
    | succ m =>
      simp only[uV] at h1;cases h2:uV P bi call inl m b st1 with
      | none=>simp[h2,cC] at h1
      | some r =>
        obtain⟨e1,s1⟩:=r
        simp only[h2,cC] at h1;have hmn:m≤n:=by omega
        refine pW m (by omega) b st1 s1 e1 ρ1 a w _ sK S1 h2 fun oA a' w' S'=>?_
        cases e1 with
        | normal =>
          have hp:p a' w' m:=⟨by omega,s1,oA,S',h1⟩
          exact⟨⟨m,hp⟩,Nat.lt_succ_of_le ((Tn ⟨m,hp⟩).2 m hp)⟩
        | exit id =>
          simp only[Option.some.injEq,Prod.mk.injEq] at h1;obtain⟨rfl,rfl⟩:=h1
          exact hQ oA a' w' S'
        | ret =>
          simp only[Option.some.injEq,Prod.mk.injEq] at h1;obtain⟨rfl,rfl⟩:=h1
          exact hQ oA a' w' S'
   case exit id =>
    simp only[Option.some.injEq,Prod.mk.injEq] at h;obtain⟨rfl,rfl⟩:=h
    exact wp_exit (hQ ρ a w S)
   case ret =>
    simp only[Option.some.injEq,Prod.mk.injEq] at h;obtain⟨rfl,rfl⟩:=h
    exact wp_ret (hQ ρ a w S)
   all_goals cases h
end
end Go.Ab
end
section
namespace Go.Ab
open Classical
variable [Ext]
section
variable {P:Program}
theorem PJ {h0:Nat→Obj→Prop} {w w':World}:(bare (De h0 w w')).Le (bare (newHs h0 w w' [])) :=
 ⟨fun b o h=>⟨h.1,h.2,by simp⟩,fun _=>Nat.le_refl _,fun _ _ h=>absurd h (by simp[bare])⟩
def zX (tmps:Array Value):ResultVar→Sem Value
 | .tmp t=>pure (tmps.getD t undef)
 | .cell p t=>do loadVar t (← asAddr (tmps.getD p undef))
theorem IQ {h0:Nat→Obj→Prop} {w0:World} {F:Gp} {nt:Nat} {ρ:Nat→Nat→Value} {st:St} {a:Act} {w:World} (S:kZ F h0 w0 nt ρ st a w) {rv:ResultVar} {x:AV} (h:iI P st rv=some x) :
 ∃y,(zX a.tmps rv).run P w=.ok y w∧cV (ctx h0 w0 ρ st w) x y:=by
 cases rv with
 | tmp t =>
   simp only[iI,Option.some.injEq] at h;subst h;exact⟨_,rfl,S.env t⟩
 | cell p T =>
   simp only[iI] at h;cases hra:qQ st (st.env p) with
   | none=>simp[hra,cC] at h
   | some cs =>
     simp only[hra,cC] at h;obtain⟨b,off,arr,B,fr,hu,_,_⟩:=My S hra (S.env p)
     obtain⟨r,hr,gA⟩:=We S hra h (S.env p)
     rw[hu] at hr;refine⟨r, ?_,gA⟩
     simp only[Instr.loadAt,Instr.sureAddr] at hr;simp only[zX,hu,asAddr];exact hr
theorem mD {h0:Nat→Obj→Prop} {w0:World} {F:Gp} {nt:Nat} {ρ:Nat→Nat→Value} {st:St} {a:Act} {w:World} (S:kZ F h0 w0 nt ρ st a w):∀(rs:List ResultVar) (xs:List AV),rs.map (iI P st)=xs.map some →
 ∃ys,(rs.mapM (zX a.tmps)).run P w=.ok ys w∧lP (ctx h0 w0 ρ st w) xs ys
 | [],xs,h=>by
   cases xs with
   | nil=>exact⟨[],rfl,.nil _⟩
   | cons x xs=>simp at h
 | r :: rs,xs,h=>by
   cases xs with
   | nil=>simp at h
   | cons x xs =>
     simp only[List.map_cons,List.cons.injEq] at h;obtain⟨y,hy,gA⟩:=IQ S h.1
     obtain⟨ys,Ug,hrels⟩:=mD S rs xs h.2
     refine⟨y :: ys, ?_,.cons gA hrels⟩
     rw[List.mapM_cons,dJ hy,dJ Ug];rfl
theorem IS {h0:Nat→Obj→Prop} {w0:World} {F:Gp} {nt:Nat} {ρ:Nat→Nat→Value} {st:St} {a:Act} {w:World} (S:kZ F h0 w0 nt ρ st a w) {fn:Func} {r:AV} (h:sU P fn st=some r) :
 ∃v,(results fn a.tmps).run P w=.ok v w∧OS h0 w0 w r v:=by
 have PK:∀(ys:List Value),(fn.results.toList.mapM (zX a.tmps)).run P w=.ok ys w →
  (results fn a.tmps).run P w=.ok (if h:ys.toArray.size=1 then ys.toArray[0] else .tuple ys.toArray) w:=by
  intro ys Ug;have e:results fn a.tmps=(do let vs ← fn.results.mapM (zX a.tmps);pure (if h:vs.size=1 then vs[0] else .tuple vs)):=by
   unfold results;congr 1
  rw[e,Array.mapM_eq_mapM_toList];simp only[Sem.run_bind,Sem.run_map,Ug,Result.andThen_ok,Sem.run_pure]
 unfold sU at h;split at h
 ·rename_i r1 N6;cases h1:iI P st r1 with
  | none=>simp[h1,cC] at h
  | some x =>
    simp only[h1,cC] at h;obtain⟨ys,Ug,gA⟩:=mD (P:=P) S [r1] [x] (by simp[h1])
    have hlen:=gA.len
    obtain⟨y,rfl⟩:∃y,ys=[y]:=by
     cases ys with
     | nil=>simp at hlen
     | cons y ys=>cases ys with
       | nil=>exact⟨y,rfl⟩
       | cons z zs=>simp at hlen
    have hxy:=gA.head
    have qJ:=PK [y] (by rw[N6];exact Ug)
    simp at qJ
    refine⟨y,qJ, ?_⟩
    unfold Gm at h;split at h
    ·rename_i s g;split at h
     ·rename_i e sz n cs he;split at h
      ·rename_i hf;simp only[Option.some.injEq] at h;subst h;obtain⟨_,_,xs,ho,hc⟩:=S.sX s g _ he
       cases hxy with
       | own _ _ hg DT =>
         refine⟨[ρ s g],fun x hx=>by simp at hx;subst hx;exact DT,fun i j x y b hi hj _ _=>by
          have:=(List.getElem?_eq_some_iff.1 hi).1
          have:=(List.getElem?_eq_some_iff.1 hj).1
          simp only[List.length_singleton] at *
          omega,fun x hx b hb=>by simp at hx;subst hx;exact (Cl ho b hb).1,fun d c=>rfl,fun D d c hD lE=>?_⟩
         obtain⟨k1,k2⟩:=lE 0 _ rfl
         simp only[Nat.add_zero] at k1 k2;refine⟨?_,fun i e' x hi hx=>?_⟩
         ·have:=cV.own (C:=D) d c k1 (by rw[k2];exact DT)
          rw[k2] at this;exact this
         ·match i with
          | 0 =>
            simp only[SP,Tu,xZ,List.getElem?_cons_zero,Option.some.injEq] at hi hx;subst hi;subst hx;exact⟨xs,ho,hc.flat hf fun b o hb=>hD b o ⟨hb.1,hb.2.1,by simpa using hb.2.2 s g _ he⟩⟩
          | i+1=>simp at hx
      ·cases h
     ·cases h
    ·exact FN (Jf h) ((Ls S hxy h).le PJ)
 ·rename_i rs gT;simp only[Option.map_eq_some_iff] at h;obtain⟨ds,Rj,rfl⟩:=h
  have hm:=jH _ _ Rj
  have hex:∃xs:List AV,fn.results.toList.map (iI P st)=xs.map some∧xs.map (yY st)=ds.map some:=by
   generalize fn.results.toList=l at hm
   clear Rj
   induction l generalizing ds with
   | nil=>cases ds with
     | nil=>exact⟨[],rfl,rfl⟩
     | cons d ds=>simp at hm
   | cons r l ih=>cases ds with
     | nil=>simp at hm
     | cons d ds =>
       simp only[List.map_cons,List.cons.injEq] at hm;obtain⟨xs,e1,e2⟩:=ih ds hm.2
       cases hr:iI P st r with
       | none=>simp[hr,cC] at hm
       | some x =>
         simp only[hr,cC] at hm;exact⟨x :: xs,by simp[hr,e1],by simp[hm.1,e2]⟩
  obtain⟨xs,e1,e2⟩:=hex
  obtain⟨ys,Ug,gA⟩:=mD S _ xs e1
  have Qd:xs.length=fn.results.toList.length:=by have:=congrArg List.length e1;simpa using this.symm
  have A0:ds.length=xs.length:=by have:=congrArg List.length e2;simpa using this.symm
  have aAN:ys.toArray.size≠1:=by
   intro h1;have hlen:=gA.len
   simp only[List.size_toArray] at h1;have:fn.results.toList.length=1:=by omega
   obtain⟨z,hz⟩:=List.length_eq_one_iff.1 this
   exact gT z hz
  have qJ:=PK ys Ug
  rw[dif_neg aAN] at qJ;refine⟨_,qJ, ?_⟩
  refine FN (.dZ ds (pL (p:=Flat) (f:=fun r=>cC (iI P st r) (yY st)) (fun a b h=>by
   cases hr:iI P st a with
   | none=>simp[hr,cC] at h
   | some x=>simp only[hr,cC] at h;exact VS h) _ _ Rj)) (.dZ ds ys.toArray (by simp;rw[A0];exact gA.len) fun i x y hx hy=>?_)
  have hi:i<xs.length:=by have:=(List.getElem?_eq_some_iff.1 hx).1;omega
  have Iz:yY st xs[i]=some x:=by
   have:=congrArg (·[i]?) e2
   simp only[List.getElem?_map,hx,List.getElem?_eq_getElem hi,Option.map_some,Option.some.injEq] at this;exact this
  exact (OW S (gA.rel i xs[i] y (by simp[hi]) (by simpa using hy)) Iz).le PJ
def p4 (w0:World) (ρ:Nat→Nat→Value) (st:St) (w:World) (d:Nat) (H:Nat→Obj→Prop) (f:Nat→AV→AV × List jI) (y:AV) (ks:List (Nat × Nat)) (u:Value):Prop :=
 (∀k∈ks,∃e,st.heap k.1 k.2=some e)∧∀c,(f c y).2.length=ks.length∧∀D:Ctx,(∀b o,H b o→D.h b o)→(∀(i:Nat) (k:Nat × Nat),ks[i]? = some k→c+i<D.aO d∧D.ρ d (c+i)=ρ k.1 k.2) →
  cV D (f c y).1 u∧∀(i:Nat) (e:jI) (k:Nat × Nat),(f c y).2[i]? = some e→ks[i]? = some k→nK D w w0.heap.size (ρ k.1 k.2) e
section qP
variable {h0:Nat→Obj→Prop} {w0:World} {F:Gp} {nt:Nat} {ρ:Nat→Nat→Value} {st:St} {a:Act} {w:World} {H:Nat→Obj→Prop}
theorem aAO (S:kZ F h0 w0 nt ρ st a w) (hH:∀b o,(ctx h0 w0 ρ st w).h b o→H b o) {x y:AV} {u:Value} (hu:cV (ctx h0 w0 ρ st w) x u) (h:jW st x=some y) (d:Nat):p4 w0 ρ st w d H (xZ d) y (gF x) u:=by
 unfold jW at h;split at h
 ·rename_i hf;simp only[Option.some.injEq] at h;subst h;have hk:gF x=[]:=by cases hf<;>rfl
  rw[hk];refine⟨by simp,fun c=>?_⟩
  rw[Je hf];exact⟨rfl,fun D hD _=>⟨hu.flat hf fun b o hb=>hD _ _ (hH _ _ hb),by simp⟩⟩
 ·split at h
  ·rename_i s g _;split at h
   ·rename_i e sz n cs he;split at h
    ·rename_i hf;simp only[Option.some.injEq] at h;subst h;obtain⟨_,h1,xs,ho,hc⟩:=S.sX s g _ he
     have hu':u=ρ s g:=by cases hu;rfl
     subst hu'
     refine⟨by simp[gF];exact⟨_,he⟩,fun c=>⟨rfl,fun D hD lE=>?_⟩⟩
     obtain⟨k1,k2⟩:=lE 0 (s,g) rfl
     simp only[Nat.add_zero] at k1 k2;refine⟨?_,fun i e' k hi hk=>?_⟩
     ·have:=cV.own (C:=D) d c k1 (by rw[k2];exact h1)
      rw[k2] at this;exact this
     ·match i with
      | 0 =>
        simp only[xZ,gF,List.getElem?_cons_zero,Option.some.injEq] at hi hk;subst hi;subst hk;exact⟨xs,ho,hc.flat hf fun b o hb=>hD _ _ (hH _ _ hb)⟩
      | i+1=>simp[gF] at hk
    ·cases h
   ·cases h
  ·cases h
theorem aAP {f:Nat→AV→AV × List jI} {kf:AV→List (Nat × Nat)} {d:Nat}:∀(xs ys:List AV) (us:List Value),xs.length=ys.length→xs.length=us.length →
 (∀(i:Nat) (x y:AV) (u:Value),xs[i]? = some x→ys[i]? = some y→us[i]? = some u→p4 w0 ρ st w d H f y (kf x) u) →
 (∀k∈xs.flatMap kf,∃e,st.heap k.1 k.2=some e)∧∀c,(pY f c ys).2.length=(xs.flatMap kf).length∧∀D:Ctx,(∀b o,H b o→D.h b o) →
  (∀(i:Nat) (k:Nat × Nat),(xs.flatMap kf)[i]? = some k→c+i<D.aO d∧D.ρ d (c+i)=ρ k.1 k.2) →
  lP D (pY f c ys).1 us∧∀(i:Nat) (e:jI) (k:Nat × Nat),(pY f c ys).2[i]? = some e→(xs.flatMap kf)[i]? = some k→nK D w w0.heap.size (ρ k.1 k.2) e
 | [],ys,us,h1,h2,_=>by
   have e1:ys=[]:=List.length_eq_zero_iff.1 (by simpa using h1.symm)
   have e2:us=[]:=List.length_eq_zero_iff.1 (by simpa using h2.symm)
   subst e1;subst e2;exact⟨by simp,fun c=>⟨rfl,fun D _ _=>⟨.nil _,by simp[pY]⟩⟩⟩
 | x :: xs,[],us,h1,_,_=>by simp at h1
 | x :: xs,y :: ys,[],_,h2,_=>by simp at h2
 | x :: xs,y :: ys,u :: us,h1,h2,hg=>by
   obtain⟨g1,g2⟩:=hg 0 x y u rfl rfl rfl
   obtain⟨i1,i2⟩:=aAP xs ys us (by simpa using h1) (by simpa using h2) fun i x' y' u' hx hy hu=>hg (i+1) x' y' u' (by simpa using hx) (by simpa using hy) (by simpa using hu)
   refine⟨fun k hk=>?_,fun c=>?_⟩
   ·simp only[List.flatMap_cons,List.mem_append] at hk;rcases hk with hk|hk
    ·exact g1 k hk
    ·exact i1 k hk
   ·obtain⟨l1,m1⟩:=g2 c
    obtain⟨l2,m2⟩:=i2 (c+(f c y).2.length)
    rw[l1] at l2 m2;simp only[pY,List.flatMap_cons,List.length_append,l1];refine⟨by rw[l2],fun D hD lE=>?_⟩
    obtain⟨r1,e1⟩:=m1 D hD fun i k hk=>lE i k (by rw[List.getElem?_append_left (List.getElem?_eq_some_iff.1 hk).1];exact hk)
    obtain⟨r2,e2⟩:=m2 D hD fun i k hk=>by
     have:=lE ((kf x).length+i) k (by rw[List.getElem?_append_right (by omega)];simpa using hk)
     rw[Nat.add_assoc];exact this
    refine⟨.cons r1 r2,fun i e k hi hk=>?_⟩
    by_cases aZ:i<(kf x).length
    ·rw[List.getElem?_append_left (by rw[l1];exact aZ)] at hi
     rw[List.getElem?_append_left aZ] at hk;exact e1 i e k hi hk
    ·rw[List.getElem?_append_right (by rw[l1];omega),l1] at hi
     rw[List.getElem?_append_right (by omega)] at hk
     exact e2 _ e k hi hk
theorem Zg {α β:Type} {f:α→Option β} {l:List α} {r:List β} (h:bP (l.map f)=some r):l.length=r.length∧∀(i:Nat) x y,l[i]? = some x→r[i]? = some y→f x=some y:=by
 have hm:=jH _ _ h
 have hl:l.length=r.length:=by have:=congrArg List.length hm;simpa using this
 refine⟨hl,fun i x y hx hy=>?_⟩
 have:=congrArg (·[i]?) hm
 simp only[List.getElem?_map,hx,hy,Option.map_some,Option.some.injEq] at this;exact this
theorem aGo (S:kZ F h0 w0 nt ρ st a w) (hH:∀b o,(ctx h0 w0 ρ st w).h b o→H b o) {x y:AV} {u:Value} (hu:cV (ctx h0 w0 ρ st w) x u) (h:pZ st x=some y) (d:Nat):p4 w0 ρ st w d H (Tu d) y (iW x) u:=by
 cases x
 case agg cs =>
  simp only[pZ,Option.map_eq_some_iff] at h;obtain⟨ds,Rj,rfl⟩:=h
  obtain⟨hl,G2⟩:=Zg Rj
  cases hu with
  | agg _ ar hla hr h1 =>
    obtain⟨g1,g2⟩:=aAP (w0:=w0) (ρ:=ρ) (st:=st) (w:=w) (H:=H) (f:=xZ d) (kf:=gF) (d:=d) cs ds ar.toList hl (by simpa using hla) fun i x y v hx hy hv=>aAO S hH (hr i x v hx (by simpa using hv)) (G2 i x y hx hy) d
    refine⟨g1,fun c=>?_⟩
    obtain⟨l1,m1⟩:=g2 c
    refine⟨l1,fun D hD lE=>?_⟩
    obtain⟨r1,e1⟩:=m1 D hD lE
    exact⟨.agg _ ar (by simpa using r1.len) (fun i x y hx hy=>r1.rel i x y hx (by simpa using hy)) h1,e1⟩
 all_goals
  have g:=aAO S hH hu h d
  cases y<;>first|exact g|skip
  all_goals
   exfalso
   simp only[pZ] at h;unfold jW at h;split at h
   ·simp at h
   ·simp at h
    try (split at h<;>(try split at h)<;>simp at h)
theorem aGp (S:kZ F h0 w0 nt ρ st a w) (hH:∀b o,(ctx h0 w0 ρ st w).h b o→H b o) {x y:AV} {u:Value} (hu:cV (ctx h0 w0 ρ st w) x u) (h:xR st x=some y) (d:Nat):p4 w0 ρ st w d H (SP d) y (jK x) u:=by
 cases x
 case dZ cs =>
  simp only[xR,Option.map_eq_some_iff] at h;obtain⟨ds,Rj,rfl⟩:=h
  obtain⟨hl,G2⟩:=Zg Rj
  cases hu with
  | dZ _ ar hla hr =>
    obtain⟨g1,g2⟩:=aAP (w0:=w0) (ρ:=ρ) (st:=st) (w:=w) (H:=H) (f:=Tu d) (kf:=iW) (d:=d) cs ds ar.toList hl (by simpa using hla) fun i x y v hx hy hv=>aGo S hH (hr i x v hx (by simpa using hv)) (G2 i x y hx hy) d
    refine⟨g1,fun c=>?_⟩
    obtain⟨l1,m1⟩:=g2 c
    refine⟨l1,fun D hD lE=>?_⟩
    obtain⟨r1,e1⟩:=m1 D hD lE
    exact⟨.dZ _ ar (by simpa using r1.len) (fun i x y hx hy=>r1.rel i x y hx (by simpa using hy)),e1⟩
 case agg cs =>
  have g:=aGo S hH hu h d
  cases y<;>first|exact g|(simp only[xR,pZ,Option.map_eq_some_iff] at h;obtain⟨_,_,h⟩:=h;cases h)
 all_goals
  have g:=aAO S hH hu h d
  cases y<;>first|exact g|skip
  all_goals
   exfalso
   simp only[xR,pZ] at h;unfold jW at h;split at h
   ·simp at h
   ·simp at h
    try (split at h<;>(try split at h)<;>simp at h)
theorem To (S:kZ F h0 w0 nt ρ st a w) {x r:AV} {u:Value} (hu:cV (ctx h0 w0 ρ st w) x u) (hn:(jK x).Nodup) (h:xR st x=some r):OS h0 w0 w r u:=by
 have hH:∀b o,(ctx h0 w0 ρ st w).h b o→newHs h0 w0 w ((jK x).map fun k=>ρ k.1 k.2) b o:=fun b o hb=>by
  have g:=(aGp (H:=(ctx h0 w0 ρ st w).h) S (fun _ _ h=>h) hu h 0).1
  refine⟨hb.1,hb.2.1,fun y hy=>?_⟩
  obtain⟨k,hk,rfl⟩:=List.mem_map.1 hy
  obtain⟨e,he⟩:=g k hk
  exact hb.2.2 _ _ e he
 have g:=fun d=>aGp S hH hu h d
 have key:∀y∈(jK x).map (fun k=>ρ k.1 k.2),∃k e,k∈jK x∧y=ρ k.1 k.2∧st.heap k.1 k.2=some e:=fun y hy=>by
  obtain⟨k,hk,rfl⟩:=List.mem_map.1 hy
  obtain⟨e,he⟩:=(g 0).1 k hk
  exact⟨k,e,hk,rfl,he⟩
 refine⟨(jK x).map fun k=>ρ k.1 k.2,fun y hy=>?_,fun i j y z b hy hz hb nX=>?_,fun y hy b hb=>?_,fun d c=>by rw[((g d).2 c).1];simp,fun D d c hD lE=>?_⟩
 ·obtain⟨k,e,_,rfl,he⟩:=key y hy
  exact (S.sX _ _ e he).2.1
 ·rw[List.getElem?_map] at hy hz;cases hi:(jK x)[i]? with
  | none=>simp[hi] at hy
  | some k=>cases hj:(jK x)[j]? with
    | none=>simp[hj] at hz
    | some k' =>
      simp only[hi,hj,Option.map_some,Option.some.injEq] at hy hz;subst hy;subst hz;obtain⟨e,he⟩:=(g 0).1 k (List.mem_of_getElem? hi)
      obtain⟨e',Ai⟩:=(g 0).1 k' (List.mem_of_getElem? hj)
      obtain⟨q1,q2⟩:=S.inj _ _ _ _ e e' b he Ai hb nX
      have hkk:k=k':=Prod.ext q1 q2
      subst hkk;obtain⟨hil,Bu⟩:=List.getElem?_eq_some_iff.1 hi
      obtain⟨hjl,hje⟩:=List.getElem?_eq_some_iff.1 hj
      have hp:=List.pairwise_iff_getElem.1 hn
      rcases Nat.lt_trichotomy i j with aZ|heq|aZ
      ·exact absurd (Bu.trans hje.symm) (hp i j hil hjl aZ)
      ·exact heq
      ·exact absurd (hje.trans Bu.symm) (hp j i hjl hil aZ)
 ·obtain⟨k,e,_,rfl,he⟩:=key y hy
  exact ((S.sX _ _ e he).2.2.SQ b hb).1
 ·obtain⟨r1,e1⟩:=((g d).2 c).2 D hD fun i k hk=>lE i _ (by rw[List.getElem?_map,hk];rfl)
  refine⟨r1,fun i e y hi hy=>?_⟩
  rw[List.getElem?_map] at hy;cases hk:(jK x)[i]? with
  | none=>simp[hk] at hy
  | some k =>
    simp only[hk,Option.map_some,Option.some.injEq] at hy;subst hy;exact e1 i e k hi hk
end qP
theorem CK {h0:Nat→Obj→Prop} {w0:World} {F:Gp} {nt:Nat} {ρ:Nat→Nat→Value} {st:St} {a:Act} {w:World} (S:kZ F h0 w0 nt ρ st a w) {fn:Func} {r:AV} (h:Ea P fn st=some r) :
 ∃v,(results fn a.tmps).run P w=.ok v w∧OS h0 w0 w r v:=by
 have PK:∀(ys:List Value),(fn.results.toList.mapM (zX a.tmps)).run P w=.ok ys w →
  (results fn a.tmps).run P w=.ok (if h:ys.toArray.size=1 then ys.toArray[0] else .tuple ys.toArray) w:=by
  intro ys Ug;have e:results fn a.tmps=(do let vs ← fn.results.mapM (zX a.tmps);pure (if h:vs.size=1 then vs[0] else .tuple vs)):=by
   unfold results;congr 1
  rw[e,Array.mapM_eq_mapM_toList];simp only[Sem.run_bind,Sem.run_map,Ug,Result.andThen_ok,Sem.run_pure]
 unfold Ea at h;split at h
 ·rename_i r1 N6;cases h1:iI P st r1 with
  | none=>simp[h1,cC] at h
  | some x =>
    simp only[h1,cC] at h;split at h
    ·rename_i hn;obtain⟨ys,Ug,gA⟩:=mD (P:=P) S [r1] [x] (by simp[h1])
     have hlen:=gA.len
     obtain⟨y,rfl⟩:∃y,ys=[y]:=by
      cases ys with
      | nil=>simp at hlen
      | cons y ys=>cases ys with
        | nil=>exact⟨y,rfl⟩
        | cons z zs=>simp at hlen
     have qJ:=PK [y] (by rw[N6];exact Ug)
     simp at qJ
     exact⟨y,qJ,To S gA.head hn h⟩
    ·cases h
 ·rename_i rs gT;cases HY:bP (fn.results.toList.map fun r=>iI P st r) with
  | none=>simp[HY,cC] at h
  | some xs =>
    simp only[HY,cC] at h;split at h
    ·rename_i hn;have e1:=jH _ _ HY
     obtain⟨ys,Ug,gA⟩:=mD S _ xs e1
     have Qd:xs.length=fn.results.toList.length:=by have:=congrArg List.length e1;simpa using this.symm
     have aAN:ys.toArray.size≠1:=by
      intro h1;have hlen:=gA.len
      simp only[List.size_toArray] at h1;have:fn.results.toList.length=1:=by omega
      obtain⟨z,hz⟩:=List.length_eq_one_iff.1 this
      exact gT z hz
     have qJ:=PK ys Ug
     rw[dif_neg aAN] at qJ;exact⟨_,qJ,To S (.dZ xs ys.toArray (by simpa using gA.len) fun i x y hx hy=>gA.rel i x y hx (by simpa using hy)) hn h⟩
    ·cases h
theorem CL {h0:Nat→Obj→Prop} {w0:World} {F:Gp} {nt:Nat} {ρ:Nat→Nat→Value} {st:St} {a:Act} {w:World} (S:kZ F h0 w0 nt ρ st a w) {f:Nat} {fn:Func} {r:AV} (h:jA P f fn st=some r) :
 ∃v,(results fn a.tmps).run P w=.ok v w∧OS h0 w0 w r v:=by
 unfold jA at h;split at h
 ·exact CK S h
 ·exact IS S h
theorem aAQ {h0:Nat→Obj→Prop} {w:World} {xs:List AV} {vs:Array Value} {nt:Nat} (hh:∀b o,h0 b o→w.heap[b]? = some o) (gA:lP (bare h0) xs vs.toList) :
 kZ Gp.none h0 w nt (fun _ _=>undef) (St.init xs) { tmps:=vs++Array.replicate (nt-vs.size) undef,defers:=[]} w:=by
 have k:(bare h0).Le (ctx h0 w (fun _ _=>undef) (St.init xs) w):=⟨fun b o h=>⟨hh b o h,fun _=>h,fun s g e he=>by simp[St.init] at he⟩,fun _=>Nat.le_refl _,fun _ _ h=>absurd h (by simp[bare])⟩
 refine⟨fun t=>?_,fun s g e he=>by simp[St.init] at he,fun s g s' g' e e' b he=>by simp[St.init] at he,⟨rfl,rfl,rfl,Nat.le_refl _,fun _ _ _=>rfl⟩,by simp;omega,rfl,⟨fun x v h=>h.elim,fun b o h=>h.elim,Nat.zero_le _⟩⟩
 have hlen:=gA.len
 simp only[Array.length_toList] at hlen;show cV _ ((xs[t]?).getD (.v undef)) _
 by_cases ht:t<vs.size
 ·have hx:xs[t]? = some (xs[t]'(by omega)):=by simp[show t<xs.length by omega]
  have hy:vs.toList[t]? = some vs[t]:=by simp[ht]
  have:=(gA.rel t _ _ hx hy).le k
  rw[hx];simp only[Option.getD_some];have e:(vs++Array.replicate (nt-vs.size) undef).getD t undef=vs[t]:=by
   simp[Array.getElem?_append_left ht,ht]
  rw[e];exact this
 ·have hx:xs[t]? = none:=List.getElem?_eq_none (by omega)
  rw[hx];have e:(vs++Array.replicate (nt-vs.size) undef).getD t undef=undef:=by
   rw[Array.getD_eq_getD_getElem?,Array.getElem?_append_right (by omega),Array.getElem?_replicate]
   split<;>rfl
  rw[e];exact .v _
def FH (P:Program):Prop:=rM P Ext.ext
theorem aDU {h0:Nat→Obj→Prop} {w0:World} {F:Gp} {nt:Nat} {ρ:Nat→Nat→Value} {st:St} {a:Act} {w:World} (S:kZ F h0 w0 nt ρ st a w) {xs:List AV} {vs:Array Value} {n:Nat} (gA:lP (ctx h0 w0 ρ st w) xs vs.toList) :
 kZ ⟨fun x v=>F.fr x v∨∃t,x=st.env t∧v=a.tmps.getD t undef,F.hb,F.sz⟩ h0 w0 n ρ ((St.init xs).back st) { tmps:=vs++Array.replicate (n-vs.size) undef,defers:=[]} w:=by
 have hc:ctx h0 w0 ρ ((St.init xs).back st) w=ctx h0 w0 ρ st w:=rfl
 refine⟨fun t=>?_,fun s g e he=>?_,fun s g s' g' e e' b he Ai=>S.inj s g s' g' e e' b he Ai,S.ext,by simp;omega,rfl,⟨fun x v h=>?_,S.Mn.2.1,S.Mn.2.2⟩⟩
 ·have hlen:=gA.len
  simp only[Array.length_toList] at hlen;show cV _ ((xs[t]?).getD (.v undef)) _
  by_cases ht:t<vs.size
  ·have hx:xs[t]? = some (xs[t]'(by omega)):=by simp[show t<xs.length by omega]
   have hy:vs.toList[t]? = some vs[t]:=by simp[ht]
   have:=gA.rel t _ _ hx hy
   rw[hx];simp only[Option.getD_some];have e:(vs++Array.replicate (n-vs.size) undef).getD t undef=vs[t]:=by
    simp[Array.getElem?_append_left ht,ht]
   rw[e];exact this
  ·have hx:xs[t]? = none:=List.getElem?_eq_none (by omega)
   rw[hx];have e:(vs++Array.replicate (n-vs.size) undef).getD t undef=undef:=by
    rw[Array.getD_eq_getD_getElem?,Array.getElem?_append_right (by omega),Array.getElem?_replicate]
    split<;>rfl
   rw[e];exact .v _
 ·exact S.sX s g e he
 ·rcases h with h|⟨t,rfl,rfl⟩
  ·exact S.Mn.1 x v h
  ·exact S.env t
theorem CM {h0:Nat→Obj→Prop} {w0:World} {F:Gp} {nt:Nat} {ρ:Nat→Nat→Value} {st:St} {a:Act} {w:World} (S:kZ F h0 w0 nt ρ st a w) {fn:Func} {r:AV} (h:sW P fn st=some r) :
 ∃v,(results fn a.tmps).run P w=.ok v w∧cV (ctx h0 w0 ρ st w) r v:=by
 have PK:∀(ys:List Value),(fn.results.toList.mapM (zX a.tmps)).run P w=.ok ys w →
  (results fn a.tmps).run P w=.ok (if h:ys.toArray.size=1 then ys.toArray[0] else .tuple ys.toArray) w:=by
  intro ys Ug;have e:results fn a.tmps=(do let vs ← fn.results.mapM (zX a.tmps);pure (if h:vs.size=1 then vs[0] else .tuple vs)):=by
   unfold results;congr 1
  rw[e,Array.mapM_eq_mapM_toList];simp only[Sem.run_bind,Sem.run_map,Ug,Result.andThen_ok,Sem.run_pure]
 unfold sW at h;split at h
 ·rename_i r1 N6;obtain⟨ys,Ug,gA⟩:=mD (P:=P) S [r1] [r] (by simp[h])
  have hlen:=gA.len
  obtain⟨y,rfl⟩:∃y,ys=[y]:=by
   cases ys with
   | nil=>simp at hlen
   | cons y ys=>cases ys with
     | nil=>exact⟨y,rfl⟩
     | cons z zs=>simp at hlen
  have qJ:=PK [y] (by rw[N6];exact Ug)
  simp at qJ
  exact⟨y,qJ,gA.head⟩
 ·rename_i rs gT;cases HY:bP (fn.results.toList.map fun r=>iI P st r) with
  | none=>simp[HY] at h
  | some xs =>
    simp only[HY,Option.map_some,Option.some.injEq] at h;subst h;have e1:=jH _ _ HY
    obtain⟨ys,Ug,gA⟩:=mD S _ xs e1
    have Qd:xs.length=fn.results.toList.length:=by have:=congrArg List.length e1;simpa using this.symm
    have aAN:ys.toArray.size≠1:=by
     intro h1;have hlen:=gA.len
     simp only[List.size_toArray] at h1;have:fn.results.toList.length=1:=by omega
     obtain⟨z,hz⟩:=List.length_eq_one_iff.1 this
     exact gT z hz
    have qJ:=PK ys Ug
    rw[dif_neg aAN] at qJ;exact⟨_,qJ,.dZ xs ys.toArray (by simpa using gA.len) fun i x y hx hy=>gA.rel i x y hx (by simpa using hy)⟩
theorem CN {xs:List AV} {u:Nat × Nat × Nat × List AV × List AV} (h:pO xs=some u):xs=.uniq u.1 u.2.1 u.2.2.1 u.2.2.2.1 :: u.2.2.2.2:=by
 unfold pO at h;split at h
 ·simp only[Option.some.injEq] at h;subst h;rfl
 ·cases h
theorem H0 {h0:Nat→Obj→Prop} {w:World} {v0:Value} {e sz m:Nat} {cs xs:List AV} {ys:List Value} {vs:Array Value} {nt:Nat} (hh:∀b o,h0 b o→w.heap[b]? = some o) (gT:∀b o,h0 b o→dF v0≠some b) (ho:oC w 0 e sz v0 m ys) (hc:gB (bare h0) cs ys) (gA:lP (bare h0) xs vs.toList) :
 kZ ⟨fun _ _=>False,fun b o=>w.heap[b]? = some o∧dF v0≠some b,w.heap.size⟩ h0 { w with heap:=#[]} nt (fun s g=>if s=0∧g=0 then v0 else undef) (St.oB e sz m cs xs) { tmps:=(#[v0]++vs)++Array.replicate (nt-(#[v0]++vs).size) undef,defers:=[]} w:=by
 have zW:∀s g e',(St.oB e sz m cs xs).heap s g=some e'→s=0∧g=0∧e'=.row e sz m cs:=fun s g e' h=>by
  simp only[St.oB] at h;split at h
  ·rename_i h1;cases h;exact⟨h1.1,h1.2,rfl⟩
  ·cases h
 have k:(bare h0).Le (ctx h0 { w with heap:=#[]} (fun s g=>if s=0∧g=0 then v0 else undef) (St.oB e sz m cs xs) w) :=
  ⟨fun b o h=>⟨hh b o h,fun aZ=>by simp at aZ,fun s g e' he=>by
   obtain⟨rfl,rfl,_⟩:=zW _ _ _ he
   exact gT b o h⟩,fun _=>Nat.zero_le _,fun _ _ h=>absurd h (by simp[bare])⟩
 refine⟨fun t=>?_,fun s g e' he=>?_,fun s g s' g' e1 e2 b he Ai _ _=>?_,⟨rfl,rfl,rfl,Nat.zero_le _,fun b hb _=>by simp at hb⟩,by simp;omega,rfl,⟨fun x v h=>h.elim,fun b o h=>⟨h.1,fun aZ=>by simp at aZ,fun s g e' he=>?_⟩,Nat.le_refl _⟩⟩
 ·have hlen:=gA.len
  simp only[Array.length_toList] at hlen;cases t with
  | zero =>
    have e0:((#[v0]++vs)++Array.replicate (nt-(#[v0]++vs).size) undef).getD 0 undef=v0:=by
     simp[Array.getElem?_append]
    rw[e0];have:=cV.own (C:=ctx h0 { w with heap:=#[]} (fun s g=>if s=0∧g=0 then v0 else undef) (St.oB e sz m cs xs) w) 0 0 (by show 0<(St.oB e sz m cs xs).aO 0;simp[St.oB]) (by show (if (0:Nat)=0∧(0:Nat)=0 then v0 else undef).oneCell'=true;simp;exact tP ho)
    have e1:(ctx h0 { w with heap:=#[]} (fun s g=>if s=0∧g=0 then v0 else undef) (St.oB e sz m cs xs) w).ρ 0 0=v0:=by show (if (0:Nat)=0∧(0:Nat)=0 then v0 else undef)=v0;simp
    rw[e1] at this;exact this
  | succ t =>
    show cV _ ((xs[t]?).getD (.v undef)) _
    by_cases ht:t<vs.size
    ·have hx:xs[t]? = some (xs[t]'(by omega)):=by simp[show t<xs.length by omega]
     have hy:vs.toList[t]? = some vs[t]:=by simp[ht]
     have:=(gA.rel t _ _ hx hy).le k
     rw[hx];simp only[Option.getD_some];have e2:((#[v0]++vs)++Array.replicate (nt-(#[v0]++vs).size) undef).getD (t+1) undef=vs[t]:=by
      rw[Array.getD_eq_getD_getElem?,Array.getElem?_append_left (by simp;omega),Array.getElem?_append_right (by simp)]
      simp[ht]
     rw[e2];exact this
    ·have hx:xs[t]? = none:=List.getElem?_eq_none (by omega)
     rw[hx];have e2:((#[v0]++vs)++Array.replicate (nt-(#[v0]++vs).size) undef).getD (t+1) undef=undef:=by
      rw[Array.getD_eq_getD_getElem?,Array.getElem?_append_right (by simp;omega),Array.getElem?_replicate]
      split<;>rfl
     rw[e2];exact .v _
 ·obtain⟨rfl,rfl,rfl⟩:=zW _ _ _ he
  refine⟨by simp[St.oB],by simp;exact tP ho, ?_⟩
  simp only[and_self,if_true];exact⟨ys,ho,hc.le k⟩
 ·obtain⟨rfl,rfl,_⟩:=zW _ _ _ he
  obtain⟨rfl,rfl,_⟩:=zW _ _ _ Ai
  exact⟨rfl,rfl⟩
 ·obtain⟨rfl,rfl,_⟩:=zW _ _ _ he
  exact h.2
theorem aDV (hm:P.follows .mixedOrders=true) {call:Nat→List AV→Option AV} {inl:Nat→List AV→St→Option (AV × St)} (kO:rM P call) (Oq:Za P inl) {n g:Nat} {xs:List AV} {u:Nat × Nat × Nat × List AV × List AV} (hq:pO xs=some u) {r:AV}
 (h:runM P call inl n g u.1 u.2.1 u.2.2.1 u.2.2.2.1 u.2.2.2.2=some r):Hq P g∧Ho P g xs r:=by
 have HY:=CN hq
 subst HY;obtain⟨e,sz,m,cs,rest⟩:=u
 simp only at h ⊢
 unfold runM at h;cases hf:P.funcs[g]? with
 | none=>simp[hf] at h
 | some fn =>
   simp only[hf] at h;split at h
   ·rename_i sK;cases hb:fn.body with
    | none=>simp[hb] at h
    | some c =>
      simp only[hb] at h;simp only[tX,Vx,hb,Bool.and_eq_true,bne_iff_ne,ne_eq] at sK;refine⟨⟨fn,hf,by simpa using sK.1,by simp[hb]⟩, ?_⟩
      show VQ P g e sz m cs rest r
      intro w h0 v0 ys vs hh gT ho Bv gA;cases h1:uV P (lI c) call inl n c (St.oB e sz m cs rest) with
      | none=>simp[h1,cC] at h
      | some es =>
        obtain⟨ex,sf⟩:=es
        simp only[h1,cC] at h;refine calls_of_wp hf hb ?_
        refine pW hm kO Oq n c (St.oB e sz m cs rest) sf ex _ _ w _ sK.2 (H0 hh gT ho Bv gA) h1 fun oA a' w' S'=>?_
        have fin:wJ P fn sf=some r→∃e' sL n' Ar,r=.uniq e' sL n' Ar∧a'.defers=[]∧∃v',(results fn a'.tmps).run P w'=.ok v' w'∧w.grownBy w' (dF v0) ∧
         ∃zs,oC w' 0 e' sL v' n' zs∧gB (bare h0) Ar zs∧∀b,dF v'=some b→dF v0=some b∨w.heap.size≤b:=fun h=>by
         unfold wJ at h;split at h
         ·rename_i r1 N6;split at h
          ·rename_i s k hrv;split at h
           ·rename_i e' sL n' Ar hhp
            split at h
            ·rename_i hmf;simp only[Option.some.injEq] at h;subst h;obtain⟨y,hy,Oi⟩:=mD (P:=P) S' [r1] [.own s k] (by simp[hrv])
             have hlen:=Oi.len
             obtain⟨z,rfl⟩:∃z,y=[z]:=by
              cases y with
              | nil=>simp at hlen
              | cons y ys=>cases ys with
                | nil=>exact⟨y,rfl⟩
                | cons z zs=>simp at hlen
             have hz:z=oA s k:=by
              have:=Oi.head
              cases this
              rfl
             subst hz;have qJ:(results fn a'.tmps).run P w'=.ok (oA s k) w':=by
              have e1:results fn a'.tmps=(do let vs ← fn.results.mapM (zX a'.tmps);pure (if h:vs.size=1 then vs[0] else .tuple vs)):=by
               unfold results;congr 1
              rw[e1,Array.mapM_eq_mapM_toList,N6];simp only[Sem.run_bind,Sem.run_map,hy,Result.andThen_ok,Sem.run_pure];simp
             obtain⟨_,_,zs,hzo,hzc⟩:=S'.sX s k _ hhp
             obtain⟨_,hkb,hsz⟩:=S'.Mn
             refine⟨e',sL,n',Ar,rfl,S'.defers,_,qJ,⟨S'.ext.os,S'.ext.tape,S'.ext.output,hsz,fun b hb hnb=>?_⟩,zs, ?_, ?_,fun b hb=>?_⟩
             ·have OU:w.heap[b]? = some w.heap[b]:=Array.getElem?_eq_getElem hb
              rw[OU];exact (hkb b _ ⟨OU,fun h=>hnb h.symm⟩).1
             ·exact zB hzo (Nat.zero_le _)
             ·exact⟨hzc.len,fun i x y hx hy=>(hzc.rel i x y hx hy).Og (hmf x (List.mem_of_getElem? hx)),hzc.one⟩
             ·by_cases h1:dF v0=some b
              ·exact .inl h1
              ·right
               rcases Nat.lt_or_ge b w.heap.size with aZ|hge
               ·exfalso
                have OU:w.heap[b]? = some w.heap[b]:=Array.getElem?_eq_getElem aZ
                exact (hkb b _ ⟨OU,h1⟩).2.2 s k _ hhp hb
               ·exact hge
            ·cases h
           ·cases h
          ·rename_i s k n0 hrv;split at h
           ·rename_i e' sL n' Ar hhp
            split at h
            ·rename_i hmf;obtain⟨Dv,hcl',hmf⟩:=hmf
             simp only[Option.some.injEq] at h;subst h;obtain⟨y,hy,Oi⟩:=mD (P:=P) S' [r1] [.vw s k 0 n0] (by simp[hrv])
             have hlen:=Oi.len
             obtain⟨z,rfl⟩:∃z,y=[z]:=by
              cases y with
              | nil=>simp at hlen
              | cons y ys=>cases ys with
                | nil=>exact⟨y,rfl⟩
                | cons z zs=>simp at hlen
             obtain⟨_,_,zs,hzo,hzc⟩:=S'.sX s k _ hhp
             obtain⟨_,hkb,hsz⟩:=S'.Mn
             have hz:∃b cap cur,z=.slice (some ⟨b,0,none⟩) n0 cap∧dF (oA s k)=some b∧w'.heap[b]? = some (.cells cur e' (0,0))∧n0≤cap∧cap≤maxLen∧cur.size=cap * sL∧cur.toList.take (n' * sL)=zs∧0<cap:=by
              have hv:=Oi.head
              cases hv with
              | vw _ _ _ _ b cap hg hb nA zA =>
                have nX:dF (oA s k)=some b:=hb
                rcases hzo.2 with ⟨q,lE,hn⟩|⟨b',BK,cur,lE,xA,hh,G3,F7,HX,ht,qS⟩
                ·rw[lE,pV] at nX;cases nX
                ·have xG:b'=b:=by rw[lE,kK qS] at nX;simpa using nX
                 subst xG;have hcc:cap=BK:=zA rfl _ _ _ lE
                 subst hcc;exact⟨b',cap,cur,rfl,nX,hh,nA,F7,HX,ht,qS⟩
             obtain⟨b,cap,cur,rfl,hbk,hhb,nA,F7,HX,ht,qS⟩:=hz
             have qJ:(results fn a'.tmps).run P w'=.ok (.slice (some ⟨b,0,none⟩) n0 cap) w':=by
              have e1:results fn a'.tmps=(do let vs ← fn.results.mapM (zX a'.tmps);pure (if h:vs.size=1 then vs[0] else .tuple vs)):=by
               unfold results;congr 1
              rw[e1,Array.mapM_eq_mapM_toList,N6];simp only[Sem.run_bind,Sem.run_map,hy,Result.andThen_ok,Sem.run_pure];simp
             have hks:n0 * sL≤n' * sL:=Nat.mul_le_mul_right _ Dv
             refine⟨e',sL,n0,_,rfl,S'.defers,_,qJ,⟨S'.ext.os,S'.ext.tape,S'.ext.output,hsz,fun b hb hnb=>?_⟩,zs.take (n0 * sL), ?_, ?_,fun b1 TC=>?_⟩
             ·have OU:w.heap[b]? = some w.heap[b]:=Array.getElem?_eq_getElem hb
              rw[OU];exact (hkb b _ ⟨OU,fun h=>hnb h.symm⟩).1
             ·refine⟨by rw[List.length_take,hzo.1];omega,.inr ⟨b,cap,cur,rfl,Nat.zero_le _,hhb,nA,F7,HX, ?_,qS⟩⟩
              rw[← ht,List.take_take,Nat.min_eq_left hks]
             ·have hz2:gB (bare h0) Ar zs:=⟨hzc.len,fun i x y hx hy=>(hzc.rel i x y hx hy).Og (hmf x (List.mem_of_getElem? hx)),hzc.one⟩
              exact hz2.take _
             ·rw[kK qS] at TC;simp only[Option.some.injEq] at TC;subst TC;by_cases h1:dF v0=some b
              ·exact .inl h1
              ·right
               rcases Nat.lt_or_ge b w.heap.size with aZ|hge
               ·exfalso
                have OU:w.heap[b]? = some w.heap[b]:=Array.getElem?_eq_getElem aZ
                exact (hkb b _ ⟨OU,h1⟩).2.2 s k _ hhp hbk
               ·exact hge
            ·cases h
           ·cases h
          ·cases h
         ·cases h
        cases ex with
        | normal=>obtain⟨e',sL,n',Ar,rfl,h1,v',h2,h3,h4⟩:=fin h;exact⟨h1,v',h2,v',rfl,h3,h4⟩
        | ret=>obtain⟨e',sL,n',Ar,rfl,h1,v',h2,h3,h4⟩:=fin h;exact⟨h1,v',h2,v',rfl,h3,h4⟩
        | exit id=>cases h
   ·cases h
theorem p5 (hm:P.follows .mixedOrders=true) (hx:FH P):∀n,rM P (Mm P n)∧Za P (Vy P n)
 | 0=>⟨fun g xs r h=>hx g xs r h,fun g xs st r s' h=>by cases h⟩
 | n+1=>by
   obtain⟨ihc,ihi⟩:=p5 hm hx n
   refine⟨fun g xs r h=>?_,fun g xs st r s' h=>?_⟩
   ·rw[yZ] at h;split at h
    ·rename_i r' he
     simp only[Option.some.injEq] at h;subst h;exact hx g xs _ he
    ·cases hq:pO xs with
     | some u =>
       simp only[hq] at h;exact aDV hm ihc ihi hq h
     | none =>
     simp only[hq] at h;split at h
     ·cases h
     rename_i hnu;unfold w8 at h;cases hf:P.funcs[g]? with
     | none=>simp[hf] at h
     | some fn =>
       simp only[hf] at h;split at h
       ·rename_i sK;cases hb:fn.body with
        | none=>simp[hb] at h
        | some c =>
          simp only[hb] at h;simp only[tX,Vx,hb,Bool.and_eq_true,bne_iff_ne,ne_eq] at sK;have hX:HS P g xs r→Ho P g xs r:=fun h=>by
           unfold Ho;split
           ·simp[sI] at hnu
           ·exact h
          refine⟨⟨fn,hf,by simpa using sK.1,by simp[hb]⟩,hX fun w h0 vs hh gA=>?_⟩
          cases h1:uV P (lI c) (Mm P n) (Vy P n) n c (St.init xs) with
          | none=>simp[h1,cC] at h
          | some es =>
            obtain⟨ex,sf⟩:=es
            simp only[h1,cC] at h;refine calls_of_wp hf hb ?_
            refine pW hm ihc ihi n c (St.init xs) sf ex _ _ w _ sK.2 (aAQ hh gA) h1 fun oA a' w' S'=>?_
            have fin:jA P g fn sf=some r→a'.defers=[]∧∃v,(results fn a'.tmps).run P w'=.ok v w'∧∃v',Ending.returned v=.returned v'∧OS h0 w w' r v'∧w.grownBy w' none:=fun h=>by
             obtain⟨v,hv,hr⟩:=CL S' h
             exact⟨S'.defers,v,hv,v,rfl,hr,S'.ext⟩
            cases ex with
            | normal=>exact fin h
            | ret=>exact fin h
            | exit id=>cases h
       ·cases h
   ·rw[Mu] at h;unfold y7 at h;cases hf:P.funcs[g]? with
    | none=>simp[hf] at h
    | some fn =>
      simp only[hf] at h;split at h
      ·rename_i sK;cases hb:fn.body with
       | none=>simp[hb] at h
       | some c =>
         simp only[hb] at h;simp only[Vx,hb,Bool.and_eq_true,bne_iff_ne,ne_eq] at sK;refine⟨⟨fn,hf,by simpa using sK.1,by simp[hb]⟩,fun F h0 w0 nt ρ a w vs K S gA hK=>?_⟩
         cases h1:uV P true (Mm P n) (Vy P n) n c ((St.init xs).back st) with
         | none=>simp[h1,cC] at h
         | some es =>
           obtain⟨ex,sf⟩:=es
           simp only[h1,cC] at h;refine calls_of_wp hf hb ?_
           refine pW (F:=⟨fun x v=>F.fr x v∨∃t,x=st.env t∧v=a.tmps.getD t undef,F.hb,F.sz⟩) hm ihc ihi n c ((St.init xs).back st) sf ex _ _ w _ sK.2 (aDU S gA) h1 fun oA a' w' S'=>?_
           have fin:((sW P fn sf).map fun x=>(x,sf))=some (r,s')→a'.defers=[]∧∃v,(results fn a'.tmps).run P w'=.ok v w'∧∃v',Ending.returned v=.returned v'∧K v' w':=fun h=>by
            cases hfi:sW P fn sf with
            | none=>simp[hfi] at h
            | some x =>
              simp only[hfi,Option.map_some,Option.some.injEq,Prod.mk.injEq] at h;obtain⟨rfl,rfl⟩:=h
              obtain⟨v,hv,hr⟩:=CM S' hfi
              refine⟨S'.defers,v,hv,v,rfl,hK oA w' v ?_ hr⟩
              exact⟨fun t=>S'.Mn.1 _ _ (.inr ⟨t,rfl,rfl⟩),fun s g e he=>S'.sX s g e he,fun s g s2 g' e e' b he Ai=>S'.inj s g s2 g' e e' b he Ai,S'.ext,S.size,S.defers,⟨fun x v h=>S'.Mn.1 x v (.inl h),S'.Mn.2.1,S'.Mn.2.2⟩⟩
           cases ex with
           | normal=>exact fin h
           | ret=>exact fin h
           | exit id=>cases h
      ·cases h
theorem aH5 (hm:P.follows .mixedOrders=true) (hx:FH P) (n:Nat):rM P (Mm P n):=(p5 hm hx n).1
end
end Go.Ab
end
section
namespace Go.Ab
open Classical
variable [Ext]
noncomputable def mL {α:Type} (g:Nat→Option α):Option α:=if h:∃n r,g n=some r then some (Classical.choose (Classical.choose_spec h)) else none
theorem Vs {α:Type} {g:Nat→Option α} (hm:∀n r,g n=some r→g (n+1)=some r) {n m:Nat} (h:n≤m) {r:α} (hr:g n=some r):g m=some r:=by
 induction m with
 | zero=>have:n=0:=by omega
         subst this;exact hr
 | succ m ih =>
   rcases Nat.lt_or_ge m n with h'|h'
   ·have:n=m+1:=by omega
    subst this;exact hr
   ·exact hm m r (ih h')
theorem IT {α:Type} {g:Nat→Option α} (hm:∀n r,g n=some r→g (n+1)=some r) (r:α):mL g=some r↔∃n,g n=some r:=by
 unfold mL;constructor
 ·intro h;split at h
  ·rename_i hh;simp only[Option.some.injEq] at h;exact⟨Classical.choose hh,by rw[← h];exact Classical.choose_spec (Classical.choose_spec hh)⟩
  ·cases h
 ·rintro⟨n,hn⟩
  have hh:∃n r,g n=some r:=⟨n,r,hn⟩
  rw[dif_pos hh];have h2:=Classical.choose_spec (Classical.choose_spec hh)
  congr 1
  rcases Nat.le_total n (Classical.choose hh) with hle|hle
  ·have:=Vs hm hle hn
   rw[h2] at this;exact Option.some.inj this
  ·have:=Vs hm hle h2
   rw[hn] at this;exact (Option.some.inj this).symm
theorem fQ {α β:Type} {x:Option α} {f:α→Option β} {r:β}:cC x f=some r↔∃a,x=some a∧f a=some r:=by
 cases x<;>simp[cC]
def Zh (i i':Nat→List AV→St→Option (AV × St)):Prop:=∀g xs st r,i g xs st=some r→i' g xs st=some r
def wC (c c':Nat→List AV→Option AV):Prop:=∀g xs r,c g xs=some r→c' g xs=some r
section
variable (P:Program) {c c':Nat→List AV→Option AV} {i i':Nat→List AV→St→Option (AV × St)} {bi:Bool}
theorem Zi {α β:Type} {x y:Option α} {f:α→Option β} {r:β} (h:∀a,x=some a→y=some a) (hx:cC x f=some r):cC y f=some r:=by
 cases Iz:x with
 | none=>simp[Iz,cC] at hx
 | some a=>rw[h a Iz];rw[Iz] at hx;exact hx
theorem Bk (h:wC c c') {g:Nat} {args:List AV} {st:St} {dst:Option Nat} {e:mT} (he:aN c g args st dst=some e):aN c' g args st dst=some e:=by
 unfold aN at *
 split at he
 ·rename_i hf;rw[if_pos hf];exact Zi (h g args) he
 ·rename_i hf;rw[if_neg hf];split at he
  ·rename_i xs HY;exact Zi (h g xs) he
  ·cases he
theorem PL (h:wC c c') {g:Nat} {args:List AV} {st:St} {dst:Option Nat} {e:mT} (he:jV c g args st dst=some e):jV c' g args st dst=some e:=by
 unfold jV at *
 split at he
 ·split at he
  ·rename_i e0 sz n cs hh;split at he
   ·rename_i hc;rename_i rest _;simp only[hh,if_pos hc];cases hr:c g (.uniq e0 sz n cs :: rest) with
    | none=>simp[hr] at he
    | some r=>rw[h _ _ _ hr];rw[hr] at he;exact he
   ·cases he
  ·cases he
 ·split at he
  ·rename_i hc;rw[if_pos hc];exact Bk h he
  ·cases he
theorem IU (h:wC c c') {g:Nat} {args:List AV} {st:St} {dst:Option Nat} {e:mT} (he:fC c g args st dst=some e):fC c' g args st dst=some e:=by
 unfold fC at *
 split at he
 ·rename_i s k hk;split at he
  ·rename_i sK;rw[if_pos sK];split at he
   ·rename_i xs HY;exact Zi (h g xs) he
   ·cases he
  ·cases he
 ·rename_i hk;exact Bk h he
theorem IV (h:wC c c') {f:Operand} {args:List AV} {st:St} {dst:Option Nat} {e:mT} (he:mQ c f args st dst=some e):mQ c' f args st dst=some e:=by
 cases f
 case func g =>
  simp only[mQ] at *
  by_cases hm:Ext.mv g=true
  ·rw[if_pos hm] at *
   exact PL h he
  ·rw[if_neg hm] at *
   by_cases ZJ:Ext.eat g dst=true
   ·rw[if_pos ZJ] at *
    exact IU h he
   ·rw[if_neg ZJ] at *
    exact Bk h he
 all_goals
  simp only[mQ] at *
  split at he
  ·exact Bk h he
  ·cases he
theorem WI (h:wC c c') {o:Oper} {st:St} {e:mT} (he:cZ P c o st=some e):cZ P c' o st=some e:=by
 obtain⟨dst,op,type,pos,after,guard⟩:=o
 cases op
 case call cl =>
  simp only[cZ] at *
  unfold gP at *
  split at he
  ·exact IV h he
  all_goals exact he
 case makeMap T r=>cases r<;>exact he
 all_goals exact he
theorem H2 (h:wC c c') {ops:Array Oper} {o:Oper} {st s:St} (he:cE P c ops o st=some s):cE P c' ops o st=some s:=by
 unfold cE at *
 split at he
 ·split at he
  ·rename_i b hg hb;rw[if_pos hb];cases h1:cZ P c o st with
   | none=>simp[h1] at he
   | some e=>rw[WI P h h1];rw[h1] at he;exact he
  ·rename_i b hg hb;rw[if_neg hb];exact he
 ·cases he
theorem Zj (h:wC c c') (hi:Zh i i') {ops:Array Oper} {o:Oper} {st s:St} (he:gJ P bi c i ops o st=some s):gJ P bi c' i' ops o st=some s:=by
 unfold gJ at he ⊢
 cases hg:(if bi=true then Cj o else none) with
 | none =>
   simp only[hg] at he ⊢;exact H2 P h he
 | some ga =>
   obtain⟨g,args⟩:=ga
   simp only[hg] at he ⊢;cases hgv:gv ops st o.guard with
   | none=>simp[hgv] at he
   | some t =>
     simp only[hgv] at he ⊢;cases t with
     | false=>exact he
     | true =>
       simp only[if_true] at he ⊢;cases h1:i g (args.map st.ev) st with
       | none=>simp[h1] at he
       | some r=>rw[hi _ _ _ _ h1];rw[h1] at he;exact he
theorem Bl (h:wC c c') (hi:Zh i i') {ops:Array Oper}:∀(l:List Oper) {st s:St},lO P bi c i ops l st=some s→lO P bi c' i' ops l st=some s
 | [],st,s,he=>he
 | o :: l,st,s,he=>by
   simp only[lO] at *
   obtain⟨s1,h1,h2⟩:=fQ.1 he
   exact fQ.2 ⟨s1,Zj P h hi h1,Bl h hi l h2⟩
theorem oO (h:wC c c') (hi:Zh i i'):∀(n m:Nat),n≤m→∀(x:Code) (st:St) (r:Ex × St),uV P bi c i n x st=some r→uV P bi c' i' m x st=some r
 | 0,_,_,_,_,_,he=>by simp[uV] at he
 | n+1,0,hle,_,_,_,_=>by omega
 | n+1,m+1,hle,x,st,r,he=>by
   have ih:=oO h hi n m (by omega)
   cases x<;>simp only[uV] at he ⊢<;>(try exact he)
   case region id ops draw =>
    obtain⟨s1,h1,h2⟩:=fQ.1 he
    exact fQ.2 ⟨s1,Bl P h hi _ h1,h2⟩
   case seq a b =>
    obtain⟨⟨e1,s1⟩,h1,h2⟩:=fQ.1 he
    refine fQ.2 ⟨(e1,s1),ih _ _ _ h1, ?_⟩
    cases e1 with
    | normal=>exact ih _ _ _ h2
    | _=>exact h2
   case cond cc a b =>
    split at he
    ·split at he
     ·rename_i hb;rw[if_pos hb];exact ih _ _ _ he
     ·rename_i hb;rw[if_neg hb];exact ih _ _ _ he
    ·cases he
   case block id b =>
    obtain⟨r1,h1,h2⟩:=fQ.1 he
    exact fQ.2 ⟨r1,ih _ _ _ h1,h2⟩
   case loop b =>
    obtain⟨⟨e1,s1⟩,h1,h2⟩:=fQ.1 he
    refine fQ.2 ⟨(e1,s1),ih _ _ _ h1, ?_⟩
    cases e1 with
    | normal=>exact ih _ _ _ h2
    | _=>exact h2
theorem Rq:∀n,wC (Mm P n) (Mm P (n+1))∧Zh (Vy P n) (Vy P (n+1))
 | 0=>⟨fun g xs r h=>by
   rw[Vz] at h;rw[yZ,h],fun g xs st r h=>by cases h⟩
 | n+1=>by
   obtain⟨ih,ii⟩:=Rq n
   refine⟨fun g xs r h=>?_,fun g xs st r h=>?_⟩
   ·rw[yZ] at h ⊢;cases he:Ext.ext g xs with
    | some r'=>rw[he] at h;exact h
    | none =>
      simp only[he] at h;simp only
      cases hq:pO xs with
      | some u =>
        simp only[hq] at h;simp only
        unfold runM at h ⊢
        split at h
        ·split at h
         ·rename_i sK;rw[if_pos sK];split at h
          ·obtain⟨r1,h1,h2⟩:=fQ.1 h
           exact fQ.2 ⟨r1,oO P ih ii n (n+1) (by omega) _ _ _ h1,h2⟩
          ·cases h
         ·cases h
        ·cases h
      | none =>
        simp only[hq] at h;simp only
        by_cases hu:xs.any sI=true
        ·rw[if_pos hu] at h;cases h
        ·rw[if_neg hu] at h ⊢;unfold w8 at h ⊢
         split at h
         ·split at h
          ·rename_i sK;rw[if_pos sK];split at h
           ·obtain⟨r1,h1,h2⟩:=fQ.1 h
            exact fQ.2 ⟨r1,oO P ih ii n (n+1) (by omega) _ _ _ h1,h2⟩
           ·cases h
          ·cases h
         ·cases h
   ·rw[Mu] at h ⊢;unfold y7 at h ⊢
    split at h
    ·split at h
     ·rename_i sK;rw[if_pos sK];split at h
      ·obtain⟨r1,h1,h2⟩:=fQ.1 h
       exact fQ.2 ⟨r1,oO P ih ii n (n+1) (by omega) _ _ _ h1,h2⟩
      ·cases h
     ·cases h
    ·cases h
theorem Zk (n:Nat):wC (Mm P n) (Mm P (n+1)):=(Rq P n).1
theorem Zl (n:Nat):Zh (Vy P n) (Vy P (n+1)):=(Rq P n).2
theorem Cd {n m:Nat} (h:n≤m):wC (Mm P n) (Mm P m):=fun g xs r hr =>
 Vs (g:=fun n=>Mm P n g xs) (fun n r=>Zk P n g xs r) h hr
theorem Ce {n m:Nat} (h:n≤m):Zh (Vy P n) (Vy P m):=fun g xs st r hr =>
 Vs (g:=fun n=>Vy P n g xs st) (fun n r=>Zl P n g xs st r) h hr
noncomputable def aD (f:Nat) (xs:List AV):Option AV:=mL fun n=>Mm P n f xs
noncomputable def wY (f:Nat) (xs:List AV) (st:St):Option (AV × St):=mL fun n=>Vy P n f xs st
noncomputable def wL (bi:Bool) (x:Code) (st:St):Option (Ex × St):=mL fun n=>uV P bi (Mm P n) (Vy P n) n x st
theorem yW {f:Nat} {xs:List AV} {r:AV}:aD P f xs=some r↔∃n,Mm P n f xs=some r:=IT (fun n r=>Zk P n f xs r) r
theorem Zm {f:Nat} {xs:List AV} {st:St} {r:AV × St}:wY P f xs st=some r↔∃n,Vy P n f xs st=some r:=IT (fun n r=>Zl P n f xs st r) r
theorem gM {x:Code} {st:St} {r:Ex × St}:wL P bi x st=some r↔∃n m,uV P bi (Mm P n) (Vy P n) m x st=some r:=by
 unfold wL;rw[IT (fun n r=>oO P (Zk P n) (Zl P n) n (n+1) (by omega) x st r)]
 constructor
 ·rintro⟨n,h⟩;exact⟨n,n,h⟩
 ·rintro⟨n,m,h⟩
  exact⟨max n m,oO P (Cd P (Nat.le_max_left n m)) (Ce P (Nat.le_max_left n m)) m _ (Nat.le_max_right n m) x st r h⟩
theorem VM (hm:P.follows .mixedOrders=true) (hx:FH P) {f:Nat} {xs:List AV} {r:AV} (h:aD P f xs=some r):Ho P f xs r:=by
 obtain⟨n,hn⟩:=(yW P).1 h
 exact (aH5 hm hx n f xs r hn).2
theorem aDW (n:Nat):Zh (Vy P n) (wY P):=fun g xs st r h=>(Zm P).2 ⟨n,h⟩
theorem aAR (n:Nat):wC (Mm P n) (aD P):=fun g xs r h=>(yW P).2 ⟨n,h⟩
theorem IW {β:Type} {g:Nat} {xs:List AV} {f:AV→Option β} {r:β} (h:cC (aD P g xs) f=some r):∃n,cC (Mm P n g xs) f=some r:=by
 obtain⟨a,h1,h2⟩:=fQ.1 h
 obtain⟨n,hn⟩:=(yW P).1 h1
 exact⟨n,fQ.2 ⟨a,hn,h2⟩⟩
theorem Fc {g:Nat} {args:List AV} {st:St} {dst:Option Nat} {e:mT} (h:aN (aD P) g args st dst=some e):∃n,aN (Mm P n) g args st dst=some e:=by
 unfold aN at h ⊢
 split at h
 ·rename_i hf;obtain⟨n,hn⟩:=IW P h
  exact⟨n,by rw[if_pos hf];exact hn⟩
 ·rename_i hf;split at h
  ·rename_i xs HY;obtain⟨n,hn⟩:=IW P h
   exact⟨n,by rw[if_neg hf];exact hn⟩
  ·cases h
theorem WJ {g:Nat} {args:List AV} {st:St} {dst:Option Nat} {e:mT} (h:jV (aD P) g args st dst=some e):∃n,jV (Mm P n) g args st dst=some e:=by
 unfold jV at h ⊢
 split at h
 ·rename_i s k rest;split at h
  ·rename_i e0 sz n cs hh;split at h
   ·rename_i hc;simp only[hh,if_pos hc];cases hr:aD P g (.uniq e0 sz n cs :: rest) with
    | none=>simp[hr] at h
    | some r =>
      obtain⟨m,hm⟩:=(yW P).1 hr
      exact⟨m,by rw[hm];rw[hr] at h;exact h⟩
   ·cases h
  ·cases h
 ·split at h
  ·rename_i hc;simp only[if_pos hc];exact Fc P h
  ·cases h
theorem PM {g:Nat} {args:List AV} {st:St} {dst:Option Nat} {e:mT} (h:fC (aD P) g args st dst=some e):∃n,fC (Mm P n) g args st dst=some e:=by
 unfold fC at h ⊢
 split at h
 ·rename_i s k hk;split at h
  ·rename_i sK;simp only[if_pos sK];split at h
   ·rename_i xs HY;exact IW P h
   ·cases h
  ·cases h
 ·rename_i hk;obtain⟨n,hn⟩:=Fc P h
  exact⟨n,hn⟩
theorem H3 {o:Oper} {st:St} {e:mT} (h:cZ P (aD P) o st=some e):∃n,cZ P (Mm P n) o st=some e:=by
 obtain⟨dst,op,type,pos,after,guard⟩:=o
 cases op
 case call cl =>
  simp only[cZ] at *
  unfold gP at *
  split at h
  ·unfold mQ at h ⊢
   split at h
   ·split at h
    ·rename_i hm;obtain⟨n,hn⟩:=WJ P h
     exact⟨n,by simp only[hm,if_true];exact hn⟩
    ·rename_i hm;split at h
     ·rename_i ZJ;obtain⟨n,hn⟩:=PM P h
      exact⟨n,by rw[if_neg hm,if_pos ZJ];exact hn⟩
     ·rename_i ZJ;obtain⟨n,hn⟩:=Fc P h
      exact⟨n,by rw[if_neg hm,if_neg ZJ];exact hn⟩
   ·split at h
    ·exact Fc P h
    ·cases h
  all_goals exact⟨0,h⟩
 case makeMap T r=>cases r<;>exact⟨0,h⟩
 all_goals exact⟨0,h⟩
theorem aAS {ops:Array Oper} {o:Oper} {st s:St} (h:cE P (aD P) ops o st=some s):∃n,cE P (Mm P n) ops o st=some s:=by
 unfold cE at *
 split at h
 ·split at h
  ·rename_i b hg hb;cases h1:cZ P (aD P) o st with
   | none=>simp[h1] at h
   | some e =>
     obtain⟨n,hn⟩:=H3 P h1
     refine⟨n, ?_⟩
     rw[if_pos hb,hn];rw[h1] at h;exact h
  ·rename_i b hg hb;exact⟨0,by rw[if_neg hb];exact h⟩
 ·cases h
theorem H4 {ops:Array Oper} {o:Oper} {st s:St} (h:gJ P bi (aD P) (wY P) ops o st=some s):∃n,gJ P bi (Mm P n) (Vy P n) ops o st=some s:=by
 unfold gJ at h ⊢
 cases hg:(if bi=true then Cj o else none) with
 | none =>
   simp only[hg] at h ⊢;exact aAS P h
 | some ga =>
   obtain⟨g,args⟩:=ga
   simp only[hg] at h ⊢;cases hgv:gv ops st o.guard with
   | none=>simp[hgv] at h
   | some t =>
     simp only[hgv] at h ⊢;cases t with
     | false=>exact⟨0,h⟩
     | true =>
       simp only[if_true] at h ⊢;cases h1:wY P g (args.map st.ev) st with
       | none=>simp[h1] at h
       | some r =>
         obtain⟨n,hn⟩:=(Zm P).1 h1
         refine⟨n, ?_⟩
         rw[h1] at h;rw[hn];exact h
theorem Zn {ops:Array Oper}:∀(l:List Oper) {st s:St},lO P bi (aD P) (wY P) ops l st=some s→∃n,lO P bi (Mm P n) (Vy P n) ops l st=some s
 | [],st,s,h=>⟨0,h⟩
 | o :: l,st,s,h=>by
   simp only[lO] at *
   obtain⟨s1,h1,h2⟩:=fQ.1 h
   obtain⟨n,hn⟩:=H4 P h1
   obtain⟨m,hm⟩:=Zn l h2
   exact⟨max n m,fQ.2 ⟨s1,Zj P (Cd P (Nat.le_max_left n m)) (Ce P (Nat.le_max_left n m)) hn,Bl P (Cd P (Nat.le_max_right n m)) (Ce P (Nat.le_max_right n m)) l hm⟩⟩
theorem Ou {cc:Nat→List AV→Option AV} {ii:Nat→List AV→St→Option (AV × St)} {ops:Array Oper}:∀(l:List Oper) (st:St),lO P false cc ii ops l st=Mr P cc ops l st
 | [],st=>rfl
 | o :: l,st=>by
   have e:∀s,gJ P false cc ii ops o s=cE P cc ops o s:=fun s=>rfl
   unfold lO Mr;rw[e];congr 1
   funext s
   exact Ou l s
theorem Yi (st:St):wL P bi .skip st=some (.normal,st):=(gM P).2 ⟨0,1,rfl⟩
theorem Yl (id:Nat) (st:St):wL P bi (.exit id) st=some (.exit id,st):=(gM P).2 ⟨0,1,rfl⟩
theorem HQ (st:St):wL P bi .ret st=some (.ret,st):=(gM P).2 ⟨0,1,rfl⟩
theorem Lq (id:Nat) (ops:Array Oper) (d:Bool) (st:St):wL P bi (.region id ops d) st=cC (lO P bi (aD P) (wY P) ops ops.toList st) fun s=>if bi=true∧¬oY ops s (Ext.dyn id ops.size (pN ops)) then none else some (.normal,s):=by
 apply Option.ext
 intro r;rw[gM,fQ];constructor
 ·rintro⟨n,m,h⟩
  cases m with
  | zero=>simp[uV] at h
  | succ m =>
    simp only[uV] at h;obtain⟨s1,h1,h2⟩:=fQ.1 h
    exact⟨s1,Bl P (aAR P n) (aDW P n) _ h1,h2⟩
 ·rintro⟨s1,h1,h2⟩
  obtain⟨n,hn⟩:=Zn P _ h1
  exact⟨n,1,by simp only[uV];exact fQ.2 ⟨s1,hn,h2⟩⟩
def Nz (r:Ex × St) (k:St→Option (Ex × St)):Option (Ex × St) :=
 match r.1 with
 | .normal=>k r.2
 | e=>some (e,r.2)
theorem Vl (a b:Code) (st:St):wL P bi (.seq a b) st=cC (wL P bi a st) fun r=>Nz r (wL P bi b):=by
 apply Option.ext
 intro r;rw[gM,fQ];constructor
 ·rintro⟨n,m,h⟩
  cases m with
  | zero=>simp[uV] at h
  | succ m =>
    simp only[uV] at h;obtain⟨⟨e1,s1⟩,h1,h2⟩:=fQ.1 h
    refine⟨(e1,s1),(gM P).2 ⟨n,m,h1⟩, ?_⟩
    cases e1 with
    | normal=>exact (gM P).2 ⟨n,m,h2⟩
    | _=>exact h2
 ·rintro⟨⟨e1,s1⟩,h1,h2⟩
  obtain⟨n1,m1,h1⟩:=(gM P).1 h1
  cases e1 with
  | normal =>
    obtain⟨n2,m2,h2⟩:=(gM P).1 h2
    refine⟨max n1 n2,max m1 m2+1, ?_⟩
    simp only[uV];exact fQ.2 ⟨(.normal,s1),oO P (Cd P (Nat.le_max_left _ _)) (Ce P (Nat.le_max_left _ _)) _ _ (Nat.le_max_left _ _) _ _ _ h1,oO P (Cd P (Nat.le_max_right _ _)) (Ce P (Nat.le_max_right _ _)) _ _ (Nat.le_max_right _ _) _ _ _ h2⟩
  | exit id=>exact⟨n1,m1+1,by simp only[uV];exact fQ.2 ⟨(.exit id,s1),h1,h2⟩⟩
  | ret=>exact⟨n1,m1+1,by simp only[uV];exact fQ.2 ⟨(.ret,s1),h1,h2⟩⟩
theorem Yk (b:Code) (st:St):wL P bi (.loop b) st=cC (wL P bi b st) fun r=>Nz r (wL P bi (.loop b)):=by
 apply Option.ext
 intro r;rw[gM,fQ];constructor
 ·rintro⟨n,m,h⟩
  cases m with
  | zero=>simp[uV] at h
  | succ m =>
    simp only[uV] at h;obtain⟨⟨e1,s1⟩,h1,h2⟩:=fQ.1 h
    refine⟨(e1,s1),(gM P).2 ⟨n,m,h1⟩, ?_⟩
    cases e1 with
    | normal=>exact (gM P).2 ⟨n,m,h2⟩
    | _=>exact h2
 ·rintro⟨⟨e1,s1⟩,h1,h2⟩
  obtain⟨n1,m1,h1⟩:=(gM P).1 h1
  cases e1 with
  | normal =>
    obtain⟨n2,m2,h2⟩:=(gM P).1 h2
    refine⟨max n1 n2,max m1 m2+1, ?_⟩
    simp only[uV];exact fQ.2 ⟨(.normal,s1),oO P (Cd P (Nat.le_max_left _ _)) (Ce P (Nat.le_max_left _ _)) _ _ (Nat.le_max_left _ _) _ _ _ h1,oO P (Cd P (Nat.le_max_right _ _)) (Ce P (Nat.le_max_right _ _)) _ _ (Nat.le_max_right _ _) _ _ _ h2⟩
  | exit id=>exact⟨n1,m1+1,by simp only[uV];exact fQ.2 ⟨(.exit id,s1),h1,h2⟩⟩
  | ret=>exact⟨n1,m1+1,by simp only[uV];exact fQ.2 ⟨(.ret,s1),h1,h2⟩⟩
theorem Re (id:Nat) (b:Code) (st:St):wL P bi (.block id b) st=cC (wL P bi b st) fun r=>some (r.1.inBlock id,r.2):=by
 apply Option.ext
 intro r;rw[gM,fQ];constructor
 ·rintro⟨n,m,h⟩
  cases m with
  | zero=>simp[uV] at h
  | succ m =>
    simp only[uV] at h;obtain⟨r1,h1,h2⟩:=fQ.1 h
    exact⟨r1,(gM P).2 ⟨n,m,h1⟩,h2⟩
 ·rintro⟨r1,h1,h2⟩
  obtain⟨n1,m1,h1⟩:=(gM P).1 h1
  exact⟨n1,m1+1,by simp only[uV];exact fQ.2 ⟨r1,h1,h2⟩⟩
theorem Yj (c:Operand) (a b:Code) (st:St) {t:Bool} (hc:st.ev c=.v (.bool t)):wL P bi (.cond c a b) st=if t=true then wL P bi a st else wL P bi b st:=by
 apply Option.ext
 intro r;rw[gM];constructor
 ·rintro⟨n,m,h⟩
  cases m with
  | zero=>simp[uV] at h
  | succ m =>
    simp only[uV,hc] at h;split at h
    ·rename_i hb;rw[if_pos hb];exact (gM P).2 ⟨n,m,h⟩
    ·rename_i hb;rw[if_neg hb];exact (gM P).2 ⟨n,m,h⟩
 ·intro h;split at h
  ·rename_i hb;obtain⟨n,m,h⟩:=(gM P).1 h
   exact⟨n,m+1,by simp only[uV,hc];rw[if_pos hb];exact h⟩
  ·rename_i hb;obtain⟨n,m,h⟩:=(gM P).1 h
   exact⟨n,m+1,by simp only[uV,hc];rw[if_neg hb];exact h⟩
noncomputable def zF (x:Code) (st:St):Option (Ex × St):=wL P false x st
theorem p6 {x:Code} {st:St} {r:Ex × St}:zF P x st=some r↔∃n m,uV P false (Mm P n) (Vy P n) m x st=some r:=gM P
theorem aAT (st:St):zF P .skip st=some (.normal,st):=Yi P st
theorem aAU (id:Nat) (st:St):zF P (.exit id) st=some (.exit id,st):=Yl P id st
theorem aDX (st:St):zF P .ret st=some (.ret,st):=HQ P st
theorem WK (id:Nat) (ops:Array Oper) (d:Bool) (st:St):zF P (.region id ops d) st=cC (Mr P (aD P) ops ops.toList st) fun s=>some (.normal,s):=by
 rw[← Ou P (ii:=wY P)];have h:=Lq P (bi:=false) id ops d st
 simp only[Bool.false_eq_true,false_and,if_false] at h;exact h
theorem aDY (a b:Code) (st:St):zF P (.seq a b) st=cC (zF P a st) fun r=>Nz r (zF P b):=Vl P a b st
theorem Gu (b:Code) (st:St):zF P (.loop b) st=cC (zF P b st) fun r=>Nz r (zF P (.loop b)):=Yk P b st
theorem H5 (id:Nat) (b:Code) (st:St):zF P (.block id b) st=cC (zF P b st) fun r=>some (r.1.inBlock id,r.2):=Re P id b st
theorem aAV (c:Operand) (a b:Code) (st:St) {t:Bool} (hc:st.ev c=.v (.bool t)):zF P (.cond c a b) st=if t=true then zF P a st else zF P b st:=Yj P c a b st hc
noncomputable def Al (f:Nat) (fn:Func) (r:Ex × St):Option AV :=
 match r.1 with
 | .exit _=>none
 | _=>jA P f fn r.2
def bJ (fn:Func):Bool:=tX fn && (match fn.body with|some c=>!lI c|none=>true)
theorem Kg {xs:List AV} (h:xs.any sI=false):pO xs=none:=by
 cases xs with
 | nil=>rfl
 | cons x xs =>
   cases x<;>first|rfl|simp[sI] at h
noncomputable def E0 (fn:Func) (r:Ex × St):Option AV :=
 match r.1 with
 | .exit _=>none
 | _=>wJ P fn r.2
theorem Xk {f:Nat} {fn:Func} {c:Code} (hf:P.funcs[f]? = some fn) (hb:fn.body=some c) (sK:tX fn=true) (e sz m:Nat) (cs xs:List AV) (hx:Ext.ext f (.uniq e sz m cs :: xs)=none) :
 aD P f (.uniq e sz m cs :: xs)=cC (wL P (lI c) c (St.oB e sz m cs xs)) (E0 P fn):=by
 apply Option.ext
 intro r;rw[yW,fQ];have hq:pO (.uniq e sz m cs :: xs)=some (e,sz,m,cs,xs):=rfl
 constructor
 ·rintro⟨n,h⟩
  cases n with
  | zero=>rw[Vz,hx] at h;cases h
  | succ n =>
    simp only[yZ,hx,hq,runM,hf,sK,hb,if_true] at h;obtain⟨r1,h1,h2⟩:=fQ.1 h
    exact⟨r1,(gM P).2 ⟨n,n,h1⟩,h2⟩
 ·rintro⟨r1,h1,h2⟩
  obtain⟨n,m',h1⟩:=(gM P).1 h1
  refine⟨max n m'+1, ?_⟩
  simp only[yZ,hx,hq,runM,hf,sK,hb,if_true];exact fQ.2 ⟨r1,oO P (Cd P (Nat.le_max_left _ _)) (Ce P (Nat.le_max_left _ _)) _ _ (Nat.le_max_right _ _) _ _ _ h1,h2⟩
theorem Ym {f:Nat} {fn:Func} {c:Code} (hf:P.funcs[f]? = some fn) (hb:fn.body=some c) (sK:tX fn=true) (xs:List AV) (hx:Ext.ext f xs=none) (hu:xs.any sI=false):aD P f xs=cC (wL P (lI c) c (St.init xs)) (Al P f fn):=by
 apply Option.ext
 intro r;rw[yW,fQ];constructor
 ·rintro⟨n,h⟩
  cases n with
  | zero=>rw[Vz,hx] at h;cases h
  | succ n =>
    simp only[yZ,hx,Kg hu,hu,w8,hf,sK,hb,if_true] at h;obtain⟨r1,h1,h2⟩:=fQ.1 h
    exact⟨r1,(gM P).2 ⟨n,n,h1⟩,h2⟩
 ·rintro⟨r1,h1,h2⟩
  obtain⟨n,m,h1⟩:=(gM P).1 h1
  refine⟨max n m+1, ?_⟩
  simp only[yZ,hx,Kg hu,hu,w8,hf,sK,hb,if_true];exact fQ.2 ⟨r1,oO P (Cd P (Nat.le_max_left _ _)) (Ce P (Nat.le_max_left _ _)) _ _ (Nat.le_max_right _ _) _ _ _ h1,h2⟩
theorem aAW {f:Nat} {fn:Func} {c:Code} (hf:P.funcs[f]? = some fn) (hb:fn.body=some c) (sK:bJ fn=true) (xs:List AV) (hx:Ext.ext f xs=none) (hu:xs.any sI=false):aD P f xs=cC (zF P c (St.init xs)) (Al P f fn):=by
 simp only[bJ,hb,Bool.and_eq_true,Bool.not_eq_true'] at sK;rw[Ym P hf hb sK.1 xs hx hu,sK.2];rfl
noncomputable def aH6 (fn:Func) (r:Ex × St):Option (AV × St) :=
 match r.1 with
 | .exit _=>none
 | _=>(sW P fn r.2).map fun x=>(x,r.2)
theorem Vm {f:Nat} {fn:Func} {c:Code} (hf:P.funcs[f]? = some fn) (hb:fn.body=some c) (sK:Vx true fn=true) (xs:List AV) (st:St):wY P f xs st=cC (wL P true c ((St.init xs).back st)) (aH6 P fn):=by
 apply Option.ext
 intro r;rw[Zm,fQ];constructor
 ·rintro⟨n,h⟩
  cases n with
  | zero=>rw[O4] at h;cases h
  | succ n =>
    simp only[Mu,y7,hf,sK,hb,if_true] at h;obtain⟨r1,h1,h2⟩:=fQ.1 h
    exact⟨r1,(gM P).2 ⟨n,n,h1⟩,h2⟩
 ·rintro⟨r1,h1,h2⟩
  obtain⟨n,m,h1⟩:=(gM P).1 h1
  refine⟨max n m+1, ?_⟩
  simp only[Mu,y7,hf,sK,hb,if_true];exact fQ.2 ⟨r1,oO P (Cd P (Nat.le_max_left _ _)) (Ce P (Nat.le_max_left _ _)) _ _ (Nat.le_max_right _ _) _ _ _ h1,h2⟩
end
end Go.Ab
end
